/- Layer 4 (disk): Room, All, Read. Bytes of a text in a row of the call's own: made, lengthened by noughts, laid over, made a text again. Layer 4 (disk): bytes laid over others. Layer 4 (disk): Create. -/
import Derived.Test.YtnacjogdndggeaaGreatDoorZ12
import Derived.Deep.RegionHeld3
import Derived.IntWalk
import Derived.Test.YtnacjogdndggeaaGreatDoorZ03
import Derived.Lib.ConvBytes
import Derived.Lib.LazyBuf
import Derived.Laws.IdiomStrings
import Derived.Deep.MidRow
section
namespace Go.Proofs.YtnacjogdndggeaaGreatDoor
open Go.Shelf Go.RowKit Go.Lib

theorem IsDk.drew {χ : Col} {c d : Nat} {D : Dsk} {w : World} (h : IsDk χ c w d D) : IsDk χ c w.drew d D := h.stp (C := fun _ => False) (Stp.refl _ _ _).drew (fun h => h)

set_option maxRecDepth 100000 in
set_option maxHeartbeats 2000000 in
theorem Room_any {χ : Col} {c d : Nat} {D : Dsk} {w : World} (h : IsDk χ c w d D) :
    Calls Tryz.prog 143 #[.pointer (some ⟨d, 0, none⟩)] w fun e w' => e = .returned (.int .i64 D.room) ∧ Below w.heap.size w w' := by
  have hcap := h.size.2
  have hs := h.size.1
  have c4 : w.cell? ⟨d, 4, none⟩ = some (.int .i64 D.cap) := by
    obtain ⟨fm, blk, wv, h⟩ := h
    exact h.own.1.cell 4
  have HD := Lib.hid h
  have HB := Lib.hid (Below.refl w.heap.size w)
  clear h
  go_enter Tryz.func143, Tryz.ntmps143
  go_upto_region 3 with (fail)
  go_region_held3 (fun w' => w'.cell? ⟨d, 4, none⟩ = some (.int .i64 D.cap) ∧ IsDk χ c w' d D ∧ Below w.heap.size w w')
    (first | exact And.intro c4 (And.intro HD.out.drew HB.out.drew) | assumption | go_keep)
    (first | (go_at_call 205; obtain ⟨q1, q2, q3⟩ := ‹_ ∧ IsDk χ c _ d D ∧ _›; refine (Size_any q2).mono ?_; rintro e w' ⟨rfl, hb⟩; have hS2 := And.intro ((hb.cell (p := ⟨d, 4, none⟩) q2.lt).trans q1) (And.intro (q2.below hb) (q3.trans (hb.mono q3.size)))))
  all_goals
    obtain ⟨q1, q2, q3⟩ := ‹_ ∧ IsDk χ c _ d D ∧ _›
    go_wp2
    go_ret
    exact ⟨ret_int (IntWalk.i64_in _ (by omega)), q3⟩

set_option maxRecDepth 100000 in
set_option maxHeartbeats 1000000 in
theorem All_there {χ : Col} {c d : Nat} {D : Dsk} {w : World} {n : List UInt8} {f : FileC} (h : IsDk χ c w d D) (hf : D.file n = some f) :
    Calls Tryz.prog 125 #[.pointer (some ⟨d, 0, none⟩), .string (S n)] w fun e w' => e = .returned (.tuple #[.string (S f.now), .int .i64 0]) ∧ Below w.heap.size w w' := by
  have hB := Lib.hid ((Below.refl w.heap.size w).alloc (Nat.le_refl _) (.cells #[.string (S n)] 9))
  have h2 := h.below hB.out
  have hn : n.length ≤ 1000 := by
    obtain ⟨fm, blk, wv, h⟩ := h
    exact (h.len n f hf).1
  have hb := bars_one h2 (b := w.heap.size) (s := n) (cell_one_new w _ _ 0 _ rfl) (by unfold maxLen; omega)
  rw [hf] at hb
  simp only [Option.isSome_some, if_true] at hb
  obtain ⟨fm, blk, wv, h2⟩ := h2
  have hlk := h2.lookup n (by unfold maxLen; omega)
  rw [hf] at hlk
  simp only at hlk
  have c2 := h2.own.1.cell 2
  have cf := (h2.file n f hf).1.cell 1
  clear h2 h hf
  go_enter Tryz.func125, Tryz.ntmps125
  go_wp2_with (fail)
  refine hb.mono ?_
  rintro e w' ⟨rfl, rfl⟩
  clear hb
  go_wp2
  go_ret2
  exact ⟨rfl, hB.out⟩

set_option maxRecDepth 100000 in
set_option maxHeartbeats 1000000 in
theorem All_none {χ : Col} {c d : Nat} {D : Dsk} {w : World} {n : List UInt8} (h : IsDk χ c w d D) (hf : D.file n = none) (hn : n.length ≤ 1000) :
    Calls Tryz.prog 125 #[.pointer (some ⟨d, 0, none⟩), .string (S n)] w fun e w' => e = .returned (.tuple #[.string (S []), .int .i64 9]) ∧ Below w.heap.size w w' := by
  have hB := Lib.hid ((Below.refl w.heap.size w).alloc (Nat.le_refl _) (.cells #[.string (S n)] 9))
  have h2 := h.below hB.out
  have hb := bars_one h2 (b := w.heap.size) (s := n) (cell_one_new w _ _ 0 _ rfl) (by unfold maxLen; omega)
  rw [hf] at hb
  simp only [Option.isSome_none, Bool.false_eq_true, if_false] at hb
  clear h2 h hf
  go_enter Tryz.func125, Tryz.ntmps125
  go_wp2_with (fail)
  refine hb.mono ?_
  rintro e w' ⟨rfl, rfl⟩
  clear hb
  go_wp2
  go_ret2
  exact ⟨rfl, hB.out⟩

set_option maxRecDepth 100000 in
set_option maxHeartbeats 1000000 in
theorem DRead_good {χ : Col} {c d : Nat} {D : Dsk} {w : World} {n : List UInt8} {f : FileC} {k m : Nat} (h : IsDk χ c w d D) (hf : D.file n = some f) (hk : k + m ≤ f.now.length) :
    Calls Tryz.prog 67 #[.pointer (some ⟨d, 0, none⟩), .string (S n), .int .i64 k, .int .i64 m] w fun e w' => e = .returned (.tuple #[.string (S ((f.now.drop k).take m)), .int .i64 0]) ∧ Below w.heap.size w w' := by
  have ha := All_there h hf
  have hfl : f.now.length ≤ 16777216 := by
    obtain ⟨fm, blk, wv, h⟩ := h
    exact (h.len n f hf).2.2
  clear h hf
  obtain ⟨im, b⟩ := f
  simp only at *
  go_enter Tryz.func67, Tryz.ntmps67
  go_wp2_with (fail)
  refine ha.mono ?_
  rintro e w' ⟨rfl, hB⟩
  clear ha
  have HB := Lib.hid hB
  clear hB
  have k1 : ((k : Int) + m) ≤ (S b).size := by simp; omega
  have k2 : (k : Int) ≤ (S b).size := by simp; omega
  have hex : Hid ((S b).extract k (k + m) = S ((b.drop k).take m)) := Lib.hid (by rw [extract_S, Nat.add_sub_cancel_left])
  go_wp2
  go_ret2
  refine ⟨?_, HB.out⟩
  rw [← hex.out]
  rfl

end Go.Proofs.YtnacjogdndggeaaGreatDoor
end

section
namespace Go.Proofs.YtnacjogdndggeaaGreatDoor
open Go.Shelf Go.RowKit Go.Lib

/-- An append whose run is known. -/
theorem wpList_append_run {P : Program} {w w' : World} {ops : Array Oper} {rest : List Oper} {o : Oper} {a : Act} {Q : Exit → Act → World → Prop} (hgd : o.guard = none) (s x : Operand) (t u : TypeId)
    (ho : o.op = .call { callee := .builtin .append, args := #[s, x], argTypes := #[t, u] }) (v y r : Value) (hs : a.eval s = v) (hx : a.eval x = y) (hrun : ∀ ty, (Builtin.append_ #[t, u] ty #[v, y]).run P w = .ok r w')
    (h : wpList P ops Q rest (a.put o.dst r) w') : wpList P ops Q (o :: rest) a w := by
  refine wpList_plain hgd fun K hK => ?_
  unfold Oper.wp
  simp [execOp, ho, resolve, invoke, builtin, hs, hx, hrun, Result.andThen]
  exact hK _ _ h

def bv (l : List UInt8) : List Value := l.map fun b => .int .u8 (b.toNat : Int)
theorem bv_length (l : List UInt8) : (bv l).length = l.length := by simp [bv]
theorem bv_get (l : List UInt8) (j : Nat) : (bv l)[j]? = (l[j]?).map fun b => Value.int .u8 (b.toNat : Int) := by simp [bv]

/-- Block g holds the bytes l, and room up to cap. -/
structure BR (w : World) (g : Nat) (l : List UInt8) (cap : Nat) : Prop where
  le : l.length ≤ cap
  most : cap ≤ maxLen
  range : w.rangeAt g 0 (bv l)
  there : w.there g 0 cap

theorem below_setCells' {B b : Nat} {a : World} (hb : B ≤ b) : ∀ (vs : List Value) (o : Nat) (w : World), Below B a w → Below B a (w.setCells b o vs)
  | [], _, _, h => h
  | v :: r, o, w, h => below_setCells' hb r (o + 1) _ (h.setCell (by exact hb) v)
theorem size_setCells' (b : Nat) : ∀ (vs : List Value) (o : Nat) (w : World), (w.setCells b o vs).heap.size = w.heap.size
  | [], _, _ => rfl
  | v :: r, o, w => by rw [World.setCells, size_setCells' b r]; simp

theorem zeroCells_u8 (n : Nat) : Builtin.zeroCells (Value.int .u8 0).cells n = Array.replicate n (.int .u8 0) := by
  show Builtin.zeroCells #[Value.int .u8 0] n = _
  unfold Builtin.zeroCells
  apply Array.ext
  · simp
  · intro j h1 h2
    simp [Nat.mod_one]

theorem br_new {w1 : World} {g : Nat} {l : List UInt8} {k : Nat} {t : TypeId} {fr : Nat × Nat} (hk : l.length + k ≤ maxLen) (hf : fr = (0, 0) ∨ l.length + k ≤ fr.1)
    (h : w1.heap[g]? = some (.cells ((bv l).toArray ++ Array.replicate k (.int .u8 0)) t fr)) : BR w1 g l (l.length + k) := by
  refine ⟨by omega, hk, fun j v hv => ?_, fun j hj => ⟨?_, ?_⟩⟩
  · rw [Nat.zero_add]
    unfold World.cell?
    rw [h]
    have hl : j < (bv l).length := (List.getElem?_eq_some_iff.1 hv).1
    show ((bv l).toArray ++ Array.replicate k (.int .u8 0))[j]? = some v
    rw [Array.getElem?_append_left (by simpa using hl)]
    simpa using hv
  · rw [Nat.zero_add]
    unfold World.cell?
    rw [h]
    show (((bv l).toArray ++ Array.replicate k (Value.int .u8 0))[j]?).isSome = true
    rw [Array.getElem?_eq_getElem (by simp [bv_length]; omega)]
    rfl
  · rw [Nat.zero_add]
    unfold World.frozen?
    rw [h]
    obtain ⟨lo, hi⟩ := fr
    show (decide (lo ≤ j) && decide (j < hi)) = false
    rcases hf with h1 | h1
    · injection h1 with h1 h2
      subst h1 h2
      simp
    · simp only at h1
      rw [decide_eq_false (by omega)]
      rfl

set_option maxRecDepth 100000 in
/-- []byte(s) -/
theorem conv_bytes (l : List UInt8) (w : World) (hl : l.length ≤ 140737488355328) : ∃ cap W1, (convert 9 199 (.string (S l))).run Tryz.prog w = .ok (.slice (some ⟨w.heap.size, 0, none⟩) l.length cap) W1 ∧ BR W1 w.heap.size l cap ∧ Below w.heap.size w W1 ∧ w.heap.size < W1.heap.size := by
  have hr := Lib.run_convert_string_bytes (P := Tryz.prog) w 9 199 5 (S l) Tryz.underlying9 Tryz.underlying199 Tryz.underlying5
  rw [S_size] at hr
  have hge := grownCap_ge w l.length 0 5
  have hmx := grownCap_le_maxLen w l.length 0 5 (by unfold maxLen; omega)
  have hn := Lib.bytesWorld_at_new w 5 (S l)
  have hc : Lib.bytesCells w 5 (S l) = (bv l).toArray ++ Array.replicate (grownCap w l.length 0 5 - l.length) (.int .u8 0) := by
    unfold Lib.bytesCells
    rw [S_size]
    congr 1
    simp [S, bv]
  rw [hc] at hn
  refine ⟨_, _, hr, ?_, ?_, by rw [Lib.bytesWorld_size]; omega⟩
  · have := br_new (l := l) (k := grownCap w l.length 0 5 - l.length) (by omega) (.inr (by simp [bv_length])) hn
    rwa [show l.length + (grownCap w l.length 0 5 - l.length) = grownCap w l.length 0 5 by omega] at this
  · exact ⟨rfl, rfl, rfl, by rw [Lib.bytesWorld_size]; omega, fun k hk => Lib.bytesWorld_at_old w _ _ k hk⟩

theorem u8_info : (Tryz.prog.info? 5).map (fun i => (i.zero, i.size, i.bytes)) = some (some (.int .u8 0), 1, 1) := by kernel_rfl

set_option maxRecDepth 100000 in
/-- append(b, make([]byte, n)...) -/
theorem append_zeros {W1 : World} {g cap : Nat} {l : List UInt8} (h : BR W1 g l cap) (hg : g < W1.heap.size) (n : Nat) (hn : l.length + n ≤ 70368744177664) (hl1 : 1 ≤ n) : ∃ g2 cap2 W2, (∀ ty, (Builtin.append_ #[199, 3] ty #[.slice (some ⟨g, 0, none⟩) l.length cap, .int .i64 (n : Int)]).run Tryz.prog W1 = .ok (.slice (some ⟨g2, 0, none⟩) (l.length + n) cap2) W2) ∧
    BR W2 g2 (l ++ List.replicate n 0) cap2 ∧ (g2 = g ∨ g2 = W1.heap.size) ∧ (∀ B, B ≤ g → Below B W1 W2) ∧ g2 < W2.heap.size := by
  obtain ⟨i0, hi, hz0, hz1, hz2⟩ := info_parts u8_info
  have hsz : ∀ w, (Go.sizeOf 5).run Tryz.prog w = .ok 1 w := fun w => by simp [Go.sizeOf, typeInfo, hi, hz1]
  have hw : IntKind.i64.wrap (n : Int) = n := IntWalk.i64_in _ (by omega)
  have hbv : bv (l ++ List.replicate n 0) = bv l ++ List.replicate n (.int .u8 0) := by simp [bv]
  have hn48 : ¬ (281474976710656 < (n : Int)) := by omega
  have hneg : ¬ ((n : Int) < 0) := by omega
  by_cases hroom : l.length + n ≤ cap
  · have ht : W1.there g l.length n := fun j hj => by
      have := h.there (l.length + j) (by omega)
      rwa [Nat.zero_add] at this
    have hst := run_storeCells_cells (P := Tryz.prog) g l.length (List.replicate n (Value.int .u8 0)) 0 W1 (by simpa using fun j hj => (ht j hj).1) (by simpa using fun j hj => (ht j hj).2) (by
      intro v hv
      obtain ⟨_, rfl⟩ := List.mem_replicate.1 hv
      rfl)
    refine ⟨g, cap, W1.setCells g l.length (List.replicate n (.int .u8 0)), fun ty => ?_, ⟨by simp; omega, h.most, ?_, World.there_setCells h.there _ _ _⟩, .inl rfl, fun B hB => below_setCells' hB _ _ _ (Below.refl _ _), ?_⟩
    · have hadd : (⟨g, 0, none⟩ : Addr).add l.length = ⟨g, l.length, none⟩ := by rw [Addr.add_mid, Nat.zero_add]
      simp [Builtin.append_, run_underlying Tryz.underlying199, run_underlying Tryz.underlying3, hsz, typeInfo, zeroValue, hi, hz0, hz2, asInt, asIntOf, hw, hn48, hneg, hroom, zeroCells_u8, show n ≠ 0 by omega, hadd, hst]
    · rw [hbv]
      intro j v hv
      rw [Nat.zero_add]
      by_cases hj : j < l.length
      · rw [List.getElem?_append_left (by simpa [bv_length] using hj)] at hv
        rw [World.cell?_setCells_out g _ _ _ _ (fun _ _ => .inl hj)]
        have := h.range j v hv
        rwa [Nat.zero_add] at this
      · have hj2 : j < l.length + n := by
          have := (List.getElem?_eq_some_iff.1 hv).1
          simpa [bv_length] using this
        have hs := World.rangeAt_setCells_same W1 g l.length (List.replicate n (.int .u8 0)) (by simpa using ht) (j - l.length) v (by
          rw [List.getElem?_append_right (by simpa [bv_length] using Nat.le_of_not_lt hj), bv_length] at hv
          exact hv)
        rwa [show l.length + (j - l.length) = j by omega] at hs
    · exact Nat.lt_of_lt_of_le hg (below_setCells' (B := 0) (Nat.zero_le _) _ _ _ (Below.refl _ _)).size
  · have hge := grownCap_ge W1 (l.length + n) cap 5
    have hmx := grownCap_le_maxLen W1 (l.length + n) cap 5 (by unfold maxLen; omega)
    have hfit : ¬ (281474976710656 < Builtin.nextslicecap (l.length + n) cap) := by
      have := nextslicecap_le (need := l.length + n) (old := cap) (by omega)
      omega
    have h63 : ¬ (9223372036854775807 < ((l.length : Int) + n)) := by omega
    have hfo := run_firstCells_some (P := Tryz.prog) W1.drew 1 l.length ⟨g, 0, none⟩ l.length cap (bv l) (by simp [bv_length]) (fun j v hv => by
      rw [Addr.add_mid]
      exact h.range j v hv)
    have hnew := heap_alloc_new W1.drew (.cells ((bv (l ++ List.replicate n 0)).toArray ++ Array.replicate (grownCap W1 (l.length + n) cap 5 - (l.length + n)) (.int .u8 0)) 5)
    refine ⟨W1.heap.size, grownCap W1 (l.length + n) cap 5, W1.drew.alloc (.cells ((bv (l ++ List.replicate n 0)).toArray ++ Array.replicate (grownCap W1 (l.length + n) cap 5 - (l.length + n)) (.int .u8 0)) 5), fun ty => ?_, ?_, .inr rfl, fun B hB => ?_, ?_⟩
    · simp [Builtin.append_, run_underlying Tryz.underlying199, run_underlying Tryz.underlying3, hsz, typeInfo, zeroValue, hi, hz0, hz2, asInt, asIntOf, hw, hn48, hneg, hroom, hfit, h63, zeroCells_u8, Question.forced, hfo, newRow, grownCap, show n ≠ 0 by omega]
      rw [hbv]
      congr 2
      apply Array.ext'
      simp [List.replicate_append_replicate]
    · have := br_new (w1 := W1.drew.alloc (.cells ((bv (l ++ List.replicate n 0)).toArray ++ Array.replicate (grownCap W1 (l.length + n) cap 5 - (l.length + n)) (.int .u8 0)) 5)) (g := W1.heap.size) (l := l ++ List.replicate n 0) (k := grownCap W1 (l.length + n) cap 5 - (l.length + n)) (by simp; omega) (.inl rfl) hnew
      simp only [List.length_append, List.length_replicate] at this
      rwa [show l.length + n + (grownCap W1 (l.length + n) cap 5 - (l.length + n)) = grownCap W1 (l.length + n) cap 5 by omega] at this
    · exact ((Below.refl _ _).drew.mono (by omega)).alloc (by show B ≤ W1.heap.size; omega) _
    · simp

set_option maxRecDepth 100000 in
/-- copy(b[k:], s) -/
theorem copy_over {W1 : World} {g cap : Nat} {l : List UInt8} (h : BR W1 g l cap) (k : Nat) (s : List UInt8) (hk : k + s.length ≤ l.length) : ∃ W2, (∀ ty, (Builtin.copy_ #[199, 9] ty #[.slice (some ⟨g, k, none⟩) (l.length - k) (cap - k), .string (S s)]).run Tryz.prog W1 = .ok (goInt s.length) W2) ∧
    BR W2 g (l.take k ++ s ++ l.drop (k + s.length)) cap ∧ (∀ B, B ≤ g → Below B W1 W2) ∧ W2.heap.size = W1.heap.size := by
  obtain ⟨i0, hi, hz0, hz1, hz2⟩ := info_parts u8_info
  have hsz : ∀ w, (Go.sizeOf 5).run Tryz.prog w = .ok 1 w := fun w => by simp [Go.sizeOf, typeInfo, hi, hz1]
  have hle := h.le
  have ht : W1.there g k (bv s).length := fun j hj => by
    have := h.there (k + j) (by rw [bv_length] at hj; omega)
    rwa [Nat.zero_add] at this
  refine ⟨W1.setCells g k (bv s), fun ty => ?_, ⟨by simp; omega, h.most, ?_, World.there_setCells h.there _ _ _⟩, fun B hB => below_setCells' hB _ _ _ (Below.refl _ _), ?_⟩
  · have := run_copy_string (P := Tryz.prog) W1 199 9 ty 5 g k (l.length - k) (cap - k) (S s) Tryz.underlying199 hsz (by simp; omega) (fun j hj => (ht j (by rw [bv_length]; simpa using hj)).1) (fun j hj => (ht j (by rw [bv_length]; simpa using hj)).2)
    rw [S_size, S_data] at this
    exact this
  · intro j v hv
    rw [Nat.zero_add]
    have hb : bv (l.take k ++ s ++ l.drop (k + s.length)) = (bv l).take k ++ bv s ++ (bv l).drop (k + s.length) := by simp [bv]
    rw [hb] at hv
    have hl1 : ((bv l).take k).length = k := by simp [bv_length]; omega
    by_cases h1 : j < k
    · rw [World.cell?_setCells_out g _ _ _ _ (fun _ _ => .inl h1)]
      rw [List.append_assoc, List.getElem?_append_left (by omega), List.getElem?_take, if_pos h1] at hv
      have := h.range j v hv
      rwa [Nat.zero_add] at this
    · by_cases h2 : j < k + s.length
      · have hs := World.rangeAt_setCells_same W1 g k (bv s) ht (j - k) v (by
          rw [List.append_assoc, List.getElem?_append_right (by omega), List.getElem?_append_left (by rw [bv_length]; omega), hl1] at hv
          exact hv)
        rwa [show k + (j - k) = j by omega] at hs
      · rw [World.cell?_setCells_out g _ _ _ _ (fun _ _ => .inr (by rw [bv_length]; show k + s.length ≤ j; omega))]
        rw [List.getElem?_append_right (by rw [List.length_append, hl1, bv_length]; omega), List.getElem?_drop, List.length_append, hl1, bv_length, show k + s.length + (j - (k + s.length)) = j by omega] at hv
        have := h.range j v hv
        rwa [Nat.zero_add] at this
  · exact size_setCells' _ _ _ _

/-- string(b) -/
theorem conv_back {W1 : World} {g cap : Nat} {l : List UInt8} (h : BR W1 g l cap) : (convert 199 9 (.slice (some ⟨g, 0, none⟩) l.length cap)).run Tryz.prog W1 = .ok (.string (S l)) W1 :=
  run_convert_bytes_back W1 _ _ 5 ⟨g, 0, none⟩ cap l Tryz.underlying199 Tryz.underlying5 Tryz.underlying9 (fun j hj => by
    rw [Addr.add_mid]
    refine h.range j _ ?_
    rw [bv_get, List.getElem?_eq_getElem hj]
    rfl)

end Go.Proofs.YtnacjogdndggeaaGreatDoor
end

section
namespace Go.Proofs.YtnacjogdndggeaaGreatDoor
open Go.Shelf Go.RowKit Go.Lib

set_option maxRecDepth 100000 in
set_option maxHeartbeats 1000000 in
theorem laid_any (b s : List UInt8) (k : Nat) (w : World) (hk : k ≤ b.length) (hb : b.length ≤ 16777216) (hs : s.length ≤ 16777216) :
    Calls Tryz.prog 218 #[.string (S b), .int .i64 k, .string (S s)] w fun e w' => e = .returned (.string (S (lay b k s))) ∧ Below w.heap.size w w' := by
  by_cases h0 : s = []
  · subst h0
    rw [lay_nil]
    go_enter Tryz.func218, Tryz.ntmps218
    go_wp2
    go_ret
    exact ⟨rfl, Below.refl _ _⟩
  · have hn0 : s.isEmpty = false := by cases s with | nil => exact absurd rfl h0 | cons _ _ => rfl
    have hpos : 0 < s.length := List.length_pos_iff.2 h0
    have H0 := Lib.hid h0
    clear h0
    obtain ⟨cap, W1, hcv, hBR, hbl, hlt⟩ := conv_bytes b w (by omega)
    by_cases hgt : b.length < k + s.length
    · obtain ⟨n, hn⟩ : ∃ n, k + s.length = b.length + n := ⟨k + s.length - b.length, by omega⟩
      obtain ⟨g2, cap2, W2, happ, hBR2, hg2, hbl2, hlt2⟩ := append_zeros hBR hlt n (by omega) (by omega)
      obtain ⟨W3, hcopy, hBR3, hbl3, hsz3⟩ := copy_over hBR2 k s (by simp; omega)
      have hback := conv_back hBR3
      have hfin : Hid ((b ++ List.replicate n (0 : UInt8)).take k ++ s ++ (b ++ List.replicate n (0 : UInt8)).drop (k + s.length) = lay b k s) := Lib.hid (by
        rw [lay_in s hk, List.take_append_of_le_length hk, List.drop_of_length_le (by simp; omega), List.drop_of_length_le (by omega)])
      have hl3 : ((b ++ List.replicate n (0 : UInt8)).take k ++ s ++ (b ++ List.replicate n (0 : UInt8)).drop (k + s.length)).length = b.length + n := by simp; omega
      have hl2 : (b ++ List.replicate n (0 : UInt8)).length = b.length + n := by simp
      rw [hl3] at hback
      rw [hl2] at hcopy
      rw [hfin.out] at hback
      have hcapk : b.length + n ≤ cap2 := by have := hBR2.le; rw [hl2] at this; exact this
      have hcapm : cap2 ≤ 9223372036854775807 := hBR2.most
      have hki : (k : Int) + s.length - b.length = (n : Int) := by omega
      have HB := Lib.hid ((hbl.trans ((hbl2 w.heap.size (Nat.le_refl _)).trans (hbl3 w.heap.size (by rcases hg2 with rfl | rfl <;> omega)))))
      have hnpos : (0 : Int) < (n : Int) := by omega
      clear hBR hBR2 hBR3 hfin hl3 hl2 hbl hbl2 hbl3 hg2 hlt hlt2 hsz3
      have HA := Lib.hid happ
      clear happ
      go_enter Tryz.func218, Tryz.ntmps218
      go_wp2_with (first | (at_builtin; refine wpList_append_run rfl _ _ 199 3 rfl _ _ _ rfl rfl HA.out ?_) | fail)
      go_ret
      exact ⟨rfl, HB.out⟩
    · obtain ⟨W3, hcopy, hBR3, hbl3, hsz3⟩ := copy_over hBR k s (by omega)
      have hback := conv_back hBR3
      have hfin : Hid (b.take k ++ s ++ b.drop (k + s.length) = lay b k s) := Lib.hid (lay_in s hk).symm
      have hl3 : (b.take k ++ s ++ b.drop (k + s.length)).length = b.length := by simp; omega
      rw [hl3] at hback
      rw [hfin.out] at hback
      have hcapk : b.length ≤ cap := hBR.le
      have hcapm : cap ≤ 9223372036854775807 := hBR.most
      have HB := Lib.hid (hbl.trans (hbl3 w.heap.size (Nat.le_refl _)))
      have hnneg : (k : Int) + s.length - b.length ≤ 0 := by omega
      clear hBR hBR3 hfin hl3 hbl hbl3 hlt hsz3
      go_enter Tryz.func218, Tryz.ntmps218
      go_wp2
      go_ret
      exact ⟨rfl, HB.out⟩

end Go.Proofs.YtnacjogdndggeaaGreatDoor
end

section
namespace Go.Proofs.YtnacjogdndggeaaGreatDoor
open Go.Shelf Go.RowKit Go.Lib

theorem filesD_congr {b b' : List UInt8 → Nat} {l : List (List UInt8 × FileC)} (h : ∀ p ∈ l, b p.1 = b' p.1) : filesD b l = filesD b' l := by
  unfold filesD amap
  congr 1
  apply List.map_congr_left
  intro p hp
  show (Lit.string p.1, (DataW.lit (Lit.int .i64 (b p.1)) : DataW Unit)) = _
  rw [h p hp]
theorem flatMap_congr' {α β : Type} {f g : α → List β} : ∀ {l : List α}, (∀ x ∈ l, f x = g x) → l.flatMap f = l.flatMap g
  | [], _ => rfl
  | y :: r, h => by rw [List.flatMap_cons, List.flatMap_cons, h y List.mem_cons_self, flatMap_congr' fun x hx => h x (List.mem_cons_of_mem _ hx)]
theorem filesD_put (b : List UInt8 → Nat) (l : List (List UInt8 × FileC)) (n : List UInt8) (f : FileC) : (filesD b l).put (.string n) (.lit (.int .i64 (b n))) = filesD b (aput Lit.string n f l) :=
  amap_put (f := fun n (_ : FileC) => (.lit (.int .i64 (b n)) : DataW Unit)) kfS n f l
theorem filesD_del (b : List UInt8 → Nat) (l : List (List UInt8 × FileC)) (n : List UInt8) : (filesD b l).del (.string n) = filesD b (adel n l) :=
  amap_del (f := fun n (_ : FileC) => (.lit (.int .i64 (b n)) : DataW Unit)) kfS n l

/-- A new file's name laid into the map. -/
theorem DkAt.created {χ : Col} {c d fm : Nat} {D : Dsk} {blk : List UInt8 → Nat} {wv : Value} {w w2 : World} {n : List UInt8} (h : DkAt χ c w d D fm blk wv) (hn : D.file n = none) (hl : n.length ≤ 1000) {k : Nat}
    (hm : w2.ownsMap Tryz.prog 9 Rp fm k ((filesD blk D.files).put (.string n) (.lit (.int .i64 (w.heap.size : Nat)))))
    (hg : (w.alloc (.cells #[.string (S []), .string (S [])] 282)).grownBy w2 (some fm)) :
    DkAt (paint χ w.heap.size c) c w2 d (D.create n) fm (fun m => if m = n then w.heap.size else blk m) wv := by
  have hfile : ∀ m, (D.create n).file m = if m = n then some ⟨[], []⟩ else D.file m := D.file_create n
  have hnot : ∀ p ∈ D.files, p.1 ≠ n := aget_none.1 hn
  have hnew : Blk (w.alloc (.cells #[.string (S []), .string (S [])] 282)) w.heap.size #[.string (S []), .string (S [])] 282 := Blk.new _ _ _
  have hold : ∀ b, b < w.heap.size → b ≠ fm → w2.heap[b]? = w.heap[b]? := fun b hb hne => by
    rw [hg.block b (by simp; omega) (by simpa using hne)]
    exact Below.heap_alloc _ _ _ hb
  have hfm := h.map.lt
  have hoB : ∀ {b : Nat} {cs : Array Value} {t : TypeId}, Blk w b cs t → b ≠ fm → Blk w2 b cs t := fun {b cs t} hB hne => by
    unfold Blk
    rw [hold b hB.lt hne]
    exact hB
  have hnB : Blk w2 w.heap.size #[.string (S []), .string (S [])] 282 := by
    unfold Blk
    rw [hg.block _ (by simp) (by simp; omega)]
    exact hnew
  have hE : filesD (fun m => if m = n then w.heap.size else blk m) D.files = filesD blk D.files := filesD_congr fun p hp => if_neg (hnot p hp)
  have hP := filesD_put (fun m => if m = n then w.heap.size else blk m) D.files n ⟨[], []⟩
  rw [hE] at hP
  simp only [if_pos] at hP
  exact {
    own := ⟨hoB h.own.1 h.d_fm, (paint_old h.own.1.lt).trans h.own.2⟩
    map := by
      rw [hP] at hm
      exact ownsMap_tight_files hm
    cmap := (paint_old hfm).trans h.cmap
    file := fun m f hf => by
      rw [hfile] at hf
      split at hf
      · rename_i e
        injection hf with hf
        subst e hf
        simp only [if_pos]
        exact ⟨hnB, paint_new (Nat.le_refl _)⟩
      · rename_i e
        simp only [if_neg e]
        have h1 := h.file m f hf
        exact ⟨hoB h1.1 (h.ne_fm hf), (paint_old h1.1.lt).trans h1.2⟩
    inj := fun a b ha hb e => by
      rw [hfile] at ha hb
      by_cases ea : a = n <;> by_cases eb : b = n
      · rw [ea, eb]
      · simp only [ea, if_pos, if_neg eb] at e hb
        obtain ⟨f, hf⟩ := Option.isSome_iff_exists.1 hb
        have := (h.file b f hf).1.lt
        omega
      · simp only [eb, if_pos, if_neg ea] at e ha
        obtain ⟨f, hf⟩ := Option.isSome_iff_exists.1 ha
        have := (h.file a f hf).1.lt
        omega
      · simp only [if_neg ea, if_neg eb] at e ha hb
        exact h.inj a b ha hb e
    row := by
      have hr : w2.ownsRow 0 306 3 wv D.waits.length (D.waits.flatMap (waitV blk)) := (h.row.alloc _).kept hg (.inr h.fm_row)
      have e : D.waits.flatMap (waitV blk) = D.waits.flatMap (waitV fun m => if m = n then w.heap.size else blk m) := by
        refine flatMap_congr' fun q hq => ?_
        have hq2 := h.there q hq
        have : q.name ≠ n := fun e2 => by
          rw [e2, hn] at hq2
          cases hq2
        unfold waitV
        simp only [if_neg this]
      rw [e] at hr
      exact hr
    crow := fun g hg' => (paint_old (h.row.lt g hg').2).trans (h.crow g hg')
    there := fun q hq => by
      rw [hfile]
      split
      · rfl
      · exact h.there q hq
    cap := h.cap
    len := fun m f hf => by
      rw [hfile] at hf
      split at hf
      · rename_i e
        injection hf with hf
        subst e hf
        exact ⟨hl, by simp, by simp⟩
      · exact h.len m f hf
    size := by
      rw [Dsk.size_create h.uni hn]
      exact h.size }

set_option maxRecDepth 100000 in
set_option maxHeartbeats 1000000 in
theorem Create_new {χ : Col} {c d : Nat} {D : Dsk} {w : World} {n : List UInt8} (h : IsDk χ c w d D) (hn : D.file n = none) (hl : n.length ≤ 1000) (hN : D.files.length ≤ 1000000000) :
    Calls Tryz.prog 166 #[.pointer (some ⟨d, 0, none⟩), .string (S n)] w fun e w' => e = .returned (.int .i64 0) ∧ ∃ χ', Stp (· = c) χ w χ' w' ∧ IsDk χ' c w' d (D.create n) := by
  have hb := bars_none h none 0
  have hd := done_any h
  obtain ⟨fm, blk, wv, h⟩ := h
  have c2 := h.own.1.cell 2
  have hlk := h.lookup n (by unfold maxLen; omega)
  rw [hn] at hlk
  simp only at hlk
  have hown := h.map
  have hkey := name_key n (by unfold maxLen; omega)
  have hmax : D.files.length < maxLen := by unfold maxLen; omega
  have HH := Lib.hid h
  have HN := Lib.hid hn
  have hfm := h.cmap
  clear h hn
  go_enter Tryz.func166, Tryz.ntmps166
  go_wp2_with (fail)
  refine hb.mono ?_
  rintro e w' ⟨rfl, rfl⟩
  go_wp2_with (fail)
  refine hd.mono ?_
  rintro e w' ⟨rfl, rfl⟩
  go_wp2_with (first | (at_mapUpdate; refine wpList_mapUpdate_own _ rfl _ _ _ 72 rfl 9 262 files_keyed Tryz.underlying72 Rp fm D.files.length _ rfl (hown.alloc _) hmax _ _ (.string n) rfl rfl hkey _ [] rfl ?_; intro w1 hown1 hgrow1) | fail)
  go_ret
  refine ⟨rfl, paint χ w.heap.size c, ?_, fm, _, wv, HH.out.created HN.out hl hown1 hgrow1⟩
  refine Stp.paint ?_ (Nat.le_refl _) c
  have s1 : Stp (· = c) χ w χ (w.alloc (.cells #[.string (S []), .string (S [])] 282)) := (Stp.refl _ _ _).alloc _
  exact s1.trans (Stp.of_grown hgrow1 fun k hk => .inl (by injection hk with hk; rw [← hk]; exact hfm))

end Go.Proofs.YtnacjogdndggeaaGreatDoor
end
