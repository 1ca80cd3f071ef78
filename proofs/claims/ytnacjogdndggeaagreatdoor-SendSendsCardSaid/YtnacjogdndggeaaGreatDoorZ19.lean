/- Layer 5 (seg): names of segments. Layer 5 (seg): Read. Plain: a row with a segment made for what comes. -/
import Derived.Test.YtnacjogdndggeaaGreatDoorZ16
import Derived.Test.YtnacjogdndggeaaGreatDoorZ05
import Derived.Test.YtnacjogdndggeaaGreatDoorZ13
import Derived.Test.YtnacjogdndggeaaGreatDoorZ12
import Derived.Deep.RegionWith
import Derived.Test.YtnacjogdndggeaaGreatDoorZ10
section
namespace Go.Proofs.YtnacjogdndggeaaGreatDoor
open Go.Shelf Go.RowKit Go.Lib Go.Sort

/-- The library's table of powers lies where nothing turns. -/
def Tab (χ : Col) (w : World) : Prop := Lib.TabIs Tryz.prog w "internal/strconv.uint64pow10" .u64 Lib.pow10Tab ∧ ∀ g, Tryz.prog.globalNamed "internal/strconv.uint64pow10" = some g → χ g = 0
theorem Tab.stp {C : Nat → Prop} {χ χ' : Col} {w w' : World} (h : Tab χ w) (s : Stp C χ w χ' w') (h0 : ¬ C 0) : Tab χ' w' := by
  obtain ⟨h1, h2⟩ := h
  unfold Lib.TabIs World.var? at h1
  cases hg : Tryz.prog.globalNamed "internal/strconv.uint64pow10" with
  | none =>
    rw [hg] at h1
    cases h1
  | some g =>
    rw [hg] at h1
    simp only [Option.bind_some] at h1
    have hlt : g < w.heap.size := by
      rcases Nat.lt_or_ge g w.heap.size with hl | hl
      · exact hl
      · rw [Array.getElem?_eq_none hl] at h1
        cases h1
    have h3 := h2 g hg
    refine ⟨?_, fun k hk => ?_⟩
    · unfold Lib.TabIs World.var?
      rw [hg]
      simp only [Option.bind_some]
      rw [s.block hlt (by rw [h3]; exact h0)]
      exact h1
    · rw [hg] at hk
      injection hk with hk
      rw [← hk, s.col g hlt]
      exact h3
theorem Tab.below {χ : Col} {w w' : World} (h : Tab χ w) (s : Below w.heap.size w w') : Tab χ w' := h.stp (C := fun _ => False) (Stp.of_below s) (fun h => h)
theorem Tab.drewN {χ : Col} {w : World} (h : Tab χ w) (n : Nat) : Tab χ (w.drewN n) := h
theorem below_grow (w : World) (k : Nat) (os : Array Obj) : Below w.heap.size w (grow (w.drewN k) os) := by
  refine ⟨rfl, rfl, rfl, ?_, fun j hj => ?_⟩
  · show w.heap.size ≤ (w.heap ++ os).size
    simp
  · show (w.heap ++ os)[j]? = w.heap[j]?
    rw [Array.getElem?_append_left hj]

set_option maxRecDepth 100000
set_option maxHeartbeats 1000000

theorem Name_any {χ : Col} {w : World} (ht : Tab χ w) (head : List UInt8) (n : Nat) (hn : n ≤ 99999999) (hh : head.length ≤ 100) :
    Calls Tryz.prog 126 #[.string (S head), .int .i64 n] w fun e w' => e = .returned (.tuple #[.string (S (segName head n)), .bool true]) ∧ Below w.heap.size w w' := by
  have hdl : (decDigits n).length ≤ 8 := by
    rw [decDigits_length]
    exact nDigits_le8 hn
  have hi := Tryz.strconv_Itoa (n : Int) (by omega) (by omega) w ht.1
  rw [itoa_nonneg] at hi
  have hrep := fun W : World => Tryz.strings_Repeat (S [48]) (8 - (decDigits n).length) W (by omega) (by simp; omega)
  have hpad : segName head n = head ++ repeatL [48] (8 - (decDigits n).length) ++ decDigits n := by
    rw [segName, pad8, show ([48] : List UInt8) = List.replicate 1 48 from rfl, repeatL_replicate, Nat.mul_one, List.append_assoc]
  have hlen : (repeatL [48] (8 - (decDigits n).length)).length = 8 - (decDigits n).length := by
    rw [repeatL_length]
    simp
  rw [hpad]
  clear hpad ht
  rw [show (⟨(decDigits n).toArray⟩ : ByteArray) = S (decDigits n) from rfl] at hi
  rw [show (⟨(repeatL (S [48]).data.toList (8 - (decDigits n).length)).toArray⟩ : ByteArray) = S (repeatL [48] (8 - (decDigits n).length)) by simp [S]] at hrep
  have hlen8 : (repeatL [48] (8 - (decDigits n).length)).length ≤ 8 := by omega
  clear hlen
  generalize repeatL [48] (8 - (decDigits n).length) = rp at *
  have hsub : (8 : Int) - ((decDigits n).length : Int) = ((8 - (decDigits n).length : Nat) : Int) := by omega
  generalize 8 - (decDigits n).length = k at *
  generalize decDigits n = dd at *
  have s1 : (S head).size ≤ 100 := by simpa using hh
  have s2 : (S rp).size ≤ 8 := by simpa using hlen8
  have s3 : (S dd).size ≤ 8 := by simpa using hdl
  have s4 : (S head ++ S rp).size ≤ 108 := by simp; omega
  have hn1 : ¬ (n : Int) < 0 := by omega
  have hn2 : ¬ (99999999 : Int) < n := by omega
  go_enter Tryz.func126, Tryz.ntmps126
  go_wp2_with (fail)
  refine hi.mono ?_
  rintro e w' ⟨rfl, k, os, hw'⟩
  have HB := Lib.hid (show Below w.heap.size w w' by rw [hw']; exact below_grow w k os)
  clear hw' hi
  go_wp2_with (fail)
  refine (hrep w').mono ?_
  rintro e w2 ⟨rfl, hB2⟩
  clear hrep
  have HB2 := Lib.hid (HB.out.trans (hB2.mono HB.out.size))
  clear hB2 HB
  go_wp2_with (fail)
  go_ret2
  refine ⟨?_, HB2.out⟩
  rw [List.append_assoc]
  rfl

theorem name_any {χ : Col} {c r d : Nat} {R : RowM} {w : World} (h : IsRow χ c w r d R) (ho : R.Ok) (ht : Tab χ w) (n : Nat) (hn : n ≤ 99999999) :
    Calls Tryz.prog 68 #[.pointer (some ⟨r, 0, none⟩), .int .i64 n] w fun e w' => e = .returned (.string (S (segName R.head n))) ∧ Below w.heap.size w w' := by
  obtain ⟨pv, h⟩ := h
  have c1 := h.own.1.cell 1
  have hN := Name_any ht R.head n hn ho.head
  clear h ho ht
  go_enter Tryz.func68, Tryz.ntmps68
  go_wp2_with (fail)
  refine hN.mono ?_
  rintro e w' ⟨rfl, hB⟩
  go_wp2_with (fail)
  go_ret
  exact ⟨rfl, hB⟩


theorem Left_row {χ : Col} {c r d : Nat} {R : RowM} {w : World} (h : IsRow χ c w r d R) (ho : R.Ok) (a : Nat) (hb : R.begin ≤ a) (hf : a < R.fin) :
    Calls Tryz.prog 65 #[.pointer (some ⟨r, 0, none⟩), .int .i64 a] w fun e w' => e = .returned (.int .i64 (R.left a)) ∧ ∃ n, w' = w.drewN n := by
  have hB := Begin_any h ho.zero
  have hs := ho.size
  have hfin := ho.fin
  have hO := fun n => of_any (w := w.drewN n) (h.drewN n) ho a (by omega)
  have hsg := R.seg_le ho hb
  rw [R.seg_of ho hb] at hO
  obtain ⟨pv, h⟩ := h
  have c2 := h.own.1.cell 2
  have c4 := h.own.1.cell 4
  have hL : R.left a = min (R.place (R.segI a) + R.size) R.fin - a := by
    unfold RowM.left
    rw [if_neg (by omega)]
  rw [hL]
  clear hL h ho
  generalize R.place (R.segI a) = p at *
  generalize R.begin = b at *
  generalize R.fin = f at *
  generalize R.size = sz at *
  have i1 : ¬ (a : Int) < (b : Int) := by omega
  have i2 : ¬ (f : Int) ≤ (a : Int) := by omega
  have HE : Hid (((min (p + sz) f - a : Nat) : Int) = min ((p : Int) + sz) f - a) := Lib.hid (by omega)
  go_enter Tryz.func65, Tryz.ntmps65
  go_wp2_with (fail)
  refine hB.mono ?_
  rintro e w' ⟨rfl, rfl⟩
  clear hB
  go_wp2_with (fail)
  go_quiet (exact Calls.quiet_of (hO _))
  go_wp2
  go_ret
  refine ⟨?_, _, rfl⟩
  have := HE.out
  rw [this]
  rfl

end Go.Proofs.YtnacjogdndggeaaGreatDoor
end

section
namespace Go.Proofs.YtnacjogdndggeaaGreatDoor
open Go.Shelf Go.RowKit Go.Lib
set_option maxRecDepth 100000
set_option maxHeartbeats 1000000

theorem Read_row {χ : Col} {c cd r d : Nat} {R : RowM} {D : Dsk} {w : World} (h : IsRow χ c w r d R) (hd : IsDk χ cd w d D) (hon : R.On D) (ht : Tab χ w) (a n : Nat) (hb : R.begin ≤ a) (h1 : 1 ≤ n) (hn : n ≤ R.left a) :
    Calls Tryz.prog 31 #[.pointer (some ⟨r, 0, none⟩), .int .i64 a, .int .i64 n] w fun e w' => e = .returned (.tuple #[.string (S ((R.bytes.drop (a - R.begin)).take n)), .int .i64 0]) ∧ Below w.heap.size w w' := by
  have ho := hon.ok
  have hfin := ho.fin
  have haf : a < R.fin := by
    rcases Nat.lt_or_ge a R.fin with h2 | h2
    · exact h2
    · unfold RowM.left at hn
      rw [if_pos (.inr h2)] at hn
      omega
  have hD := Down_any hd
  have hL := Left_row h ho a hb haf
  have hO := fun m => of_any (w := w.drewN m) (h.drewN m) ho a (by omega)
  rw [R.seg_of ho hb] at hO
  have hsg := R.seg_le ho hb
  have hlt := R.seg_lt ho hb haf
  obtain ⟨f, hf, hfn⟩ := hon.there _ hlt
  have hck := R.chunk_len ho hb hn h1
  have hrc := R.read_chunk ho hb hn
  have hp : R.place (R.segI a) ≤ 90000000 := by omega
  have hN := fun {W : World} (h : IsRow χ c W r d R) (ht : Tab χ W) => name_any (w := W) h ho ht (R.place (R.segI a)) (by omega)
  have HI := Lib.hid h
  have HT := Lib.hid ht
  have hR := fun {W : World} (hdW : IsDk χ cd W d D) => DRead_good (k := a - R.place (R.segI a)) (m := n) hdW hf (by rw [hfn]; exact hck)
  rw [hfn, hrc] at hR
  obtain ⟨pv, h⟩ := h
  have c0 := h.own.1.cell 0
  have HD := Lib.hid hd
  have hsub : (a : Int) - (R.place (R.segI a) : Int) = ((a - R.place (R.segI a) : Nat) : Int) := by omega
  have hnm : R.name (R.segI a) = segName R.head (R.place (R.segI a)) := rfl
  rw [hnm] at hR
  have e0 : w.cell? ⟨r, 0, none⟩ = some (.pointer (some ⟨d, 0, none⟩)) := c0
  clear c0 h ht hd hon ho hfn hck hrc hf hlt hnm
  generalize R.place (R.segI a) = p at *
  generalize R.left a = lf at *
  generalize segName R.head p = nm at *
  generalize (R.bytes.drop (a - R.begin)).take n = res at *
  have hwr : IntKind.i64.wrap ((a - p : Nat) : Int) = ((a - p : Nat) : Int) := IntWalk.i64_in _ (by omega)
  generalize a - p = ap at *
  have i1 : ¬ (n : Int) < 1 := by omega
  have i2 : ¬ (lf : Int) < (n : Int) := by omega
  have i3 : ¬ (n : Int) = 0 := by omega
  have i4 : ((n : Int) == 0) = false := beq_eq_false_iff_ne.2 i3
  go_enter Tryz.func31, Tryz.ntmps31
  go_wp2_with (fail)
  refine hD.mono ?_
  rintro e w' ⟨rfl, rfl⟩
  go_wp2_with (fail)
  refine hL.mono ?_
  rintro e w' ⟨rfl, m1, rfl⟩
  go_wp2_with (fail)
  refine (hO m1).mono ?_
  rintro e w' ⟨rfl, m2, rfl⟩
  clear hD hL hO
  go_wp2_with (fail)
  have HB := Lib.hid (below_drewN w (m1 + m2))
  have HI1 := Lib.hid (HI.out.drewN (m1 + m2))
  have HT1 := Lib.hid (HT.out.drewN (m1 + m2))
  have HD1 := Lib.hid (HD.out.below (below_drewN w (m1 + m2)))
  have e1 : (w.drewN (m1 + m2)).cell? ⟨r, 0, none⟩ = some (.pointer (some ⟨d, 0, none⟩)) := e0
  generalize w.drewN (m1 + m2) = w1 at *
  clear e0 HI HT HD
  refine wp_region_held_drew (S := fun w' => w'.cell? ⟨r, 0, none⟩ = some (.pointer (some ⟨d, 0, none⟩))) (by kernel_rfl) e1 (fun hHeld => ?_)
  have hI2 := HI1.out.drewN 1
  have hT2 := HT1.out.drewN 1
  have hD2 := HD1.out.drew
  refine wpAnyH_take (i := 0) (oi := ⟨some 48, _, _, _, _, _⟩) (v := ?_) rfl (by kernel_rfl) (by kernel_rfl) (by kernel_rfl) (fun _ _ _ h => h) (Or.inl ⟨by rfl, (by intro w hSw; (try dsimp only at hSw); go_simp; try with_reducible rfl)⟩) hHeld ?_
  try simp only [Act.put, List.setIfInBounds_toArray, List.set_cons_zero, List.set_cons_succ]
  refine wpAnyH_take (i := 1) (oi := ⟨some 49, _, _, _, _, _⟩) (v := ?_) rfl (by kernel_rfl) (by kernel_rfl) (by kernel_rfl) (fun _ _ _ h => h) (Or.inl ⟨by rfl, (by intro w hSw; (try dsimp only at hSw); go_simp; try with_reducible rfl)⟩) hHeld ?_
  try simp only [Act.put, List.setIfInBounds_toArray, List.set_cons_zero, List.set_cons_succ]
  refine wpAnyH_take (i := 2) (oi := ⟨some 50, _, _, _, _, _⟩) (v := ?_) rfl (by kernel_rfl) (by kernel_rfl) (by kernel_rfl) (fun _ _ _ h => h) (Or.inl ⟨by rfl, (by intro w hSw; (try dsimp only at hSw); go_simp; try with_reducible rfl)⟩) hHeld ?_
  try simp only [Act.put, List.setIfInBounds_toArray, List.set_cons_zero, List.set_cons_succ]
  refine wpAnyH_take (i := 3) (oi := ⟨some 51, _, _, _, _, _⟩) (v := ?_) rfl (by kernel_rfl) (by kernel_rfl) (by kernel_rfl) (fun _ _ _ h => h) (Or.inl ⟨by rfl, (by intro w hSw; (try dsimp only at hSw); go_simp; try with_reducible rfl)⟩) hHeld ?_
  try simp only [Act.put, List.setIfInBounds_toArray, List.set_cons_zero, List.set_cons_succ]
  refine wpAnyH_take (i := 4) (oi := ⟨some 52, _, _, _, _, _⟩) (v := ?_) rfl (by kernel_rfl) (by kernel_rfl) (by kernel_rfl) (fun _ _ _ h => h) (Or.inl ⟨by rfl, (by intro w hSw; (try dsimp only at hSw); go_simp; try with_reducible rfl)⟩) hHeld ?_
  try simp only [Act.put, List.setIfInBounds_toArray, List.set_cons_zero, List.set_cons_succ]
  refine wpAnyH_take (i := 5) (oi := ⟨some 53, _, _, _, _, _⟩) (v := ?_) rfl (by kernel_rfl) (by kernel_rfl) (by kernel_rfl) (fun _ _ _ h => h) (Or.inl ⟨by rfl, (by intro w hSw; (try dsimp only at hSw); go_simp; try with_reducible rfl)⟩) hHeld ?_
  try simp only [Act.put, List.setIfInBounds_toArray, List.set_cons_zero, List.set_cons_succ]
  refine wpAnyH_take (i := 7) (oi := ⟨some 55, _, _, _, _, _⟩) (v := ?_) rfl (by kernel_rfl) (by kernel_rfl) (by kernel_rfl) (fun _ _ _ h => h) (Or.inl ⟨by rfl, (by intro w hSw; (try dsimp only at hSw); go_simp; try with_reducible rfl)⟩) hHeld ?_
  try simp only [Act.put, List.setIfInBounds_toArray, List.set_cons_zero, List.set_cons_succ]
  refine wpAnyH_take (i := 8) (oi := ⟨some 56, _, _, _, _, _⟩) (v := ?_) rfl (by kernel_rfl) (by kernel_rfl) (by kernel_rfl) (fun _ _ _ h => h) (Or.inl ⟨by rfl, (by intro w hSw; (try dsimp only at hSw); go_simp; try with_reducible rfl)⟩) hHeld ?_
  try simp only [Act.put, List.setIfInBounds_toArray, List.set_cons_zero, List.set_cons_succ]
  refine wpAnyH_take (i := 9) (oi := ⟨some 57, _, _, _, _, _⟩) (v := ?_) rfl (by kernel_rfl) (by kernel_rfl) (by kernel_rfl) (fun _ _ _ h => h) (Or.inl ⟨by rfl, (by intro w hSw; (try dsimp only at hSw); go_simp; try with_reducible rfl)⟩) hHeld ?_
  try simp only [Act.put, List.setIfInBounds_toArray, List.set_cons_zero, List.set_cons_succ]
  refine wpAnyH_take (i := 10) (oi := ⟨some 58, _, _, _, _, _⟩) (v := ?_) rfl (by kernel_rfl) (by kernel_rfl) (by kernel_rfl) (fun _ _ _ h => h) (Or.inl ⟨by rfl, (by intro w hSw; (try dsimp only at hSw); go_simp; try with_reducible rfl)⟩) hHeld ?_
  try simp only [Act.put, List.setIfInBounds_toArray, List.set_cons_zero, List.set_cons_succ]
  refine wpAnyH_ready (rs := [6]) (by kernel_rfl) (by simp) ?_
  refine AllReadyH.cons (o := ⟨some 54, _, _, _, _, _⟩) rfl (fun K hK => ?_) AllReadyH.nil
  go_simp
  refine (hN hI2 hT2).mono ?_
  rintro e w2 ⟨rfl, hb⟩
  have hD3 := hD2.below hb
  have hS2 := (hb.cell (p := ⟨r, 0, none⟩) hI2.lt).trans hHeld
  refine hK.out _ _ hS2 (fun hHeld => ?_)
  clear hK K
  try simp only [Act.put, List.setIfInBounds_toArray, List.set_cons_zero, List.set_cons_succ]
  refine wpAnyH_ready (rs := [11]) (by kernel_rfl) (by simp) ?_
  refine AllReadyH.cons (o := ⟨some 59, _, _, _, _, _⟩) rfl (fun K hK => ?_) AllReadyH.nil
  go_simp
  refine (hR hD3).mono ?_
  rintro e w3 ⟨rfl, hb3⟩
  have hS2 := (hb3.cell (p := ⟨r, 0, none⟩) (cell_lt hHeld)).trans hHeld
  refine hK.out _ _ hS2 (fun hHeld => ?_)
  clear hK K
  try simp only [Act.put, List.setIfInBounds_toArray, List.set_cons_zero, List.set_cons_succ]
  refine wpAnyH_take (i := 12) (oi := ⟨some 60, _, _, _, _, _⟩) (v := ?_) rfl (by kernel_rfl) (by kernel_rfl) (by kernel_rfl) (fun _ _ _ h => h) (Or.inl ⟨by rfl, (by intro w hSw; (try dsimp only at hSw); go_simp; try with_reducible rfl)⟩) hHeld ?_
  try simp only [Act.put, List.setIfInBounds_toArray, List.set_cons_zero, List.set_cons_succ]
  refine wpAnyH_take (i := 13) (oi := ⟨some 61, _, _, _, _, _⟩) (v := ?_) rfl (by kernel_rfl) (by kernel_rfl) (by kernel_rfl) (fun _ _ _ h => h) (Or.inl ⟨by rfl, (by intro w hSw; (try dsimp only at hSw); go_simp; try with_reducible rfl)⟩) hHeld ?_
  try simp only [Act.put, List.setIfInBounds_toArray, List.set_cons_zero, List.set_cons_succ]
  refine wpAnyH_take (i := 14) (oi := ⟨some 6, _, _, _, _, _⟩) (v := ?_) rfl (by kernel_rfl) (by kernel_rfl) (by kernel_rfl) (fun _ _ _ h => h) (Or.inl ⟨by rfl, (by intro w hSw; (try dsimp only at hSw); go_simp; try with_reducible rfl)⟩) hHeld ?_
  try simp only [Act.put, List.setIfInBounds_toArray, List.set_cons_zero, List.set_cons_succ]
  refine wpAnyH_take (i := 15) (oi := ⟨some 7, _, _, _, _, _⟩) (v := ?_) rfl (by kernel_rfl) (by kernel_rfl) (by kernel_rfl) (fun _ _ _ h => h) (Or.inl ⟨by rfl, (by intro w hSw; (try dsimp only at hSw); go_simp; try with_reducible rfl)⟩) hHeld ?_
  try simp only [Act.put, List.setIfInBounds_toArray, List.set_cons_zero, List.set_cons_succ]
  refine wpAnyH_done (by kernel_rfl) ?_ _
  have HB3 := Lib.hid (HB.out.trans (((below_drewN w1 1).trans (hb.trans (hb3.mono hb.size))).mono HB.out.size))
  clear hb hb3 hS2
  go_wp2
  go_ret2
  exact ⟨rfl, HB3.out⟩

end Go.Proofs.YtnacjogdndggeaaGreatDoor
end

section
namespace Go.Proofs.YtnacjogdndggeaaGreatDoor
open Go.Lib
namespace RowM
def next (R : RowM) : RowM := if R.full then { R with many := R.many + 1 } else R
theorem next_full {R : RowM} (h : R.full = true) : R.next = { R with many := R.many + 1 } := by simp [next, h]
theorem next_not {R : RowM} (h : R.full = false) : R.next = R := by simp [next, h]
theorem next_many (R : RowM) : R.next.many = R.lastI + 1 ∨ R.many = 0 := by
  cases h : R.full with
  | true => left; rw [next_full h]; simp [lastI, h]
  | false =>
    rw [next_not h]
    simp only [lastI, h, Bool.false_eq_true, if_false]
    omega
theorem next_begin (R : RowM) : R.next.begin = R.begin := by unfold next; split <;> rfl
theorem next_size (R : RowM) : R.next.size = R.size := by unfold next; split <;> rfl
theorem next_head (R : RowM) : R.next.head = R.head := by unfold next; split <;> rfl
theorem next_bytes (R : RowM) : R.next.bytes = R.bytes := by unfold next; split <;> rfl
theorem next_synced (R : RowM) : R.next.synced = R.synced := by unfold next; split <;> rfl
theorem next_fin (R : RowM) : R.next.fin = R.fin := by unfold fin; rw [next_begin, next_bytes]
theorem next_place (R : RowM) (i : Nat) : R.next.place i = R.place i := by unfold place; rw [next_begin, next_size]
theorem next_name (R : RowM) (i : Nat) : R.next.name i = R.name i := by unfold name; rw [next_head, next_place]
theorem next_chunk (R : RowM) (i : Nat) : R.next.chunk i = R.chunk i := by unfold chunk; rw [next_bytes, next_size]
theorem lastI_lt (R : RowM) (h : R.Ok) : R.lastI + 1 = R.next.many := by
  cases hf : R.full with
  | true => rw [next_full hf]; simp [lastI, hf]
  | false =>
    have := R.many_pos h hf
    rw [next_not hf]
    simp only [lastI, hf, Bool.false_eq_true, if_false]
    omega
theorem lastI_le (R : RowM) (h : R.Ok) : R.place R.lastI ≤ R.fin ∧ R.fin < R.place R.lastI + R.size := by
  have hs := h.size
  cases hf : R.full with
  | true =>
    have h1 := (full_iff R).1 hf
    have h2 : R.lastI = R.many := by simp [lastI, hf]
    rw [h2]
    omega
  | false =>
    have hm := R.many_pos h hf
    have h1 := (R.room_some h hf).2
    have h2 : R.lastI = R.many - 1 := by simp [lastI, hf]
    have h3 := R.place_le h hm
    have h4 := R.place_last hm
    rw [h2]
    omega
theorem room_last (R : RowM) (h : R.Ok) : R.room = R.place R.lastI + R.size - R.fin := by
  cases hf : R.full with
  | true =>
    have h1 := (full_iff R).1 hf
    have h2 : R.lastI = R.many := by simp [lastI, hf]
    rw [R.room_full hf, h2]
    omega
  | false =>
    have hm := R.many_pos h hf
    have h2 : R.lastI = R.many - 1 := by simp [lastI, hf]
    have h4 := R.place_last hm
    rw [(R.room_some h hf).1, h2, h4]
theorem ok_next (R : RowM) (h : R.Ok) : R.next.Ok := by
  cases hf : R.full with
  | false => rw [next_not hf]; exact h
  | true =>
    have h1 := (full_iff R).1 hf
    rw [next_full hf]
    refine ⟨h.size, h.begin, ?_, ?_, h.synced, h.fin, h.head, h.low, fun e => by simp at e⟩
    · have := h.upto
      simp only [Nat.succ_mul]
      omega
    · intro _
      simp only [Nat.add_sub_cancel]
      unfold fin place at h1
      omega
theorem places_next (R : RowM) : R.next.places = if R.full then R.places ++ [R.fin] else R.places := by
  cases hf : R.full with
  | false => rw [next_not hf]; rfl
  | true =>
    have h1 := (full_iff R).1 hf
    rw [next_full hf]
    unfold places
    simp only [if_true]
    rw [List.range_succ, List.map_append, h1]
    rfl
theorem on_next (R : RowM) {D : Dsk} (h : R.On D) : R.next.On (R.made D) := by
  refine ⟨R.ok_next h.ok, fun i hi => ?_, fun i hi => ?_⟩
  · rw [next_name, next_chunk]
    cases hf : R.full with
    | false =>
      rw [next_not hf] at hi
      simp only [made, hf, Bool.false_eq_true, if_false]
      exact h.there i hi
    | true =>
      have h1 := (full_iff R).1 hf
      rw [next_full hf] at hi
      simp only [made, hf, if_true]
      rw [Dsk.file_create]
      by_cases e : i = R.many
      · subst e
        refine ⟨_, if_pos rfl, ?_⟩
        unfold chunk
        unfold fin place at h1
        rw [List.drop_of_length_le (by omega)]
        simp
      · rw [if_neg fun e2 => e (R.name_inj h.ok e2)]
        exact h.there i (by simp only at hi; omega)
  · rw [next_name]
    cases hf : R.full with
    | false =>
      rw [next_not hf] at hi
      simp only [made, hf, Bool.false_eq_true, if_false]
      exact h.none i hi
    | true =>
      rw [next_full hf] at hi
      simp only at hi
      simp only [made, hf, if_true]
      rw [Dsk.file_create, if_neg fun e2 => by have := R.name_inj h.ok e2; omega]
      exact h.none i (by omega)
/-- The segment into which comes what comes. -/
theorem last_file (R : RowM) {D : Dsk} (h : R.On D) : ∃ f, (R.made D).file (R.name R.lastI) = some f ∧ f.now.length = R.fin - R.place R.lastI := by
  have ho := h.ok
  have hl := R.lastI_lt ho
  have hp := R.lastI_le ho
  obtain ⟨f, h1, h2⟩ := (R.on_next h).there R.lastI (by omega)
  rw [next_name] at h1
  rw [next_chunk] at h2
  refine ⟨f, h1, ?_⟩
  rw [h2]
  unfold chunk
  unfold fin place at *
  rw [List.length_take, List.length_drop]
  omega
theorem append_next (R : RowM) (s : List UInt8) : R.append s = { R.next with bytes := R.bytes ++ s } := by
  unfold append next
  split <;> rfl
theorem places_append_next (R : RowM) (s : List UInt8) : (R.append s).places = R.next.places := by
  rw [places_append, places_next]
theorem size_made (R : RowM) {D : Dsk} (h : R.On D) (hu : D.Ok) : (R.made D).size = D.size ∧ (R.made D).cap = D.cap := by
  unfold made
  split
  · exact ⟨Dsk.size_create hu (h.none _ (Nat.le_refl _)), rfl⟩
  · exact ⟨rfl, rfl⟩
end RowM
end Go.Proofs.YtnacjogdndggeaaGreatDoor
end
