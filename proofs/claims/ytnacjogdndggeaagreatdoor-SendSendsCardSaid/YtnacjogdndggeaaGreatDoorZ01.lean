/- Plain facts on numbers as bytes, on texts and lists as bytes: no program is named. strings.Builder at this translation: what copyCheck, WriteString and String do to a builder that the call made itself. The small functions of octet and of the document's answer: what each comes to. octet.Num, Text and List: what each comes to. -/
import Derived.Lib.Builder
import Derived.Lib.Strings
import Derived.PlainAid
import Derived.Test.YtnacjogdndggeaaGreatDoorProg
import Derived.Shelf.Strings.Builder1
import Derived.WalkKit
import Derived.WalkSpells
import Derived.Lib.Hide
import Derived.BigQuiet
import Derived.Deep.QuietTactic
import Derived.Laws.BytesArg
import Derived.Laws.MakeOwn
import Derived.Laws.OwnMore
import Derived.Deep.AppendLies
import Derived.Outline
import Derived.Deep.DeepFit
import Derived.Deep.RegionWith
import Derived.IntWalk
import Derived.Laws.ShiftsVarLaws
section
namespace Go.Proofs.YtnacjogdndggeaaGreatDoor

/-- A number's n bytes, the highest first. -/
def be : Nat → Nat → List UInt8
  | 0, _ => []
  | n + 1, x => be n (x / 256) ++ [UInt8.ofNat x]

@[simp] theorem be_length (n : Nat) : ∀ x, (be n x).length = n := by
  induction n with
  | zero => intro x; rfl
  | succ n ih => intro x; simp [be, ih]

theorem be_cons (n : Nat) : ∀ x, be (n + 1) x = UInt8.ofNat (x / 256 ^ n) :: be n x := by
  induction n with
  | zero => intro x; simp [be]
  | succ n ih =>
    intro x
    rw [be, ih (x / 256)]
    have : x / 256 / 256 ^ n = x / 256 ^ (n + 1) := by
      rw [Nat.div_div_eq_div_mul, Nat.pow_succ, Nat.mul_comm]
    rw [this]
    rfl

theorem snoc_ind {α : Type} {p : List α → Prop} (h0 : p []) (h1 : ∀ l a, p l → p (l ++ [a])) (l : List α) : p l := by
  rw [← List.reverse_reverse l]
  induction l.reverse with
  | nil => exact h0
  | cons a l ih => rw [List.reverse_cons]; exact h1 _ _ ih

/-- The number of bytes. -/
def num : List UInt8 → Nat := fun l => l.foldl (fun a b => 256 * a + b.toNat) 0

theorem num_snoc (l : List UInt8) (b : UInt8) : num (l ++ [b]) = 256 * num l + b.toNat := by simp [num]

theorem num_lt (l : List UInt8) : num l < 256 ^ l.length := by
  induction l using snoc_ind with
  | h0 => simp [num]
  | h1 l b ih =>
    rw [num_snoc, List.length_append, List.length_singleton, Nat.pow_succ]
    have := b.toNat_lt
    omega

theorem num_be (n : Nat) : ∀ x, num (be n x) = x % 256 ^ n := by
  induction n with
  | zero => intro x; simp [be, num, Nat.mod_one]
  | succ n ih =>
    intro x
    rw [be, num_snoc, ih, Nat.pow_succ, Nat.mul_comm (256 ^ n) 256, Nat.mod_mul, UInt8.toNat_ofNat']
    omega

theorem be_num (l : List UInt8) : be l.length (num l) = l := by
  induction l using snoc_ind with
  | h0 => rfl
  | h1 l b ih =>
    rw [List.length_append, List.length_singleton, be, num_snoc]
    have hb := b.toNat_lt
    rw [show (256 * num l + b.toNat) / 256 = num l by omega, ih]
    congr 2
    apply UInt8.toNat_inj.1
    rw [UInt8.toNat_ofNat']
    omega

/-- A text out of bytes. -/
def S (l : List UInt8) : ByteArray := ⟨l.toArray⟩
theorem S_data (l : List UInt8) : (S l).data.toList = l := rfl
@[simp] theorem S_nil : S [] = ⟨#[]⟩ := rfl
@[simp] theorem S_toList (l : List UInt8) : (S l).toList = l := by rw [Lib.toList_data, S_data]
theorem S_of (s : ByteArray) : S s.data.toList = s := rfl
@[simp] theorem S_size (l : List UInt8) : (S l).size = l.length := by simp [S, ByteArray.size]
@[simp] theorem S_app (a b : List UInt8) : S a ++ S b = S (a ++ b) := by
  apply ByteArray.ext
  simp [S, ByteArray.data_append]
theorem S_inj {a b : List UInt8} (h : S a = S b) : a = b := by
  have := congrArg (fun s => s.data.toList) h
  simpa [S] using this

theorem extract_S (l : List UInt8) (a b : Nat) : (S l).extract a b = S ((l.drop a).take (b - a)) := by
  have : ((S l).extract a b).data.toList = (S ((l.drop a).take (b - a))).data.toList := by
    rw [Lib.extract_data, S_data, S_data]
  rw [← S_of ((S l).extract a b), this]
  rfl
@[simp] theorem extract_take (l : List UInt8) (n : Nat) : (S l).extract 0 n = S (l.take n) := by rw [extract_S]; simp
@[simp] theorem extract_drop (l : List UInt8) (n : Nat) : (S l).extract n l.length = S (l.drop n) := by rw [extract_S, List.take_of_length_le (by simp)]

end Go.Proofs.YtnacjogdndggeaaGreatDoor
end

section
namespace Go.Proofs.YtnacjogdndggeaaGreatDoor
open Go.Shelf Go.RowKit

def renB : Go.Shelf.Ren := ⟨fun | 169 => 186 | n => n, fun | 70 => 272 | 9 => 9 | 0 => 0 | 72 => 274 | 37 => 199 | 127 => 320 | 3 => 3 | 5 => 5 | n => n, fun | n => n⟩
theorem lays169 : Go.Proofs.Lays.n169 Tryz.prog renB := {
  mixed := by kernel_rfl
  f169 := Tryz.func186.trans (congrArg some (by kernel_rfl))
  t0 := Tryz.underlying0
  a0 := Tryz.isAgg0
  z0 := Tryz.sizeOf0
  v0 := Tryz.zeroValue0
  t3 := Tryz.underlying3
  a3 := Tryz.isAgg3
  z3 := Tryz.sizeOf3
  v3 := Tryz.zeroValue3
  t9 := Tryz.underlying9
  a9 := Tryz.isAgg9
  z9 := Tryz.sizeOf9
  v9 := Tryz.zeroValue9
  t37 := Tryz.underlying199
  a37 := Tryz.isAgg199
  z37 := Tryz.sizeOf199
  v37 := Tryz.zeroValue199
  t70 := Tryz.underlying272
  a70 := Tryz.isAgg272
  z70 := Tryz.sizeOf272
  v70 := Tryz.zeroValue272
  t72 := Tryz.underlying274
  a72 := Tryz.isAgg274
  z72 := Tryz.sizeOf274
  v72 := Tryz.zeroValue274
  t127 := Tryz.underlying320
  a127 := Tryz.isAgg320
  z127 := Tryz.sizeOf320
  v127 := Tryz.zeroValue320 }
theorem extra169 : Builder.Extra Tryz.prog renB := {
  sizeBuilder := by kernel_rfl
  liesBuilder := by kernel_rfl
  t5 := Tryz.underlying5
  a5 := Tryz.isAgg5
  z5 := Tryz.sizeOf5
  v5 := Tryz.zeroValue5
  infoByte := by kernel_rfl
  cellsByte := by kernel_rfl
  sizeByte := by kernel_rfl
  neB5 := by decide }

/-- A builder of the call's own that holds the bytes l. -/
abbrev IsB (B b : Nat) (l : List UInt8) (w : World) : Prop := Lib.IsBuilder 274 5 B b (Lib.byteCells l) w

theorem bString (B b : Nat) (l : List UInt8) (w : World) (h : IsB B b l w) (hBw : B ≤ w.heap.size) :
    Calls Tryz.prog 186 #[.pointer (some ⟨b, 0, none⟩)] w fun e w' => e = .returned (.string (S l)) ∧ Below B w w' := Any.Builder_String_any lays169 extra169 B b l w h hBw

set_option maxHeartbeats 1000000 in
set_option maxRecDepth 100000 in
theorem bCheckUsed (b : Nat) (w : World) (h0 : w.cell? ⟨b, 0, none⟩ = some (.pointer (some ⟨b, 0, none⟩))) :
    Calls Tryz.prog 231 #[.pointer (some ⟨b, 0, none⟩)] w fun e w' => e = .returned (.tuple #[]) ∧ w' = w := by
  obtain ⟨j, hj, _⟩ := Option.map_eq_some_iff.1 extra169.sizeBuilder
  go_enter Tryz.func231, Tryz.ntmps231
  go_wp2
  rw [Lib.run_neq_ptr_same w _ Tryz.underlying272 hj]
  go_wp2
  go_end0
  exact ⟨rfl, rfl⟩

set_option maxHeartbeats 1000000 in
set_option maxRecDepth 100000 in
theorem bCheckFresh (b : Nat) (w : World) (h0 : w.cell? ⟨b, 0, none⟩ = some (.pointer none)) (hsh : w.shape? b = some (274, 2)) (hfz : w.frozen? ⟨b, 0, none⟩ = false) :
    Calls Tryz.prog 231 #[.pointer (some ⟨b, 0, none⟩)] w fun e w' => e = .returned (.tuple #[]) ∧ w' = w.setCell ⟨b, 0, none⟩ (.pointer (some ⟨b, 0, none⟩)) := by
  obtain ⟨j, hj, hjs⟩ := Option.map_eq_some_iff.1 extra169.sizeBuilder
  go_enter Tryz.func231, Tryz.ntmps231
  go_wp2
  rw [Lib.run_to_unsafe w ⟨b, 0, none⟩ Tryz.underlying272 Tryz.underlying345 hj (by rw [hjs]; decide) hsh (Nat.zero_lt_succ 1)]
  simp only [Result.andThen]
  rw [Oper.upon_value]
  go_wp2
  rw [run_callFunc_extern Tryz.func262 (by kernel_rfl) (by kernel_rfl) (by kernel_rfl) (e := Extern.AbiNoEscape.same) (by kernel_rfl)]
  rw [Lib.run_noEscape]
  simp only [Result.andThen]
  rw [Oper.upon_value]
  go_wp2
  rw [Lib.run_from_unsafe w ⟨b, 0, none⟩ Tryz.underlying345 Tryz.underlying272 hj hsh extra169.liesBuilder]
  simp only [Result.andThen]
  rw [Oper.upon_value]
  go_wp2
  go_end0
  exact ⟨rfl, rfl⟩

theorem bCheck (B b : Nat) (bs : List Value) (w : World) (h : Lib.IsBuilder 274 5 B b bs w) :
    Calls Tryz.prog 231 #[.pointer (some ⟨b, 0, none⟩)] w fun e w' => e = .returned (.tuple #[]) ∧ (Lib.BuilderAt 274 5 B b (.pointer (some ⟨b, 0, none⟩)) bs w' ∧ Below B w w') := by
  rcases h with h | h
  · refine (bCheckFresh b w h.cell0 h.shape h.frozen0).mono ?_
    rintro e w' ⟨rfl, rfl⟩
    exact ⟨rfl, h.used _, (Below.refl B w).setCell (p := ⟨b, 0, none⟩) h.1 _⟩
  · refine (bCheckUsed b w h.cell0).mono ?_
    rintro e w' ⟨rfl, rfl⟩
    exact ⟨rfl, h, Below.refl B _⟩

set_option maxHeartbeats 1000000 in
set_option maxRecDepth 100000 in
theorem bWrite0 (B b : Nat) (bs : List Value) (s : ByteArray) (w : World) (h : Lib.IsBuilder 274 5 B b bs w) (hlen : bs.length + s.size ≤ 140737488355328) (hBw : B ≤ w.heap.size) :
    Calls Tryz.prog 184 #[.pointer (some ⟨b, 0, none⟩), .string s] w fun e w' => e = .returned (.tuple #[.int .i64 s.size, .nilIface]) ∧ (Lib.BuilderAt 274 5 B b (.pointer (some ⟨b, 0, none⟩)) (bs ++ Lib.strCells s) w' ∧ Below B w w') := by
  obtain ⟨i0, hi, hz0, hz1, hz2⟩ := info_parts extra169.infoByte
  go_enter Tryz.func184, Tryz.ntmps184
  go_wp2_with (go_at_call 231; refine (bCheck B b bs _ h).mono ?_)
  rintro e w1 ⟨rfl, h1, hb1⟩
  obtain ⟨hB, v, hbk, hown, hne⟩ := h1
  have c0 : w1.cell? ⟨b, 0, none⟩ = some (.pointer (some ⟨b, 0, none⟩)) := by rw [Lib.cell_of_heap hbk]; rfl
  have c1 : w1.cell? ⟨b, 1, none⟩ = some v := by rw [Lib.cell_of_heap hbk]; rfl
  go_wp2_with (at_builtin; refine Lib.wpList_append_own_string _ rfl _ _ 199 9 rfl B 5 i0 Tryz.underlying199 Tryz.underlying9 hi hz0 hz1 hz2 _ _ _ rfl hown s rfl ?c3 ?c4 ?c5 ?_)
  case c3 => unfold maxLen; omega
  case c4 => omega
  case c5 => have := hb1.size; omega
  intro v' w2 hown' hgrow _
  have hlt : b < w1.heap.size := by
    rcases Nat.lt_or_ge b w1.heap.size with h' | h'
    · exact h'
    · simp [Array.getElem?_eq_none h'] at hbk
  have hb2 : w2.heap[b]? = some (.cells #[.pointer (some ⟨b, 0, none⟩), v] 274 (0, 0)) := by
    rw [hgrow.block b hlt (fun e => hne e.symm)]
    exact hbk
  have d0 : w2.cell? ⟨b, 0, none⟩ = some (.pointer (some ⟨b, 0, none⟩)) := by rw [Lib.cell_of_heap hb2]; rfl
  have d1 : w2.cell? ⟨b, 1, none⟩ = some v := by rw [Lib.cell_of_heap hb2]; rfl
  have f1 : w2.frozen? ⟨b, 1, none⟩ = false := Lib.frozen_of_heap hb2 1
  obtain ⟨ao, n', cap, rfl⟩ : ∃ ao n' cap, v' = .slice ao n' cap := by
    rcases hown'.2 with ⟨hv, _⟩ | ⟨g, cap, cur, hv, _⟩
    · exact ⟨_, _, _, hv⟩
    · exact ⟨_, _, _, hv⟩
  go_wp2
  go_ret2
  refine ⟨rfl, ?_, ?_⟩
  · exact Lib.BuilderAt.put (T := 274) (e := 5) hB hb2 (bs' := bs ++ Lib.strCells s) (by simpa [Lib.strCells_length] using hown') (by decide)
  · exact (hb1.grown hgrow (by have := hb1.size; omega) (fun k hk => (hown.lt k hk).1)).setCell (p := ⟨b, 1, none⟩) hB _

theorem bWrite (B b : Nat) (l : List UInt8) (s : ByteArray) (w : World) (h : IsB B b l w) (hlen : l.length + s.size ≤ 140737488355328) (hBw : B ≤ w.heap.size) :
    Calls Tryz.prog 184 #[.pointer (some ⟨b, 0, none⟩), .string s] w fun e w' => e = .returned (.tuple #[.int .i64 s.size, .nilIface]) ∧ (IsB B b (l ++ s.data.toList) w' ∧ Below B w w') := by
  refine (bWrite0 B b _ s w h (by rw [Lib.byteCells_length]; exact hlen) hBw).mono ?_
  rintro e w' ⟨rfl, h1, hb⟩
  refine ⟨rfl, Or.inr ?_, hb⟩
  rw [Lib.byteCells_append, ← Lib.strCells_eq]
  exact h1

/-- A fresh builder. -/
theorem bFresh (B : Nat) (w : World) (hB : B ≤ w.heap.size) : IsB B w.heap.size [] (w.alloc (.cells #[.pointer none, .slice none 0 0] 274)) :=
  Or.inl ⟨hB, .slice none 0 0, heap_alloc_new w _, World.ownsRow_nil .., by simp [Value.ownBlock]⟩

end Go.Proofs.YtnacjogdndggeaaGreatDoor
end

section
namespace Go.Proofs.YtnacjogdndggeaaGreatDoor
open Go.Shelf Go.RowKit

theorem info5 : (Tryz.prog.info? 5).map (fun i => (i.zero, i.size, i.bytes)) = some (some (.int .u8 0), 1, 1) := by kernel_rfl

/-- Bytes that the call owns, as a string. -/
theorem own_str {w : World} {base n : Nat} {v : Value} {l : List UInt8} (h : w.ownsRow base 5 1 v n (Lib.byteCells l)) :
    (convert 199 9 v).run Tryz.prog w = .ok (.string (S l)) w := by
  rcases h.2 with ⟨rfl, rfl⟩ | ⟨g, cap, cur, rfl, _⟩
  · obtain rfl : l = [] := List.eq_nil_of_length_eq_zero (by have := h.1; simpa [Lib.byteCells_length] using this)
    exact run_convert_bytes_nil w 199 5 Tryz.underlying199 Tryz.underlying5 0 0 9 Tryz.underlying9
  · have hl : l.length = n := by have := h.1; simpa [Lib.byteCells_length] using this
    have := run_convert_bytes_arg w 199 5 Tryz.underlying199 Tryz.underlying5 g 0 n cap (l.map fun b => ((b.toNat : Nat) : Int)) (by simpa using hl) (fun i hi => ?_) 9 Tryz.underlying9
    · rw [this]
      have hS : strOfNums (l.map fun b => ((b.toNat : Nat) : Int)) = S l := by
        have : ((fun n : Int => UInt8.ofNat n.toNat) ∘ fun b : UInt8 => ((b.toNat : Nat) : Int)) = id := by funext b; simp
        simp only [strOfNums, S, List.map_map, this, List.map_id]
      rw [hS]
    · have hc := h.cells (g := g) rfl i (.int .u8 (((l.getD i 0).toNat : Nat) : Int)) (by simp [Lib.byteCells, List.getElem?_eq_getElem (show i < l.length by omega), List.getD_eq_getElem?_getD])
      have ha : (⟨g, 0, none⟩ : Addr).add i = ⟨g, 0 + i, none⟩ := by unfold Addr.add; split <;> simp_all
      rw [ha] at hc
      rw [hc]
      simp [List.getElem?_eq_getElem (show i < l.length by omega), List.getD_eq_getElem?_getD]

theorem conv1 (w : World) (y : Int) :
    (convert 199 9 (.slice (some ⟨w.heap.size, 0, none⟩) 1 1)).run Tryz.prog (w.alloc (.cells #[.int .u8 y] 5)) = .ok (.string (S [UInt8.ofNat y.toNat])) (w.alloc (.cells #[.int .u8 y] 5)) := by
  have := run_convert_bytes_arg (w.alloc (.cells #[.int .u8 y] 5)) 199 5 Tryz.underlying199 Tryz.underlying5 w.heap.size 0 1 1 [y] rfl (fun i hi => by
    obtain rfl : i = 0 := by omega
    exact cell_one_new w (.int .u8 y) 5 0 _ rfl) 9 Tryz.underlying9
  rw [this]
  rfl

theorem or_byte (a b : Nat) (ha : a < 256 ^ 6) (hb : b < 256) : bits BinOp.or IntKind.i64 ((a : Int) * 256) (wrap64 (b : Int)) = ((256 * a + b : Nat) : Int) := by
  rw [IntWalk.wrap64_in _ (by omega), bits_join .i64 63 (by decide) (fun n h0 h1 => by rw [IntKind.wrap_i64]; omega) 8 _ _ (by omega) (by omega) (by omega) (by omega) (by omega) (by omega)]
  omega

theorem byteCells_cast (X k : Nat) : Value.int IntKind.u8 ((X : Int) / 256 ^ k % 256) = .int .u8 ((UInt8.ofNat (X / 256 ^ k)).toNat : Nat) := by
  rw [UInt8.toNat_ofNat']
  simp

theorem byte_cast (X k : Nat) : UInt8.ofNat ((X : Int) / 256 ^ k % 256).toNat = UInt8.ofNat (X / 256 ^ k) := by
  apply UInt8.toNat_inj.1
  rw [UInt8.toNat_ofNat', UInt8.toNat_ofNat', show ((X : Int) / 256 ^ k % 256).toNat = X / 256 ^ k % 256 from by
    rw [show (X : Int) / 256 ^ k % 256 = ((X / 256 ^ k % 256 : Nat) : Int) by simp, Int.toNat_natCast]]
  omega

theorem div_cast (X k : Nat) : (X : Int) / 256 ^ k / 256 = ((X / 256 ^ (k + 1) : Nat) : Int) := by
  rw [Nat.pow_succ, ← Nat.div_div_eq_div_mul]
  simp

theorem cast_div (X k : Nat) : ((X / 256 ^ k : Nat) : Int) = (X : Int) / 256 ^ k := by simp
theorem div_nonneg (X k : Nat) : (0 : Int) ≤ (X : Int) / 256 ^ k := by rw [← cast_div]; exact Int.natCast_nonneg _
theorem div_small (X k : Nat) (h : (X : Int) ≤ 9223372036854775807) : (X : Int) / 256 ^ k ≤ 9223372036854775807 := by
  rw [← cast_div]
  have := Nat.div_le_self X (256 ^ k)
  omega

theorem put_step (n k X : Nat) (h : k < n) : (Lib.byteCells (List.replicate (n - k) 0 ++ be k X)).set (n - 1 - k) (Value.int IntKind.u8 ((X : Int) / 256 ^ k % 256)) = Lib.byteCells (List.replicate (n - (k + 1)) 0 ++ be (k + 1) X) := by
  rw [be_cons, byteCells_cast]
  obtain ⟨j, rfl⟩ : ∃ j, n = k + 1 + j := ⟨n - k - 1, by omega⟩
  rw [show k + 1 + j - k = j + 1 by omega, show k + 1 + j - 1 - k = j by omega, show k + 1 + j - (k + 1) = j by omega, List.replicate_succ']
  simp [Lib.byteCells]

set_option maxRecDepth 100000 in
set_option maxHeartbeats 400000 in
theorem put_any (n : Nat) (x : Int) (w : World) (hn : n ≤ 7) (hx : 0 ≤ x) (hx2 : x ≤ 9223372036854775807) :
    Calls Tryz.prog 185 #[.int .i64 n, .int .i64 x] w fun e w' => e = .returned (.string (S (be n x.toNat))) ∧ Below w.heap.size w w' := by
  obtain ⟨i0, hi, hz0, hz1, hz2⟩ := info_parts info5
  obtain ⟨X, rfl⟩ := Int.eq_ofNat_of_zero_le hx
  rw [Int.toNat_natCast]
  go_enter Tryz.func185, Tryz.ntmps185
  go_wp2_with (refine wpList_make_full _ rfl _ _ 199 rfl w.heap.size 5 i0 (.int .u8 0) 1 Tryz.underlying199 hi hz0 hz1 .i64 .i64 n n n rfl rfl rfl rfl (by rw [hz2]; omega) (by unfold maxLen; omega) (Nat.le_refl _) ?_; intro w1 hown hg)
  have hc0 : (madeCells (Value.int IntKind.u8 0).cells (n * 1)).toList = Lib.byteCells (List.replicate (n - 0) 0 ++ be 0 X) := by
    rw [Nat.mul_one, show (Value.int IntKind.u8 0).cells = #[Value.int IntKind.u8 0] from rfl, toList_madeCells_one]
    simp [Lib.byteCells, be]
  rw [hc0] at hown
  have HO := Lib.hid hown
  have HB := Lib.hid ((Below.refl w.heap.size w).grown hg (Nat.le_refl _) (by simp))
  clear hown hg hc0 hx hi hz0 hz1 hz2
  go_loopw [1, 11] (fun vx vi wr => ∃ k : Nat, k ≤ n ∧ vx = .int .i64 ((X / 256 ^ k : Nat) : Int) ∧ vi = .int .i64 k ∧ Hid (wr.ownsRow w.heap.size 5 1 (.slice (some ⟨w.heap.size, 0, none⟩) n n) n (Lib.byteCells (List.replicate (n - k) 0 ++ be k X))) ∧ Hid (Below w.heap.size w wr)) (fun _ vi _ => n - (intOf vi).toNat)
  case atStart => exact ⟨0, Nat.zero_le _, by simp, rfl, HO, HB⟩
  case round =>
    obtain ⟨k, hk, rfl, rfl, HO, HB⟩ := hrel
    by_cases hlt : k < n
    · have h1 := HO.out.stored (n - 1 - k) (.int .u8 ((X : Int) / 256 ^ k % 256))
      have c1 : wr.cell? ⟨w.heap.size, n - 1 - k, none⟩ = some (.int .u8 0) := by
        rw [HO.out.cellAt _ (by omega)]
        simp [Lib.byteCells, List.getElem?_append, show n - 1 - k < n - k by omega]
      have f1 := HO.out.frozenAt (n - 1 - k)
      rw [put_step n k X hlt] at h1
      have H1 := Lib.hid h1.1
      have G1 := Lib.hid (HB.out.grown h1.2 HB.out.size (by rintro _ ⟨⟩; exact Nat.le_refl _))
      clear h1
      go_wp2
      exact ⟨⟨k + 1, hlt, by rw [div_cast], by go_num, H1, G1⟩, by simp [intOf]; omega⟩
    · have hkn : k = n := by omega
      subst hkn
      have hcv := own_str HO.out
      go_wp2
      go_ret
      exact ⟨by simp, HB.out⟩

theorem ret_str {a b : ByteArray} (h : a = b) : Ending.returned (.string a) = .returned (.string b) := by rw [h]
theorem ret_int {k : IntKind} {a b : Int} (h : a = b) : Ending.returned (.int k a) = .returned (.int k b) := by rw [h]
theorem ret_bool {a b : Bool} (h : a = b) : Ending.returned (.bool a) = .returned (.bool b) := by rw [h]

theorem take_snoc (l : List UInt8) (k : Nat) (h : k < l.length) : l.take (k + 1) = l.take k ++ [l[k]] := by
  rw [List.take_succ_eq_append_getElem h]

set_option maxRecDepth 100000 in
set_option maxHeartbeats 400000 in
/-- octet.get: the number of bytes, up to seven. -/
theorem get_any (s : ByteArray) (w : World) (hs : s.size ≤ 7) :
    Calls Tryz.prog 127 #[.string s] w fun e w' => e = .returned (.int .i64 (num s.data.toList)) ∧ w = w' := by
  go_enter Tryz.func127, Tryz.ntmps127
  go_wp2
  go_loop [3, 7] (fun vx vi => ∃ k : Nat, k ≤ s.size ∧ vi = .int .i64 k ∧ vx = .int .i64 (num (s.data.toList.take k))) (fun _ vi => s.size - (intOf vi).toNat)
  case atStart => exact ⟨0, Nat.zero_le _, rfl, rfl⟩
  case round =>
    obtain ⟨k, hk, rfl, rfl⟩ := hrel
    by_cases hlt : k < s.size
    · have hsn := take_snoc s.data.toList k hlt
      have hn : num (s.data.toList.take k) < 256 ^ 6 := by
        have h1 := num_lt (s.data.toList.take k)
        have h2 : 256 ^ (s.data.toList.take k).length ≤ 256 ^ 6 := Nat.pow_le_pow_right (by omega) (by rw [List.length_take]; omega)
        omega
      have HS := Lib.hid hsn
      clear hsn
      go_wp2
      exact ⟨⟨k + 1, hlt, by go_num, by rw [or_byte _ _ hn (UInt8.toNat_lt _), HS.out, num_snoc]; rfl⟩, by simp [intOf]; omega⟩
    · have hkn : k = s.size := by omega
      subst hkn
      go_wp2
      go_ret
      exact ⟨ret_int (by rw [List.take_of_length_le (by simp)]), rfl⟩

/-- Is a number one in n bytes? -/
def fits (n : Nat) (x : Int) : Bool := decide (0 ≤ x) && decide (x < 256 ^ n)

theorem pow_small (n : Nat) (h : n ≤ 7) : (256 : Int) ^ n ≤ 72057594037927936 := by
  have h1 : (256 : Nat) ^ n ≤ 256 ^ 7 := Nat.pow_le_pow_right (by decide) h
  have h2 : ((256 : Nat) ^ 7 : Nat) = 72057594037927936 := by decide
  have h3 : (((256 : Nat) ^ n : Nat) : Int) = (256 : Int) ^ n := by simp
  omega
theorem pow_pos (n : Nat) : (0 : Int) < 256 ^ n := by
  have h3 : (((256 : Nat) ^ n : Nat) : Int) = (256 : Int) ^ n := by simp
  have := Nat.pow_pos (a := 256) (n := n) (by decide)
  omega

end Go.Proofs.YtnacjogdndggeaaGreatDoor
end

section
namespace Go.Proofs.YtnacjogdndggeaaGreatDoor
open Go.Shelf Go.RowKit

/-- A slice value whose elements are these integers, read in the world. -/
def RI (w : World) (v : Value) (zs : List Int) : Prop :=
  ∃ A c, v = .slice A zs.length c ∧ ∀ j, j < zs.length → ∃ b o, A = some ⟨b, o, none⟩ ∧ w.cell? ⟨b, o + j, none⟩ = some (.int .i64 (zs.getD j 0))

/-- The error of octet.Num: 1 an argument, 2 a number, 0 none. -/
def numsE (n : Int) (zs : List Int) : Int := if n < 1 ∨ 7 < n then 1 else if zs.all (fits n.toNat) = true then 0 else 2
/-- Numbers' bytes, each in n. -/
def flatN (n : Nat) (zs : List Int) : List UInt8 := zs.flatMap fun z => be n z.toNat
/-- Its bytes. -/
def numsB (n : Int) (zs : List Int) : List UInt8 := if numsE n zs = 0 then flatN n.toNat zs else []

set_option maxRecDepth 100000 in
set_option maxHeartbeats 400000 in
theorem Num_bad (n : Int) (v : Value) (w : World) (hn : n < 1 ∨ 7 < n) :
    Calls Tryz.prog 121 #[.int .i64 n, v] w fun e w' => e = .returned (.tuple #[.string ⟨#[]⟩, .int .i64 1]) ∧ w = w' := by
  rcases hn with hn | hn
  · go_enter Tryz.func121, Tryz.ntmps121
    go_wp2
    go_ret2
    exact ⟨rfl, rfl⟩
  · have h1 : ¬ n < 1 := by omega
    go_enter Tryz.func121, Tryz.ntmps121
    go_wp2
    go_ret2
    exact ⟨rfl, rfl⟩

theorem cell_lt {w : World} {a : Addr} {v : Value} (h : w.cell? a = some v) : a.block < w.heap.size := by
  unfold World.cell? at h
  split at h
  · rename_i hh
    rcases Nat.lt_or_ge a.block w.heap.size with h' | h'
    · exact h'
    · simp [Array.getElem?_eq_none h'] at hh
  · cases h

/-- What was read before new memory was made reads the same behind it. -/
theorem below_cell {B : Nat} {w w' : World} (hb : Below B w w') {a : Addr} {v : Value} (h : w.cell? a = some v) (ha : a.block < B) : w'.cell? a = some v := by
  rw [hb.cell ha]; exact h

theorem fits_iff {n : Nat} {z : Int} : fits n z = true ↔ 0 ≤ z ∧ z < 256 ^ n := by simp [fits]
theorem fits_nonneg {n : Nat} {z : Int} (h : fits n z = true) : ¬ z < 0 := by have := (fits_iff.1 h).1; omega
theorem fits_small {n : Nat} {z : Int} (hn : n ≤ 7) (h : fits n z = true) : z ≤ 72057594037927936 := by
  have := (fits_iff.1 h).2
  have := pow_small n hn
  omega
theorem pow_256 (n : Nat) : (2 : Int) ^ (8 * n) = 256 ^ n := by rw [Int.pow_mul]; rfl
theorem fits_shift {n : Nat} {z : Int} (h : fits n z = true) : z / 2 ^ (8 * n) = 0 := by
  obtain ⟨h0, h1⟩ := fits_iff.1 h
  rw [pow_256]
  exact Int.ediv_eq_zero_of_lt h0 h1
theorem nofits_shift {n : Nat} {z : Int} (h0 : ¬ z < 0) (h : ¬ fits n z = true) : ¬ z / 2 ^ (8 * n) = 0 := by
  rw [pow_256]
  intro he
  refine h (fits_iff.2 ⟨by omega, ?_⟩)
  have := Int.emod_add_mul_ediv z (256 ^ n)
  have h2 := Int.emod_lt_of_pos z (pow_pos n)
  rw [he] at this
  omega

theorem isB_below {B b : Nat} {l : List UInt8} {w w' : World} (h : IsB B b l w) (hb : Below w.heap.size w w') : IsB B b l w' := by
  have hg : w.grownBy w' none := ⟨hb.os, hb.tape, hb.output, hb.size, fun k hk _ => hb.block k hk⟩
  refine Or.imp ?_ ?_ h
  all_goals
    rintro ⟨h1, v, h2, h3, h4⟩
    refine ⟨h1, v, ?_, h3.kept hg ?_, h4⟩
    · rw [hb.block b (Lib.BuilderAt.lt ⟨h1, v, h2, h3, h4⟩)]; exact h2
    · cases hv : v.ownBlock <;> simp

theorem ret_se {a b : ByteArray} {x y : Int} (h : a = b) (h' : x = y) : Ending.returned (.tuple #[.string a, .int .i64 x]) = .returned (.tuple #[.string b, .int .i64 y]) := by rw [h, h']

theorem nums_good {n : Nat} {zs : List Int} (h1 : 1 ≤ n) (h7 : n ≤ 7) (h : zs.all (fits n) = true) : numsE n zs = 0 ∧ numsB n zs = flatN n zs := by
  have : numsE n zs = 0 := by
    unfold numsE
    rw [if_neg (by omega), Int.toNat_natCast, if_pos h]
  exact ⟨this, by unfold numsB; rw [if_pos this, Int.toNat_natCast]⟩

theorem nums_bad {n : Nat} {zs : List Int} {k : Nat} (h1 : 1 ≤ n) (h7 : n ≤ 7) (hk : k < zs.length) (h : ¬ fits n (zs.getD k 0) = true) : numsE n zs = 2 ∧ numsB n zs = [] := by
  have hn : ¬ zs.all (fits n) = true := by
    intro ha
    refine h (List.all_eq_true.1 ha _ ?_)
    rw [List.getD_eq_getElem?_getD, List.getElem?_eq_getElem hk]
    exact List.getElem_mem hk
  have : numsE n zs = 2 := by
    unfold numsE
    rw [if_neg (by omega), Int.toNat_natCast, if_neg hn]
  exact ⟨this, by unfold numsB; rw [if_neg (by omega)]⟩

theorem take_flat (n : Nat) (zs : List Int) (k : Nat) (h : k < zs.length) : flatN n (zs.take (k + 1)) = flatN n (zs.take k) ++ be n (zs.getD k 0).toNat := by
  unfold flatN
  rw [List.take_succ_eq_append_getElem h, List.flatMap_append, List.getD_eq_getElem?_getD, List.getElem?_eq_getElem h]
  simp

theorem flat_len (n : Nat) (zs : List Int) : (flatN n zs).length = n * zs.length := by
  unfold flatN
  induction zs with
  | nil => rfl
  | cons z zs ih => simp only [List.flatMap_cons, List.length_append, be_length, ih, List.length_cons, Nat.mul_succ]; omega

theorem take_all (zs : List Int) (p : Int → Bool) (k : Nat) (h : k < zs.length) (h1 : (zs.take k).all p = true) (h2 : p (zs.getD k 0) = true) : (zs.take (k + 1)).all p = true := by
  rw [List.take_succ_eq_append_getElem h, List.all_append, h1]
  rw [List.getD_eq_getElem?_getD, List.getElem?_eq_getElem h] at h2
  simpa using h2

theorem mul_bound (n k m : Nat) (hn : n ≤ 7) (hk : k ≤ m) (hm : m ≤ 1099511627776) : n * k + 7 ≤ 140737488355328 := by
  have := Nat.mul_le_mul hn hk
  omega

theorem RI.below {w w' : World} {v : Value} {zs : List Int} (h : RI w v zs) (hb : Below w.heap.size w w') : RI w' v zs := by
  obtain ⟨A, c, rfl, h⟩ := h
  refine ⟨A, c, rfl, fun j hj => ?_⟩
  obtain ⟨b, o, hA, hc⟩ := h j hj
  exact ⟨b, o, hA, below_cell hb hc (cell_lt hc)⟩

set_option maxRecDepth 100000 in
set_option maxHeartbeats 400000 in
theorem Num_good (n : Nat) (b o : Nat) (c : Nat) (zs : List Int) (w : World) (h1 : 1 ≤ n) (h7 : n ≤ 7) (hl : zs.length ≤ 1099511627776)
    (hr : ∀ j, j < zs.length → w.cell? ⟨b, o + j, none⟩ = some (.int .i64 (zs.getD j 0))) :
    Calls Tryz.prog 121 #[.int .i64 n, .slice (some ⟨b, o, none⟩) zs.length c] w fun e w' => e = .returned (.tuple #[.string (S (numsB n zs)), .int .i64 (numsE n zs)]) ∧ Below w.heap.size w w' := by
  have hR := Lib.hid hr
  clear hr
  go_enter Tryz.func121, Tryz.ntmps121
  go_wp2
  have HB := Lib.hid ((Below.refl w.heap.size w).alloc (Nat.le_refl _) (.cells #[.pointer none, .slice none 0 0] 274))
  have HI := Lib.hid (bFresh w.heap.size w (Nat.le_refl _))
  go_loopw [17] (fun vi wr => ∃ k : Nat, k ≤ zs.length ∧ vi = .int .i64 k ∧ Hid (IsB w.heap.size w.heap.size (flatN n (zs.take k)) wr) ∧ Hid (Below w.heap.size w wr) ∧ Hid ((zs.take k).all (fits n) = true)) (fun vi _ => zs.length - (intOf vi).toNat)
  case atStart => exact ⟨0, Nat.zero_le _, rfl, HI, HB, rfl⟩
  case round =>
    obtain ⟨k, hk, rfl, HI, HB, HF⟩ := hrel
    by_cases hlt : k < zs.length
    · have hc := below_cell HB.out (hR.out k hlt) (cell_lt (hR.out k hlt))
      generalize hz : zs.getD k 0 = z at *
      have Hz := Lib.hid hz
      clear hz
      by_cases hf : fits n z = true
      · have z0 : ¬ z < 0 := fits_nonneg hf
        have z1 := fits_shift hf
        have z2 := fits_small h7 hf
        have hB := HB.out.size
        have ha := Lib.hid (take_all zs _ k hlt HF.out (by rw [Hz.out]; exact hf))
        have hlen : (flatN n (zs.take k)).length + (S (be n z.toNat)).size ≤ 140737488355328 := by
          rw [flat_len, List.length_take, S_size, be_length]
          have := mul_bound n (min k zs.length) zs.length h7 (by omega) hl
          omega
        go_wp2_with (fail)
        refine (put_any n z wr h7 (by omega) (by omega)).mono ?_
        rintro e w2 ⟨rfl, hb2⟩
        have hB2 := hb2.size
        go_wp2_with (fail)
        refine (bWrite w.heap.size w.heap.size _ _ w2 (isB_below HI.out hb2) hlen (by omega)).mono ?_
        rintro e w3 ⟨rfl, hi3, hb3⟩
        rw [S_data, ← Hz.out, ← take_flat n zs k hlt] at hi3
        have HI3 := Lib.hid hi3
        have HB3 := Lib.hid ((HB.out.trans (hb2.mono hB)).trans hb3)
        clear hi3 hb3
        go_wp2
        exact ⟨⟨k + 1, hlt, by go_num, HI3, HB3, ha⟩, by simp [intOf]; omega⟩
      · have hbad := nums_bad h1 h7 hlt (by rw [Hz.out]; exact hf)
        have Hb := Lib.hid hbad
        clear hbad
        by_cases h0 : z < 0
        · go_wp2
          go_ret2
          exact ⟨ret_se (by rw [Hb.out.2]; rfl) Hb.out.1.symm, HB.out⟩
        · have z1 := nofits_shift h0 hf
          go_wp2
          go_ret2
          exact ⟨ret_se (by rw [Hb.out.2]; rfl) Hb.out.1.symm, HB.out⟩
    · have hkn : k = zs.length := by omega
      subst hkn
      have hall := HF.out
      rw [List.take_length] at hall
      have Hg := Lib.hid (nums_good h1 h7 hall)
      clear hall
      go_wp2_with (fail)
      refine (bString w.heap.size w.heap.size _ wr HI.out HB.out.size).mono ?_
      rintro e w2 ⟨rfl, hb2⟩
      go_wp2
      go_ret2
      exact ⟨ret_se (by rw [Hg.out.2]) Hg.out.1.symm, HB.out.trans (hb2)⟩

set_option maxRecDepth 100000 in
set_option maxHeartbeats 400000 in
theorem Num_nil (n : Nat) (A : Option Addr) (c : Nat) (w : World) (h1 : 1 ≤ n) (h7 : n ≤ 7) :
    Calls Tryz.prog 121 #[.int .i64 n, .slice A 0 c] w fun e w' => e = .returned (.tuple #[.string (S []), .int .i64 0]) ∧ Below w.heap.size w w' := by
  go_enter Tryz.func121, Tryz.ntmps121
  go_wp2
  have HB := Lib.hid ((Below.refl w.heap.size w).alloc (Nat.le_refl _) (.cells #[.pointer none, .slice none 0 0] 274))
  have HI := Lib.hid (bFresh w.heap.size w (Nat.le_refl _))
  refine wp_loop_rounds 1 ?_
  rw [rounds_succ]
  go_wp2_with (fail)
  refine (bString w.heap.size w.heap.size _ _ HI.out HB.out.size).mono ?_
  rintro e w2 ⟨rfl, hb2⟩
  go_wp2
  go_ret2
  exact ⟨rfl, HB.out.trans hb2⟩

/-- octet.Num, whatever it is given. -/
theorem Num_any (n : Int) (v : Value) (zs : List Int) (w : World) (hr : RI w v zs) (hl : zs.length ≤ 1099511627776) :
    Calls Tryz.prog 121 #[.int .i64 n, v] w fun e w' => e = .returned (.tuple #[.string (S (numsB n zs)), .int .i64 (numsE n zs)]) ∧ Below w.heap.size w w' := by
  by_cases hn : n < 1 ∨ 7 < n
  · refine (Num_bad n v w hn).mono ?_
    rintro e w' ⟨rfl, rfl⟩
    have h1 : numsE n zs = 1 := by unfold numsE; rw [if_pos hn]
    exact ⟨ret_se (by unfold numsB; rw [if_neg (by omega)]; rfl) h1.symm, Below.refl _ _⟩
  · obtain ⟨m, rfl⟩ := Int.eq_ofNat_of_zero_le (show 0 ≤ n by omega)
    obtain ⟨A, c, rfl, h⟩ := hr
    rcases Nat.eq_zero_or_pos zs.length with h0 | h0
    · obtain rfl : zs = [] := List.eq_nil_of_length_eq_zero h0
      refine (Num_nil m A c w (by omega) (by omega)).mono ?_
      rintro e w' ⟨rfl, hb⟩
      have hg := nums_good (n := m) (zs := []) (by omega) (by omega) rfl
      exact ⟨ret_se (by rw [hg.2]; rfl) hg.1.symm, hb⟩
    · obtain ⟨b, o, rfl, _⟩ := h 0 h0
      refine Num_good m b o c zs w (by omega) (by omega) hl (fun j hj => ?_)
      obtain ⟨b', o', hA, hc⟩ := h j hj
      injection hA with hA
      injection hA with h1 h2
      subst h1; subst h2
      exact hc

theorem ri_one (w : World) (x : Int) : RI (w.alloc (.cells #[.int .i64 x] 3)) (.slice (some ⟨w.heap.size, 0, none⟩) 1 1) [x] :=
  ⟨_, 1, rfl, fun j hj => ⟨_, _, rfl, by obtain rfl : j = 0 := by simpa using hj
                                         exact cell_one_new w (.int .i64 x) 3 0 _ rfl⟩⟩


/-- The elements of a slice of whole numbers, read in the world. -/
def RIa (w : World) (A : Option Addr) (zs : List Int) : Prop := ∀ j, j < zs.length → ∃ b o, A = some ⟨b, o, none⟩ ∧ w.cell? ⟨b, o + j, none⟩ = some (.int .i64 (zs.getD j 0))
theorem RIa.ri {w : World} {A : Option Addr} {zs : List Int} (h : RIa w A zs) (c : Nat) : RI w (.slice A zs.length c) zs := ⟨A, c, rfl, h⟩

/-- The elements of a slice of texts, read in the world. -/
def RSa (w : World) (A : Option Addr) (ts : List (List UInt8)) : Prop := ∀ j, j < ts.length → ∃ b o, A = some ⟨b, o, none⟩ ∧ w.cell? ⟨b, o + j, none⟩ = some (.string (S (ts.getD j [])))
/-- The elements of a slice of numbers of 16 bits, read in the world. -/
def RUa (w : World) (A : Option Addr) (zs : List Int) : Prop := ∀ j, j < zs.length → ∃ b o, A = some ⟨b, o, none⟩ ∧ w.cell? ⟨b, o + j, none⟩ = some (.int .u16 (zs.getD j 0))

end Go.Proofs.YtnacjogdndggeaaGreatDoor
end
