/- octet.Num, Text and List: what each comes to. -/
import Derived.Test.YtdiebameocbahaaOcB
import Derived.Laws.ShiftsVarLaws
namespace Go.Proofs.Ytdiebameocbahaa
open Go.Shelf Go.RowKit

/-- A slice value whose elements are these integers, read in the world. -/
def RI (w : World) (v : Value) (zs : List Int) : Prop :=
  ∃ A c, v = .slice A zs.length c ∧ ∀ j, j < zs.length → ∃ b o, A = some ⟨b, o, none⟩ ∧ w.cell? ⟨b, o + j, none⟩ = some (.int .i64 (zs.getD j 0))

/-- The error of octet.Num: 1 an argument, 2 a number, 0 none. -/
def numsE (n : Int) (zs : List Int) : Int := if n < 1 ∨ 7 < n then 1 else if zs.all (fits n.toNat) = true then 0 else 2
/-- Numbers' bytes, each in n. -/
def flatN (n : Nat) (zs : List Int) : List UInt8 := zs.flatMap fun z => be n z.toNat
/-- Its bytes. -/
def numsB (n : Int) (zs : List Int) : List UInt8 := if numsE n zs = 0 then flatN n.toNat zs else []

set_option maxRecDepth 100000 in
set_option maxHeartbeats 400000 in
theorem Num_bad (n : Int) (v : Value) (w : World) (hn : n < 1 ∨ 7 < n) :
    Calls Try.prog 16 #[.int .i64 n, v] w fun e w' => e = .returned (.tuple #[.string ⟨#[]⟩, .int .i64 1]) ∧ w = w' := by
  rcases hn with hn | hn
  · go_enter Try.func16, Try.ntmps16
    go_wp2
    go_ret2
    exact ⟨rfl, rfl⟩
  · have h1 : ¬ n < 1 := by omega
    go_enter Try.func16, Try.ntmps16
    go_wp2
    go_ret2
    exact ⟨rfl, rfl⟩

theorem cell_lt {w : World} {a : Addr} {v : Value} (h : w.cell? a = some v) : a.block < w.heap.size := by
  unfold World.cell? at h
  split at h
  · rename_i hh
    rcases Nat.lt_or_ge a.block w.heap.size with h' | h'
    · exact h'
    · simp [Array.getElem?_eq_none h'] at hh
  · cases h

/-- What was read before new memory was made reads the same behind it. -/
theorem below_cell {B : Nat} {w w' : World} (hb : Below B w w') {a : Addr} {v : Value} (h : w.cell? a = some v) (ha : a.block < B) : w'.cell? a = some v := by
  rw [hb.cell ha]; exact h

theorem fits_iff {n : Nat} {z : Int} : fits n z = true ↔ 0 ≤ z ∧ z < 256 ^ n := by simp [fits]
theorem fits_nonneg {n : Nat} {z : Int} (h : fits n z = true) : ¬ z < 0 := by have := (fits_iff.1 h).1; omega
theorem fits_small {n : Nat} {z : Int} (hn : n ≤ 7) (h : fits n z = true) : z ≤ 72057594037927936 := by
  have := (fits_iff.1 h).2
  have := pow_small n hn
  omega
theorem pow_256 (n : Nat) : (2 : Int) ^ (8 * n) = 256 ^ n := by rw [Int.pow_mul]; rfl
theorem fits_shift {n : Nat} {z : Int} (h : fits n z = true) : z / 2 ^ (8 * n) = 0 := by
  obtain ⟨h0, h1⟩ := fits_iff.1 h
  rw [pow_256]
  exact Int.ediv_eq_zero_of_lt h0 h1
theorem nofits_shift {n : Nat} {z : Int} (h0 : ¬ z < 0) (h : ¬ fits n z = true) : ¬ z / 2 ^ (8 * n) = 0 := by
  rw [pow_256]
  intro he
  refine h (fits_iff.2 ⟨by omega, ?_⟩)
  have := Int.emod_add_mul_ediv z (256 ^ n)
  have h2 := Int.emod_lt_of_pos z (pow_pos n)
  rw [he] at this
  omega

theorem isB_below {B b : Nat} {l : List UInt8} {w w' : World} (h : IsB B b l w) (hb : Below w.heap.size w w') : IsB B b l w' := by
  have hg : w.grownBy w' none := ⟨hb.os, hb.tape, hb.output, hb.size, fun k hk _ => hb.block k hk⟩
  refine Or.imp ?_ ?_ h
  all_goals
    rintro ⟨h1, v, h2, h3, h4⟩
    refine ⟨h1, v, ?_, h3.kept hg ?_, h4⟩
    · rw [hb.block b (Lib.BuilderAt.lt ⟨h1, v, h2, h3, h4⟩)]; exact h2
    · cases hv : v.ownBlock <;> simp

theorem ret_se {a b : ByteArray} {x y : Int} (h : a = b) (h' : x = y) : Ending.returned (.tuple #[.string a, .int .i64 x]) = .returned (.tuple #[.string b, .int .i64 y]) := by rw [h, h']

theorem nums_good {n : Nat} {zs : List Int} (h1 : 1 ≤ n) (h7 : n ≤ 7) (h : zs.all (fits n) = true) : numsE n zs = 0 ∧ numsB n zs = flatN n zs := by
  have : numsE n zs = 0 := by
    unfold numsE
    rw [if_neg (by omega), Int.toNat_natCast, if_pos h]
  exact ⟨this, by unfold numsB; rw [if_pos this, Int.toNat_natCast]⟩

theorem nums_bad {n : Nat} {zs : List Int} {k : Nat} (h1 : 1 ≤ n) (h7 : n ≤ 7) (hk : k < zs.length) (h : ¬ fits n (zs.getD k 0) = true) : numsE n zs = 2 ∧ numsB n zs = [] := by
  have hn : ¬ zs.all (fits n) = true := by
    intro ha
    refine h (List.all_eq_true.1 ha _ ?_)
    rw [List.getD_eq_getElem?_getD, List.getElem?_eq_getElem hk]
    exact List.getElem_mem hk
  have : numsE n zs = 2 := by
    unfold numsE
    rw [if_neg (by omega), Int.toNat_natCast, if_neg hn]
  exact ⟨this, by unfold numsB; rw [if_neg (by omega)]⟩

theorem take_flat (n : Nat) (zs : List Int) (k : Nat) (h : k < zs.length) : flatN n (zs.take (k + 1)) = flatN n (zs.take k) ++ be n (zs.getD k 0).toNat := by
  unfold flatN
  rw [List.take_succ_eq_append_getElem h, List.flatMap_append, List.getD_eq_getElem?_getD, List.getElem?_eq_getElem h]
  simp

theorem flat_len (n : Nat) (zs : List Int) : (flatN n zs).length = n * zs.length := by
  unfold flatN
  induction zs with
  | nil => rfl
  | cons z zs ih => simp only [List.flatMap_cons, List.length_append, be_length, ih, List.length_cons, Nat.mul_succ]; omega

theorem take_all (zs : List Int) (p : Int → Bool) (k : Nat) (h : k < zs.length) (h1 : (zs.take k).all p = true) (h2 : p (zs.getD k 0) = true) : (zs.take (k + 1)).all p = true := by
  rw [List.take_succ_eq_append_getElem h, List.all_append, h1]
  rw [List.getD_eq_getElem?_getD, List.getElem?_eq_getElem h] at h2
  simpa using h2

theorem mul_bound (n k m : Nat) (hn : n ≤ 7) (hk : k ≤ m) (hm : m ≤ 1099511627776) : n * k + 7 ≤ 140737488355328 := by
  have := Nat.mul_le_mul hn hk
  omega

theorem RI.below {w w' : World} {v : Value} {zs : List Int} (h : RI w v zs) (hb : Below w.heap.size w w') : RI w' v zs := by
  obtain ⟨A, c, rfl, h⟩ := h
  refine ⟨A, c, rfl, fun j hj => ?_⟩
  obtain ⟨b, o, hA, hc⟩ := h j hj
  exact ⟨b, o, hA, below_cell hb hc (cell_lt hc)⟩

set_option maxRecDepth 100000 in
set_option maxHeartbeats 400000 in
theorem Num_good (n : Nat) (b o : Nat) (c : Nat) (zs : List Int) (w : World) (h1 : 1 ≤ n) (h7 : n ≤ 7) (hl : zs.length ≤ 1099511627776)
    (hr : ∀ j, j < zs.length → w.cell? ⟨b, o + j, none⟩ = some (.int .i64 (zs.getD j 0))) :
    Calls Try.prog 16 #[.int .i64 n, .slice (some ⟨b, o, none⟩) zs.length c] w fun e w' => e = .returned (.tuple #[.string (S (numsB n zs)), .int .i64 (numsE n zs)]) ∧ Below w.heap.size w w' := by
  have hR := Lib.hid hr
  clear hr
  go_enter Try.func16, Try.ntmps16
  go_wp2
  have HB := Lib.hid ((Below.refl w.heap.size w).alloc (Nat.le_refl _) (.cells #[.pointer none, .slice none 0 0] 83))
  have HI := Lib.hid (bFresh w.heap.size w (Nat.le_refl _))
  go_loopw [17] (fun vi wr => ∃ k : Nat, k ≤ zs.length ∧ vi = .int .i64 k ∧ Hid (IsB w.heap.size w.heap.size (flatN n (zs.take k)) wr) ∧ Hid (Below w.heap.size w wr) ∧ Hid ((zs.take k).all (fits n) = true)) (fun vi _ => zs.length - (intOf vi).toNat)
  case atStart => exact ⟨0, Nat.zero_le _, rfl, HI, HB, rfl⟩
  case round =>
    obtain ⟨k, hk, rfl, HI, HB, HF⟩ := hrel
    by_cases hlt : k < zs.length
    · have hc := below_cell HB.out (hR.out k hlt) (cell_lt (hR.out k hlt))
      generalize hz : zs.getD k 0 = z at *
      have Hz := Lib.hid hz
      clear hz
      by_cases hf : fits n z = true
      · have z0 : ¬ z < 0 := fits_nonneg hf
        have z1 := fits_shift hf
        have z2 := fits_small h7 hf
        have hB := HB.out.size
        have ha := Lib.hid (take_all zs _ k hlt HF.out (by rw [Hz.out]; exact hf))
        have hlen : (flatN n (zs.take k)).length + (S (be n z.toNat)).size ≤ 140737488355328 := by
          rw [flat_len, List.length_take, S_size, be_length]
          have := mul_bound n (min k zs.length) zs.length h7 (by omega) hl
          omega
        go_wp2_with (fail)
        refine (put_any n z wr h7 (by omega) (by omega)).mono ?_
        rintro e w2 ⟨rfl, hb2⟩
        have hB2 := hb2.size
        go_wp2_with (fail)
        refine (bWrite w.heap.size w.heap.size _ _ w2 (isB_below HI.out hb2) hlen (by omega)).mono ?_
        rintro e w3 ⟨rfl, hi3, hb3⟩
        rw [S_data, ← Hz.out, ← take_flat n zs k hlt] at hi3
        have HI3 := Lib.hid hi3
        have HB3 := Lib.hid ((HB.out.trans (hb2.mono hB)).trans hb3)
        clear hi3 hb3
        go_wp2
        exact ⟨⟨k + 1, hlt, by go_num, HI3, HB3, ha⟩, by simp [intOf]; omega⟩
      · have hbad := nums_bad h1 h7 hlt (by rw [Hz.out]; exact hf)
        have Hb := Lib.hid hbad
        clear hbad
        by_cases h0 : z < 0
        · go_wp2
          go_ret2
          exact ⟨ret_se (by rw [Hb.out.2]; rfl) Hb.out.1.symm, HB.out⟩
        · have z1 := nofits_shift h0 hf
          go_wp2
          go_ret2
          exact ⟨ret_se (by rw [Hb.out.2]; rfl) Hb.out.1.symm, HB.out⟩
    · have hkn : k = zs.length := by omega
      subst hkn
      have hall := HF.out
      rw [List.take_length] at hall
      have Hg := Lib.hid (nums_good h1 h7 hall)
      clear hall
      go_wp2_with (fail)
      refine (bString w.heap.size w.heap.size _ wr HI.out HB.out.size).mono ?_
      rintro e w2 ⟨rfl, hb2⟩
      go_wp2
      go_ret2
      exact ⟨ret_se (by rw [Hg.out.2]) Hg.out.1.symm, HB.out.trans (hb2)⟩

set_option maxRecDepth 100000 in
set_option maxHeartbeats 400000 in
theorem Num_nil (n : Nat) (A : Option Addr) (c : Nat) (w : World) (h1 : 1 ≤ n) (h7 : n ≤ 7) :
    Calls Try.prog 16 #[.int .i64 n, .slice A 0 c] w fun e w' => e = .returned (.tuple #[.string (S []), .int .i64 0]) ∧ Below w.heap.size w w' := by
  go_enter Try.func16, Try.ntmps16
  go_wp2
  have HB := Lib.hid ((Below.refl w.heap.size w).alloc (Nat.le_refl _) (.cells #[.pointer none, .slice none 0 0] 83))
  have HI := Lib.hid (bFresh w.heap.size w (Nat.le_refl _))
  refine wp_loop_rounds 1 ?_
  rw [rounds_succ]
  go_wp2_with (fail)
  refine (bString w.heap.size w.heap.size _ _ HI.out HB.out.size).mono ?_
  rintro e w2 ⟨rfl, hb2⟩
  go_wp2
  go_ret2
  exact ⟨rfl, HB.out.trans hb2⟩

/-- octet.Num, whatever it is given. -/
theorem Num_any (n : Int) (v : Value) (zs : List Int) (w : World) (hr : RI w v zs) (hl : zs.length ≤ 1099511627776) :
    Calls Try.prog 16 #[.int .i64 n, v] w fun e w' => e = .returned (.tuple #[.string (S (numsB n zs)), .int .i64 (numsE n zs)]) ∧ Below w.heap.size w w' := by
  by_cases hn : n < 1 ∨ 7 < n
  · refine (Num_bad n v w hn).mono ?_
    rintro e w' ⟨rfl, rfl⟩
    have h1 : numsE n zs = 1 := by unfold numsE; rw [if_pos hn]
    exact ⟨ret_se (by unfold numsB; rw [if_neg (by omega)]; rfl) h1.symm, Below.refl _ _⟩
  · obtain ⟨m, rfl⟩ := Int.eq_ofNat_of_zero_le (show 0 ≤ n by omega)
    obtain ⟨A, c, rfl, h⟩ := hr
    rcases Nat.eq_zero_or_pos zs.length with h0 | h0
    · obtain rfl : zs = [] := List.eq_nil_of_length_eq_zero h0
      refine (Num_nil m A c w (by omega) (by omega)).mono ?_
      rintro e w' ⟨rfl, hb⟩
      have hg := nums_good (n := m) (zs := []) (by omega) (by omega) rfl
      exact ⟨ret_se (by rw [hg.2]; rfl) hg.1.symm, hb⟩
    · obtain ⟨b, o, rfl, _⟩ := h 0 h0
      refine Num_good m b o c zs w (by omega) (by omega) hl (fun j hj => ?_)
      obtain ⟨b', o', hA, hc⟩ := h j hj
      injection hA with hA
      injection hA with h1 h2
      subst h1; subst h2
      exact hc

theorem ri_one (w : World) (x : Int) : RI (w.alloc (.cells #[.int .i64 x] 3)) (.slice (some ⟨w.heap.size, 0, none⟩) 1 1) [x] :=
  ⟨_, 1, rfl, fun j hj => ⟨_, _, rfl, by obtain rfl : j = 0 := by simpa using hj
                                         exact cell_one_new w (.int .i64 x) 3 0 _ rfl⟩⟩


/-- The elements of a slice of whole numbers, read in the world. -/
def RIa (w : World) (A : Option Addr) (zs : List Int) : Prop := ∀ j, j < zs.length → ∃ b o, A = some ⟨b, o, none⟩ ∧ w.cell? ⟨b, o + j, none⟩ = some (.int .i64 (zs.getD j 0))
theorem RIa.ri {w : World} {A : Option Addr} {zs : List Int} (h : RIa w A zs) (c : Nat) : RI w (.slice A zs.length c) zs := ⟨A, c, rfl, h⟩

/-- The elements of a slice of texts, read in the world. -/
def RSa (w : World) (A : Option Addr) (ts : List (List UInt8)) : Prop := ∀ j, j < ts.length → ∃ b o, A = some ⟨b, o, none⟩ ∧ w.cell? ⟨b, o + j, none⟩ = some (.string (S (ts.getD j [])))
/-- The elements of a slice of numbers of 16 bits, read in the world. -/
def RUa (w : World) (A : Option Addr) (zs : List Int) : Prop := ∀ j, j < zs.length → ∃ b o, A = some ⟨b, o, none⟩ ∧ w.cell? ⟨b, o + j, none⟩ = some (.int .u16 (zs.getD j 0))

end Go.Proofs.Ytdiebameocbahaa
