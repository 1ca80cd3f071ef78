/- octet.Text, octet.List and the document's answers for them: what each comes to. -/
import Derived.Test.YtdiebameocbahaaOcI
namespace Go.Proofs.Ytdiebameocbahaa
open Go.Shelf Go.RowKit

/-- A text's bytes; texts' bytes. -/
def textB (s : List UInt8) : List UInt8 := be 2 s.length ++ s
def textsB (l : List (List UInt8)) : List UInt8 := l.flatMap textB
theorem textB_length (s : List UInt8) : (textB s).length = 2 + s.length := by simp [textB]
/-- None is too long. -/
def shortAll (l : List (List UInt8)) : Bool := l.all fun s => decide (s.length ≤ 65535)

theorem textsB_take (l : List (List UInt8)) (k : Nat) (h : k < l.length) : textsB (l.take (k + 1)) = textsB (l.take k) ++ textB (l.getD k []) := by
  unfold textsB
  rw [List.take_succ_eq_append_getElem h, List.flatMap_append, List.getD_eq_getElem?_getD, List.getElem?_eq_getElem h]
  simp

theorem textsB_len (l : List (List UInt8)) (m : Nat) (h : ∀ s, s ∈ l → s.length ≤ m) : (textsB l).length ≤ (2 + m) * l.length := by
  induction l with
  | nil => simp [textsB]
  | cons s l ih =>
    have := ih fun x hx => h x (by simp [hx])
    have h1 := h s (by simp)
    unfold textsB at *
    rw [List.flatMap_cons, List.length_append, textB_length, List.length_cons, Nat.mul_succ]
    omega

theorem short_getD {l : List (List UInt8)} (h : shortAll l = true) {k : Nat} (hk : k < l.length) : (l.getD k []).length ≤ 65535 := by
  rw [List.getD_eq_getElem?_getD, List.getElem?_eq_getElem hk]
  have := List.all_eq_true.1 h _ (List.getElem_mem hk)
  simpa using this

theorem short_take {l : List (List UInt8)} (h : shortAll l = true) (k : Nat) : ∀ s, s ∈ l.take k → s.length ≤ 65535 := by
  intro s hs
  have := List.all_eq_true.1 h s (List.mem_of_mem_take hs)
  simpa using this

theorem long_first {l : List (List UInt8)} (h : ¬ shortAll l = true) : ∃ j, j < l.length ∧ ¬ (l.getD j []).length ≤ 65535 ∧ ∀ i, i < j → (l.getD i []).length ≤ 65535 := by
  induction l with
  | nil => exact absurd rfl h
  | cons s l ih =>
    by_cases hs : s.length ≤ 65535
    · obtain ⟨j, h1, h2, h3⟩ := ih (by intro hl; exact h (by unfold shortAll at *; simp [hs]; simpa using hl))
      refine ⟨j + 1, by simpa using h1, by simpa using h2, fun i hi => ?_⟩
      cases i with
      | zero => simpa using hs
      | succ i => simpa using h3 i (by omega)
    · exact ⟨0, by simp, by simpa using hs, fun i hi => by omega⟩

theorem take_mem_getD {l : List (List UInt8)} {k : Nat} {s : List UInt8} (h : s ∈ l.take k) : ∃ i, i < k ∧ s = l.getD i [] := by
  obtain ⟨i, hi, rfl⟩ := List.getElem_of_mem h
  rw [List.length_take] at hi
  refine ⟨i, by omega, ?_⟩
  rw [List.getElem_take, List.getD_eq_getElem?_getD, List.getElem?_eq_getElem (by omega)]
  rfl

set_option maxRecDepth 100000 in
set_option maxHeartbeats 1000000 in
theorem Text_good (A : Option Addr) (c : Nat) (l : List (List UInt8)) (w : World) (hr : RSa w A l) (hl : l.length ≤ 1000) (hs : shortAll l = true) :
    Calls Try.prog 37 #[.slice A l.length c] w fun e w' => e = .returned (.tuple #[.string (S (textsB l)), .int .i64 0]) ∧ Below w.heap.size w w' := by
  have hR := Lib.hid hr
  have HS := Lib.hid hs
  clear hr hs
  go_enter Try.func37, Try.ntmps37
  go_wp2
  have HB := Lib.hid ((Below.refl w.heap.size w).alloc (Nat.le_refl _) (.cells #[.pointer none, .slice none 0 0] 83))
  have HI := Lib.hid (bFresh w.heap.size w (Nat.le_refl _))
  go_loopw [9] (fun vi wr => ∃ k : Nat, k ≤ l.length ∧ vi = .int .i64 k ∧ Hid (IsB w.heap.size w.heap.size (textsB (l.take k)) wr) ∧ Hid (Below w.heap.size w wr)) (fun vi _ => l.length - (intOf vi).toNat)
  case atStart => exact ⟨0, Nat.zero_le _, rfl, HI, HB⟩
  case round =>
    obtain ⟨k, hk, rfl, HI, HB⟩ := hrel
    by_cases hlt : k < l.length
    · obtain ⟨b, o, rfl, hc⟩ := hR.out k hlt
      have hcell := below_cell HB.out hc (cell_lt hc)
      clear hc
      have hx := short_getD HS.out hlt
      have Ht := Lib.hid (textsB_take l k hlt)
      have hlen := textsB_len (l.take k) 65535 (short_take HS.out k)
      rw [List.length_take] at hlen
      have hlen2 : (textsB (l.take k)).length ≤ 65537000 := by omega
      clear hlen
      generalize l.getD k [] = x at *
      have hB := HB.out.size
      go_wp2_with (fail)
      refine (put_any 2 x.length wr (by omega) (by omega) (by omega)).mono ?_
      rintro e w2 ⟨rfl, hb2⟩
      rw [Int.toNat_natCast]
      have hB2 := hb2.size
      go_wp2_with (fail)
      refine (bWrite w.heap.size w.heap.size _ _ w2 (isB_below HI.out hb2) (by simp; omega) (by omega)).mono ?_
      rintro e w3 ⟨rfl, hi3, hb3⟩
      have HI3 : Hid (IsB w.heap.size w.heap.size (textsB (l.take (k + 1))) w3) := by
        apply Lib.hid
        rw [Ht.out]
        exact hi3
      have HB3 := Lib.hid ((HB.out.trans (hb2.mono hB)).trans hb3)
      clear hi3 hb3
      go_wp2
      exact ⟨⟨k + 1, hlt, by go_num, HI3, HB3⟩, by simp [intOf]; omega⟩
    · have hkn : k = l.length := by omega
      subst hkn
      go_wp2_with (fail)
      refine (bString w.heap.size w.heap.size _ wr HI.out HB.out.size).mono ?_
      rintro e w2 ⟨rfl, hb2⟩
      go_wp2
      go_ret2
      exact ⟨ret_se (by simp) rfl, HB.out.trans hb2⟩

set_option maxRecDepth 100000 in
set_option maxHeartbeats 1000000 in
theorem Text_bad (A : Option Addr) (c : Nat) (l : List (List UInt8)) (w : World) (hr : RSa w A l) (hl : l.length ≤ 1000) (hs : ¬ shortAll l = true) :
    Calls Try.prog 37 #[.slice A l.length c] w fun e w' => e = .returned (.tuple #[.string ⟨#[]⟩, .int .i64 6]) ∧ Below w.heap.size w w' := by
  obtain ⟨j, hj, hlong, hshort⟩ := long_first hs
  have hR := Lib.hid hr
  have HJ := Lib.hid hlong
  have HK := Lib.hid hshort
  clear hr hs hlong hshort
  go_enter Try.func37, Try.ntmps37
  go_wp2
  have HB := Lib.hid ((Below.refl w.heap.size w).alloc (Nat.le_refl _) (.cells #[.pointer none, .slice none 0 0] 83))
  have HI := Lib.hid (bFresh w.heap.size w (Nat.le_refl _))
  go_loopw [9] (fun vi wr => ∃ k : Nat, k ≤ j ∧ vi = .int .i64 k ∧ Hid (IsB w.heap.size w.heap.size (textsB (l.take k)) wr) ∧ Hid (Below w.heap.size w wr)) (fun vi _ => l.length - (intOf vi).toNat)
  case atStart => exact ⟨0, Nat.zero_le _, rfl, HI, HB⟩
  case round =>
    obtain ⟨k, hk, rfl, HI, HB⟩ := hrel
    have hlt : k < l.length := by omega
    obtain ⟨b, o, rfl, hc⟩ := hR.out k hlt
    have hcell := below_cell HB.out hc (cell_lt hc)
    clear hc
    by_cases hx : (l.getD k []).length ≤ 65535
    · have hkj : k ≠ j := by
        rintro rfl
        exact HJ.out hx
      have Ht := Lib.hid (textsB_take l k hlt)
      have hlen := textsB_len (l.take k) 65535 (fun s hs => by
        obtain ⟨i, hi, rfl⟩ := take_mem_getD hs
        exact HK.out i (by omega))
      rw [List.length_take] at hlen
      have hlen2 : (textsB (l.take k)).length ≤ 65537000 := by omega
      clear hlen
      generalize l.getD k [] = x at *
      have hB := HB.out.size
      go_wp2_with (fail)
      refine (put_any 2 x.length wr (by omega) (by omega) (by omega)).mono ?_
      rintro e w2 ⟨rfl, hb2⟩
      rw [Int.toNat_natCast]
      have hB2 := hb2.size
      go_wp2_with (fail)
      refine (bWrite w.heap.size w.heap.size _ _ w2 (isB_below HI.out hb2) (by simp; omega) (by omega)).mono ?_
      rintro e w3 ⟨rfl, hi3, hb3⟩
      have HI3 : Hid (IsB w.heap.size w.heap.size (textsB (l.take (k + 1))) w3) := by
        apply Lib.hid
        rw [Ht.out]
        exact hi3
      have HB3 := Lib.hid ((HB.out.trans (hb2.mono hB)).trans hb3)
      clear hi3 hb3
      go_wp2
      exact ⟨⟨k + 1, by omega, by go_num, HI3, HB3⟩, by simp [intOf]; omega⟩
    · generalize l.getD k [] = x at *
      go_wp2
      go_ret2
      exact ⟨rfl, HB.out⟩

end Go.Proofs.Ytdiebameocbahaa
