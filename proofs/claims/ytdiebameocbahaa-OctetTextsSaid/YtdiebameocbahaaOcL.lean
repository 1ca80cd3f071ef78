/- octet.List, and reveilleref01's Text and List: what each comes to. -/
import Derived.Test.YtdiebameocbahaaOcK
namespace Go.Proofs.Ytdiebameocbahaa
open Go.Shelf Go.RowKit

set_option maxRecDepth 100000 in
set_option maxHeartbeats 1000000 in
theorem List_many (A : Option Addr) (c : Nat) (n : Nat) (w : World) (h : 255 < n) :
    Calls Try.prog 38 #[.slice A n c] w fun e w' => e = .returned (.tuple #[.string ⟨#[]⟩, .int .i64 6]) ∧ w = w' := by
  have h' : (255 : Int) < (n : Int) := by omega
  go_enter Try.func38, Try.ntmps38
  go_wp2
  go_ret2
  exact ⟨rfl, rfl⟩

set_option maxRecDepth 100000 in
set_option maxHeartbeats 1000000 in
theorem List_good (A : Option Addr) (c : Nat) (l : List (List UInt8)) (w : World) (hr : RSa w A l) (hl : l.length ≤ 255) (hs : shortAll l = true) :
    Calls Try.prog 38 #[.slice A l.length c] w fun e w' => e = .returned (.tuple #[.string (S (listB l)), .int .i64 0]) ∧ Below w.heap.size w w' := by
  have q : decide ((255 : Int) < (l.length : Int)) = false := decide_eq_false (by omega)
  have hlen := textsB_len l 65535 (by have := short_take hs l.length; rwa [List.take_length] at this)
  have hlen2 : (textsB l).length ≤ 65537000 := by omega
  clear hlen
  have HS := Lib.hid hs
  clear hs
  go_enter Try.func38, Try.ntmps38
  go_wp2_with (fail)
  refine (Text_good A c l w hr (by omega) HS.out).mono ?_
  rintro e w1 ⟨rfl, hb1⟩
  go_wp2_with (fail)
  refine (put_any 1 l.length w1 (by omega) (by omega) (by omega)).mono ?_
  rintro e w2 ⟨rfl, hb2⟩
  rw [Int.toNat_natCast]
  go_wp2
  go_ret2
  exact ⟨ret_se rfl rfl, hb1.trans (hb2.mono hb1.size)⟩

set_option maxRecDepth 100000 in
set_option maxHeartbeats 1000000 in
theorem List_bad (A : Option Addr) (c : Nat) (l : List (List UInt8)) (w : World) (hr : RSa w A l) (hl : l.length ≤ 255) (hs : ¬ shortAll l = true) :
    Calls Try.prog 38 #[.slice A l.length c] w fun e w' => e = .returned (.tuple #[.string ⟨#[]⟩, .int .i64 6]) ∧ Below w.heap.size w w' := by
  have q : decide ((255 : Int) < (l.length : Int)) = false := decide_eq_false (by omega)
  have HS := Lib.hid hs
  clear hs
  go_enter Try.func38, Try.ntmps38
  go_wp2_with (fail)
  refine (Text_bad A c l w hr (by omega) HS.out).mono ?_
  rintro e w1 ⟨rfl, hb1⟩
  go_wp2
  go_ret2
  exact ⟨rfl, hb1⟩

set_option maxRecDepth 100000 in
set_option maxHeartbeats 1000000 in
theorem refText_any (s : List UInt8) (w : World) (hs : s.length ≤ 140737488355328) :
    Calls Try.prog 36 #[.string (S s)] w fun e w' => e = .returned (.string (S (textB s))) ∧ Below w.heap.size w w' := by
  go_enter Try.func36, Try.ntmps36
  go_wp2_with (fail)
  refine (refNum_any 2 s.length w (by omega) (by omega) (by omega)).mono ?_
  rintro e w1 ⟨rfl, hb1⟩
  rw [Int.toNat_natCast]
  go_wp2
  go_ret
  exact ⟨rfl, hb1⟩

set_option maxRecDepth 100000 in
set_option maxHeartbeats 1000000 in
theorem refList_any (A : Option Addr) (c : Nat) (l : List (List UInt8)) (w : World) (hr : RSa w A l) (hl : l.length ≤ 255) (hs : AllLe l 1000) :
    Calls Try.prog 39 #[.slice A l.length c] w fun e w' => e = .returned (.string (S (listB l))) ∧ Below w.heap.size w w' := by
  have HS := Lib.hid hs
  have HR := Lib.hid hr
  clear hs hr
  go_enter Try.func39, Try.ntmps39
  go_wp2_with (fail)
  refine (refNum_any 1 l.length w (by omega) (by omega) (by omega)).mono ?_
  rintro e w1 ⟨rfl, hb1⟩
  rw [Int.toNat_natCast]
  have HB := Lib.hid hb1
  clear hb1
  go_wp2
  go_loopw [3, 4] (fun vs vi wr => ∃ k : Nat, k ≤ l.length ∧ vi = .int .i64 k ∧ vs = .string (S (be 1 l.length ++ textsB (l.take k))) ∧ Hid (Below w.heap.size w wr)) (fun _ vi _ => l.length - (intOf vi).toNat)
  case atStart => exact ⟨0, Nat.zero_le _, rfl, by simp [textsB], HB⟩
  case round =>
    obtain ⟨k, hk, rfl, rfl, HB⟩ := hrel
    by_cases hlt : k < l.length
    · obtain ⟨b, o, rfl, hc⟩ := HR.out k hlt
      have hcell := below_cell HB.out hc (cell_lt hc)
      clear hc
      have hx : (l.getD k []).length ≤ 1000 := by
        rw [List.getD_eq_getElem?_getD, List.getElem?_eq_getElem hlt]
        exact HS.out _ (List.getElem_mem hlt)
      have hlen := textsB_len (l.take k) 1000 (fun s hs => HS.out s (List.mem_of_mem_take hs))
      rw [List.length_take] at hlen
      have hlen2 : (textsB (l.take k)).length ≤ 1002000 := by omega
      clear hlen
      have Ht := Lib.hid (textsB_take l k hlt)
      have hbe : (be 1 l.length).length = 1 := be_length 1 _
      generalize l.getD k [] = x at *
      have hxb := textB_length x
      go_wp2_with (fail)
      refine (refText_any x wr (by omega)).mono ?_
      rintro e w2 ⟨rfl, hb2⟩
      have HB2 := Lib.hid (HB.out.trans (hb2.mono HB.out.size))
      clear hb2
      go_wp2
      exact ⟨⟨k + 1, hlt, by go_num, by rw [Ht.out], HB2⟩, by simp [intOf]; omega⟩
    · have hkn : k = l.length := by omega
      subst hkn
      go_wp2
      go_ret
      exact ⟨by simp [listB], HB.out⟩

end Go.Proofs.Ytdiebameocbahaa
