/- reveillelaw01.OctetCuts: the walk. -/
import Derived.Test.YtdiebameocbahaaOcL
import Derived.Test.YtdiebameocbahaaLwOR
namespace Go.Proofs.Ytdiebameocbahaa
open Go.Shelf Go.RowKit

/-- The list is too long, or the first text that is too long, or none is. -/
theorem find_long (l : List (List UInt8)) (m : Nat) : AllLe l m ∨ ∃ j, j < l.length ∧ ¬ (l.getD j []).length ≤ m ∧ ∀ i, i < j → (l.getD i []).length ≤ m := by
  induction l with
  | nil => exact .inl (fun s hs => by simp at hs)
  | cons s l ih =>
    by_cases hs : s.length ≤ m
    · rcases ih with h | ⟨j, h1, h2, h3⟩
      · exact .inl (fun x hx => (List.mem_cons.1 hx).elim (fun e => e ▸ hs) (fun e => h x e))
      · refine .inr ⟨j + 1, by simpa using h1, by simpa using h2, fun i hi => ?_⟩
        cases i with
        | zero => simpa using hs
        | succ i => simpa using h3 i (by omega)
    · exact .inr ⟨0, by simp, by simpa using hs, fun i hi => by omega⟩

theorem AllLe.getD {l : List (List UInt8)} {m : Nat} (h : AllLe l m) {k : Nat} (hk : k < l.length) : (l.getD k []).length ≤ m := by
  rw [List.getD_eq_getElem?_getD, List.getElem?_eq_getElem hk]
  exact h _ (List.getElem_mem hk)
theorem AllLe.short {l : List (List UInt8)} {m : Nat} (h : AllLe l m) (hm : m ≤ 65535) : shortAll l = true := by
  unfold shortAll
  rw [List.all_eq_true]
  intro s hs
  have := h s hs
  simp
  omega

set_option maxRecDepth 100000 in
set_option maxHeartbeats 2000000 in
theorem cuts_law (A : Option Addr) (c : Nat) (l : List (List UInt8)) (w : World) (hr : RSa w A l) (n : Int) (h0 : 0 ≤ n) (hn : n ≤ 65535) :
    Calls Try.prog 10 #[.slice A l.length c, .int .u16 n] w fun e w' => e = .returned (.bool true) ∧ Below w.heap.size w w' := by
  by_cases h20 : (20 : Int) < (l.length : Int)
  · have q : decide ((20 : Int) < (l.length : Int)) = true := decide_eq_true h20
    go_enter Try.func10, Try.ntmps10
    go_wp2_with (fail)
    refine (awake1 _).mono ?_
    rintro e w1 ⟨rfl, hb1⟩
    go_wp2
    go_ret
    exact ⟨rfl, hb1⟩
  · have q : decide ((20 : Int) < (l.length : Int)) = false := decide_eq_false h20
    have HR := Lib.hid hr
    clear hr
    rcases find_long l 50 with ha | ⟨j, hj, hlong, hshort⟩
    · have HA := Lib.hid ha
      clear ha
      go_enter Try.func10, Try.ntmps10
      go_wp2_with (fail)
      refine (awake1 _).mono ?_
      rintro e w1 ⟨rfl, hb1⟩
      have HB := Lib.hid hb1
      clear hb1
      go_wp2_with (fail)
      go_loopw [18] (fun vi wr => ∃ k : Nat, k ≤ l.length ∧ vi = .int .i64 k ∧ Hid (Below w.heap.size w wr)) (fun vi _ => l.length - (intOf vi).toNat)
      case atStart => exact ⟨0, Nat.zero_le _, rfl, HB⟩
      case round =>
        obtain ⟨k, hk, rfl, HB⟩ := hrel
        by_cases hlt : k < l.length
        · obtain ⟨b, o, rfl, hc⟩ := HR.out k hlt
          have hcell := below_cell HB.out hc (cell_lt hc)
          clear hc
          have hx := HA.out.getD hlt
          generalize l.getD k [] = x at *
          have hx' : ¬ (50 : Int) < (x.length : Int) := by omega
          go_wp2
          exact ⟨⟨k + 1, hlt, by go_num, HB⟩, by simp [intOf]; omega⟩
        · have hkn : k = l.length := by omega
          subst hkn
          go_wp2_with (fail)
          refine (List_good A c l wr (HR.out.below HB.out) (by omega) (HA.out.short (by omega))).mono ?_
          rintro e w2 ⟨rfl, hb2⟩
          have HB2 := Lib.hid (HB.out.trans (hb2.mono HB.out.size))
          clear hb2
          have hll := listB_length l
          have hlm := textsB_len l 50 HA.out
          have hl1 : 1 ≤ (listB l).length := by omega
          have hl2 : (listB l).length ≤ 1041 := by omega
          clear hll hlm
          obtain ⟨M, hM, hMl⟩ : ∃ M : Nat, n % ((listB l).length : Int) = (M : Int) ∧ M < (listB l).length := by
            have e0 := Int.emod_nonneg n (show ((listB l).length : Int) ≠ 0 by omega)
            have e1 := Int.emod_lt_of_pos n (show (0 : Int) < ((listB l).length : Int) by omega)
            exact ⟨(n % ((listB l).length : Int)).toNat, by omega, by omega⟩
          have Hc := Lib.hid (listF_cut l M 20 50 50 (by omega) (by omega) (by omega) (by omega) HA.out hMl)
          have hle : M ≤ (listB l).length := by omega
          have htl : ((listB l).take M).length = M := by rw [List.length_take]; omega
          have Htl := Lib.hid htl
          clear htl
          go_wp2_with (fail)
          refine (New_any _ _).mono ?_
          rintro e w3 ⟨rfl, hr3, hb3⟩
          have HB3 := Lib.hid (HB2.out.trans (hb3.mono HB2.out.size))
          have HR3 := Lib.hid hr3
          have hgB : w.heap.size ≤ w2.heap.size := HB2.out.size
          generalize w2.heap.size = g at *
          clear hr3 hb3
          go_wp2_with (fail)
          refine (RList_any g _ 0 20 50 _ HR3.out).mono ?_
          rintro e w4 ⟨v4, rfl, ht4, hr4, ho4⟩
          rw [Hc.out] at ht4 hr4
          obtain ⟨A4, c4, rfl, _⟩ := ht4.rs
          have HB4 := Lib.hid (below_only HB3.out ho4 hgB HB3.out.size)
          have HR4 := Lib.hid hr4
          clear ht4 hr4 ho4
          generalize (listB l).take M = T at *
          go_wp2_with (fail)
          refine (Err_any g T 3 _ HR4.out).mono ?_
          rintro e w5 ⟨rfl, rfl⟩
          go_wp2_with (fail)
          refine (Left_any g T 3 _ HR4.out).mono ?_
          rintro e w5 ⟨rfl, rfl⟩
          rw [Htl.out]
          have He := Lib.hid (show endF T 3 = 3 from rfl)
          go_wp2_with (fail)
          refine (End_any g T 3 _ HR4.out).mono ?_
          rintro e w5 ⟨rfl, rfl⟩
          rw [He.out]
          go_wp2
          go_ret
          exact ⟨rfl, HB4.out⟩
    · have HJ := Lib.hid hlong
      have HK := Lib.hid hshort
      clear hlong hshort
      go_enter Try.func10, Try.ntmps10
      go_wp2_with (fail)
      refine (awake1 _).mono ?_
      rintro e w1 ⟨rfl, hb1⟩
      have HB := Lib.hid hb1
      clear hb1
      go_wp2_with (fail)
      go_loopw [18] (fun vi wr => ∃ k : Nat, k ≤ j ∧ vi = .int .i64 k ∧ Hid (Below w.heap.size w wr)) (fun vi _ => l.length - (intOf vi).toNat)
      case atStart => exact ⟨0, Nat.zero_le _, rfl, HB⟩
      case round =>
        obtain ⟨k, hk, rfl, HB⟩ := hrel
        have hlt : k < l.length := by omega
        obtain ⟨b, o, rfl, hc⟩ := HR.out k hlt
        have hcell := below_cell HB.out hc (cell_lt hc)
        clear hc
        by_cases hx : (l.getD k []).length ≤ 50
        · have hkj : k ≠ j := by
            rintro rfl
            exact HJ.out hx
          generalize l.getD k [] = x at *
          have hx' : ¬ (50 : Int) < (x.length : Int) := by omega
          go_wp2
          exact ⟨⟨k + 1, by omega, by go_num, HB⟩, by simp [intOf]; omega⟩
        · generalize l.getD k [] = x at *
          have hx' : (50 : Int) < (x.length : Int) := by omega
          go_wp2
          go_ret
          exact ⟨rfl, HB.out⟩

end Go.Proofs.Ytdiebameocbahaa
