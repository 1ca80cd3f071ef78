/- reveillelaw01.awake and OctetNums: the walks. -/
import Derived.Test.YtdiebameocbahaaOcG
namespace Go.Proofs.Ytdiebameocbahaa
open Go.Shelf Go.RowKit

set_option maxRecDepth 100000 in
set_option maxHeartbeats 400000 in
theorem awake1 (w : World) :
    Calls Try.prog 15 #[] w fun e w' => e = .returned (.bool true) ∧ Below w.heap.size w w' := by
  have hg : numsE 2 [258] = 0 ∧ numsB 2 [258] = [1, 2] := by constructor <;> decide
  have Hg := Lib.hid hg
  clear hg
  go_enter Try.func15, Try.ntmps15
  go_wp2_with (fail)
  refine (Num_any 2 _ [258] _ (ri_one w 258) (by simp)).mono ?_
  rintro e w2 ⟨rfl, hb2⟩
  rw [Hg.out.1, Hg.out.2]
  have HB := Lib.hid (((Below.refl w.heap.size w).alloc (Nat.le_refl _) _).trans (hb2.mono (by simp)))
  clear hb2
  go_wp2
  go_ret
  exact ⟨rfl, HB.out⟩

theorem flat_drop (n : Nat) (zs : List Int) (k : Nat) (h : k < zs.length) : flatN n (zs.drop k) = be n (zs.getD k 0).toNat ++ flatN n (zs.drop (k + 1)) := by
  unfold flatN
  rw [List.drop_eq_getElem_cons h, List.flatMap_cons, List.getD_eq_getElem?_getD, List.getElem?_eq_getElem h]
  rfl

/-- A number that fits is read from its bytes. -/
theorem numF_be (n : Nat) (z : Int) (r : List UInt8) (h1 : 1 ≤ n) (h7 : n ≤ 7) (hf : fits n z = true) : numF (be n z.toNat ++ r) 0 n = (z, r, 0) := by
  obtain ⟨h0, hz⟩ := fits_iff.1 hf
  have h3 : (((256 : Nat) ^ n : Nat) : Int) = (256 : Int) ^ n := by simp
  unfold numF
  rw [if_neg (by simp), if_neg (by omega), if_neg (by simp; omega), Int.toNat_natCast]
  rw [List.take_append_of_le_length (by simp), List.take_of_length_le (by simp), List.drop_append_of_le_length (by simp), List.drop_of_length_le (by simp), num_be, Nat.mod_eq_of_lt (by omega)]
  simp [Int.toNat_of_nonneg h0]

theorem all_getD {zs : List Int} {p : Int → Bool} (h : zs.all p = true) {k : Nat} (hk : k < zs.length) : p (zs.getD k 0) = true := by
  rw [List.getD_eq_getElem?_getD, List.getElem?_eq_getElem hk]
  exact List.all_eq_true.1 h _ (List.getElem_mem hk)

theorem flat_take_len (m : Nat) (zs : List Int) (k : Nat) (h7 : m ≤ 7) (h : zs.length ≤ 60) : (flatN m (zs.take k)).length ≤ 420 := by
  rw [flat_len, List.length_take]
  have := Nat.mul_le_mul h7 (show min k zs.length ≤ 60 by omega)
  omega

theorem numF_nil (m : Nat) (h1 : 1 ≤ m) (h7 : m ≤ 7) : numF [] 0 m = (0, [], 3) := by
  unfold numF
  rw [if_neg (by simp), if_neg (by omega), if_pos (by simp; omega)]

theorem first_bad {zs : List Int} {p : Int → Bool} (h : ¬ zs.all p = true) : ∃ j, j < zs.length ∧ p (zs.getD j 0) = false := by
  induction zs with
  | nil => exact absurd rfl h
  | cons z zs ih =>
    by_cases hz : p z = true
    · obtain ⟨j, hj, hp⟩ := ih (by simpa [hz] using h)
      exact ⟨j + 1, by simpa using hj, by simpa using hp⟩
    · exact ⟨0, by simp, by simpa using hz⟩

set_option maxRecDepth 100000 in
set_option maxHeartbeats 2000000 in
theorem nums_law (n : Int) (A : Option Addr) (c : Nat) (zs : List Int) (w : World) (hr : RIa w A zs) :
    Calls Try.prog 4 #[.int .i64 n, .slice A zs.length c] w fun e w' => e = .returned (.bool true) ∧ Below w.heap.size w w' := by
  by_cases h60 : 60 < zs.length
  · have h60' : (60 : Int) < (zs.length : Int) := by omega
    go_enter Try.func4, Try.ntmps4
    go_wp2_with (fail)
    refine (awake1 _).mono ?_
    rintro e w1 ⟨rfl, hb1⟩
    go_wp2
    go_ret
    exact ⟨rfl, hb1⟩
  · have h60' : ¬ (60 : Int) < (zs.length : Int) := by omega
    have hR := Lib.hid hr
    clear hr
    by_cases hn : n < 1 ∨ 7 < n
    · have Hg : Hid (numsE n zs = 1 ∧ numsB n zs = []) := by
        apply Lib.hid
        have h1 : numsE n zs = 1 := by unfold numsE; rw [if_pos hn]
        exact ⟨h1, by unfold numsB; rw [if_neg (by omega)]⟩
      rcases hn with hn | hn
      all_goals
        go_enter Try.func4, Try.ntmps4
        go_wp2_with (fail)
        refine (awake1 _).mono ?_
        rintro e w1 ⟨rfl, hb1⟩
        go_wp2_with (fail)
        refine (Num_any n _ zs _ ((hR.out.ri c).below hb1) (by omega)).mono ?_
        rintro e w2 ⟨rfl, hb2⟩
        rw [Hg.out.1, Hg.out.2]
        have HB := Lib.hid (hb1.trans (hb2.mono hb1.size))
        clear hb1 hb2
        go_wp2
        go_ret
        exact ⟨rfl, HB.out⟩
    · obtain ⟨m, rfl⟩ := Int.eq_ofNat_of_zero_le (show 0 ≤ n by omega)
      have h1 : 1 ≤ m := by omega
      have h7 : m ≤ 7 := by omega
      have n1 : ¬ (m : Int) < 1 := by omega
      have n7 : ¬ 7 < (m : Int) := by omega
      have q60 : decide ((60 : Int) < (zs.length : Int)) = false := decide_eq_false h60'
      have qa : decide ((m : Int) < 1) = false := decide_eq_false n1
      have qb : decide (7 < (m : Int)) = false := decide_eq_false n7
      clear hn n1 n7 h60'
      by_cases hall : zs.all (fits m) = true
      · have Hg := Lib.hid (nums_good h1 h7 hall)
        have HA := Lib.hid hall
        clear hall
        go_enter Try.func4, Try.ntmps4
        go_wp2_with (fail)
        refine (awake1 _).mono ?_
        rintro e w1 ⟨rfl, hb1⟩
        go_wp2_with (fail)
        refine (Num_any m _ zs _ ((hR.out.ri c).below hb1) (by omega)).mono ?_
        rintro e w2 ⟨rfl, hb2⟩
        rw [Hg.out.1, Hg.out.2]
        have HB := Lib.hid (hb1.trans (hb2.mono hb1.size))
        clear hb1 hb2
        go_wp2_with (fail)
        go_loopw [7, 38] (fun vs vi wr => ∃ k : Nat, k ≤ zs.length ∧ vi = .int .i64 k ∧ vs = .string (S (flatN m (zs.take k))) ∧ Hid (Below w.heap.size w wr)) (fun _ vi _ => zs.length - (intOf vi).toNat)
        case atStart => exact ⟨0, Nat.zero_le _, rfl, rfl, HB⟩
        case round =>
          obtain ⟨k, hk, rfl, rfl, HB⟩ := hrel
          by_cases hlt : k < zs.length
          · obtain ⟨b, o, rfl, hc⟩ := hR.out k hlt
            have hcell := below_cell HB.out hc (cell_lt hc)
            have hf := all_getD HA.out hlt
            have Ht := Lib.hid (take_flat m zs k hlt)
            have hL := flat_take_len m zs k h7 (by omega)
            generalize zs.getD k 0 = z at *
            have z0 : 0 ≤ z := (fits_iff.1 hf).1
            have z1 := fits_small h7 hf
            go_wp2_with (fail)
            refine (fits_any m z _ h7).mono ?_
            rintro e w3 ⟨rfl, rfl⟩
            rw [hf]
            go_wp2_with (fail)
            refine (refNum_any m z _ h7 z0 (by omega)).mono ?_
            rintro e w3 ⟨rfl, hb3⟩
            have HB3 := Lib.hid (HB.out.trans (hb3.mono HB.out.size))
            clear hb3
            go_wp2
            exact ⟨⟨k + 1, hlt, by go_num, by rw [Ht.out], HB3⟩, by simp [intOf]; omega⟩
          · have hkn : k = zs.length := by omega
            subst hkn
            rw [List.take_length]
            go_wp2_with (fail)
            refine (New_any _ _).mono ?_
            rintro e w3 ⟨rfl, hr3, hb3⟩
            have HB3 := Lib.hid (HB.out.trans (hb3.mono HB.out.size))
            have HR3 := Lib.hid hr3
            have hgB : w.heap.size ≤ wr.heap.size := HB.out.size
            generalize wr.heap.size = g at *
            clear hb3 hr3
            go_wp2_with (fail)
            go_loopw [69] (fun vi wr => ∃ k : Nat, k ≤ zs.length ∧ vi = .int .i64 k ∧ Hid (IsR g (flatN m (zs.drop k)) 0 wr) ∧ Hid (Below w.heap.size w wr)) (fun vi _ => zs.length - (intOf vi).toNat)
            case atStart => exact ⟨0, Nat.zero_le _, rfl, HR3, HB3⟩
            case round =>
              obtain ⟨k, hk, rfl, HR, HB⟩ := hrel
              by_cases hlt : k < zs.length
              · obtain ⟨b, o, rfl, hc⟩ := hR.out k hlt
                have hcell := below_cell HB.out hc (cell_lt hc)
                have hf := all_getD HA.out hlt
                have Hn := Lib.hid (numF_be m (zs.getD k 0) (flatN m (zs.drop (k + 1))) h1 h7 hf)
                have Hd := Lib.hid (flat_drop m zs k hlt)
                generalize zs.getD k 0 = z at *
                go_wp2_with (fail)
                refine (RNum_any g _ 0 m _ HR.out).mono ?_
                rintro e w4 ⟨rfl, hr4, ho4⟩
                rw [Hd.out, Hn.out] at hr4
                rw [Hd.out, Hn.out]
                have HR4 := Lib.hid hr4
                have HB4 := Lib.hid (below_only HB.out ho4 hgB HB.out.size)
                clear hr4 ho4
                go_wp2
                exact ⟨⟨k + 1, hlt, by go_num, HR4, HB4⟩, by simp [intOf]; omega⟩
              · have hkn : k = zs.length := by omega
                subst hkn
                have HR2 := HR.out
                rw [List.drop_length] at HR2
                have He := Lib.hid (show endF [] 0 = 0 from rfl)
                have Hn := Lib.hid (numF_nil m h1 h7)
                have HR3 := Lib.hid HR2
                clear HR2
                go_wp2_with (fail)
                refine (End_any g [] 0 _ HR3.out).mono ?_
                rintro e w4 ⟨rfl, rfl⟩
                rw [He.out]
                go_wp2_with (fail)
                refine (RNum_any g [] 0 m _ HR3.out).mono ?_
                rintro e w4 ⟨rfl, hr4, ho4⟩
                rw [Hn.out] at hr4
                rw [Hn.out]
                have HB4 := Lib.hid (below_only HB.out ho4 hgB HB.out.size)
                have HR4 := Lib.hid hr4
                clear hr4 ho4
                go_wp2_with (fail)
                refine (Err_any g [] 3 _ HR4.out).mono ?_
                rintro e w5 ⟨rfl, rfl⟩
                go_wp2
                go_ret
                exact ⟨rfl, HB4.out⟩
      · obtain ⟨j, hj, hjf⟩ := first_bad hall
        have Hg := Lib.hid (nums_bad h1 h7 hj (by rw [hjf]; simp))
        have HJ := Lib.hid hjf
        clear hall hjf
        go_enter Try.func4, Try.ntmps4
        go_wp2_with (fail)
        refine (awake1 _).mono ?_
        rintro e w1 ⟨rfl, hb1⟩
        go_wp2_with (fail)
        refine (Num_any m _ zs _ ((hR.out.ri c).below hb1) (by omega)).mono ?_
        rintro e w2 ⟨rfl, hb2⟩
        rw [Hg.out.1, Hg.out.2]
        have HB := Lib.hid (hb1.trans (hb2.mono hb1.size))
        clear hb1 hb2
        go_wp2_with (fail)
        go_loopw [7, 38] (fun vs vi wr => ∃ k : Nat, k ≤ j ∧ vi = .int .i64 k ∧ vs = .string (S (flatN m (zs.take k))) ∧ Hid (Below w.heap.size w wr)) (fun _ vi _ => zs.length - (intOf vi).toNat)
        case atStart => exact ⟨0, Nat.zero_le _, rfl, rfl, HB⟩
        case round =>
          obtain ⟨k, hk, rfl, rfl, HB⟩ := hrel
          have hlt : k < zs.length := by omega
          obtain ⟨b, o, rfl, hc⟩ := hR.out k hlt
          have hcell := below_cell HB.out hc (cell_lt hc)
          by_cases hf : fits m (zs.getD k 0) = true
          · have hkj : k ≠ j := by
              rintro rfl
              rw [HJ.out] at hf
              cases hf
            have Ht := Lib.hid (take_flat m zs k hlt)
            have hL := flat_take_len m zs k h7 (by omega)
            generalize zs.getD k 0 = z at *
            have z0 : 0 ≤ z := (fits_iff.1 hf).1
            have z1 := fits_small h7 hf
            go_wp2_with (fail)
            refine (fits_any m z _ h7).mono ?_
            rintro e w3 ⟨rfl, rfl⟩
            rw [hf]
            go_wp2_with (fail)
            refine (refNum_any m z _ h7 z0 (by omega)).mono ?_
            rintro e w3 ⟨rfl, hb3⟩
            have HB3 := Lib.hid (HB.out.trans (hb3.mono HB.out.size))
            clear hb3
            go_wp2
            exact ⟨⟨k + 1, by omega, by go_num, by rw [Ht.out], HB3⟩, by simp [intOf]; omega⟩
          · have hf' : fits m (zs.getD k 0) = false := by simpa using hf
            clear hf
            generalize zs.getD k 0 = z at *
            go_wp2_with (fail)
            refine (fits_any m z _ h7).mono ?_
            rintro e w3 ⟨rfl, rfl⟩
            rw [hf']
            go_wp2
            go_ret
            exact ⟨rfl, HB.out⟩

end Go.Proofs.Ytdiebameocbahaa
