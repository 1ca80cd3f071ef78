/- reveillelaw01.OctetTexts: the walk. -/
import Derived.Test.YtdiebameocbahaaOcQ
import Derived.Test.YtdiebameocbahaaLwOJ
import Derived.Deep.CutBlock
namespace Go.Proofs.Ytdiebameocbahaa
open Go.Shelf Go.RowKit

/-- So many noughts. -/
def noughts : List UInt8 := List.replicate 65536 0
theorem noughts_length : noughts.length = 65536 := List.length_replicate

theorem more_long (l : List (List UInt8)) : ¬ shortAll (l ++ [noughts]) = true := by
  intro h
  have := List.all_eq_true.1 h noughts (by simp)
  rw [noughts_length] at this
  simp at this

set_option maxRecDepth 100000 in
set_option maxHeartbeats 8000000 in
theorem texts_law (A : Option Addr) (c : Nat) (l : List (List UInt8)) (behind : List UInt8) (long : Bool) (w : World) (hr : RSa w A l) (hn : A = none → c = 0) :
    Calls Try.prog 8 #[.slice A l.length c, .string (S behind), .bool long] w fun e w' => e = .returned (.bool true) ∧ Below w.heap.size w w' := by
  by_cases h60 : (60 : Int) < (l.length : Int)
  · have q : decide ((60 : Int) < (l.length : Int)) = true := decide_eq_true h60
    go_enter Try.func8, Try.ntmps8
    go_wp2_with (fail)
    refine (awake1 _).mono ?_
    rintro e w1 ⟨rfl, hb1⟩
    go_wp2
    go_ret
    exact ⟨rfl, hb1⟩
  · have q60 : decide ((60 : Int) < (l.length : Int)) = false := decide_eq_false h60
    have g60 : l.length ≤ 60 := by omega
    clear h60
    by_cases h300 : (300 : Int) < (behind.length : Int)
    · have q : decide ((300 : Int) < (behind.length : Int)) = true := decide_eq_true h300
      go_enter Try.func8, Try.ntmps8
      go_wp2_with (fail)
      refine (awake1 _).mono ?_
      rintro e w1 ⟨rfl, hb1⟩
      go_wp2
      go_ret
      exact ⟨rfl, hb1⟩
    · have q300 : decide ((300 : Int) < (behind.length : Int)) = false := decide_eq_false h300
      have g300 : behind.length ≤ 300 := by omega
      clear h300
      have HR := Lib.hid hr
      have N1 := Lib.hid hn
      clear hr hn
      rcases find_long l 1000 with ha | ⟨j, hj, hlong, hshort⟩
      rotate_left
      · have HJ := Lib.hid hlong
        have HK := Lib.hid hshort
        clear hlong hshort
        go_enter Try.func8, Try.ntmps8
        go_wp2_with (fail)
        refine (awake1 _).mono ?_
        rintro e w1 ⟨rfl, hb1⟩
        have HB := Lib.hid hb1
        clear hb1
        go_wp2_with (fail)
        go_loopw [7, 37] (fun vs vi wr => ∃ k : Nat, k ≤ j ∧ vi = .int .i64 k ∧ vs = .string (S (textsB (l.take k))) ∧ (textsB (l.take k)).length ≤ 1002 * k ∧ Hid (Below w.heap.size w wr)) (fun _ vi _ => l.length - (intOf vi).toNat)
        case atStart => exact ⟨0, Nat.zero_le _, rfl, rfl, by simp [textsB], HB⟩
        case round =>
          obtain ⟨k, hk, rfl, rfl, hlen, HB⟩ := hrel
          have hlt : k < l.length := by omega
          obtain ⟨b, o, rfl, hc⟩ := HR.out k hlt
          have hcell := below_cell HB.out hc (cell_lt hc)
          clear hc
          by_cases hx : (l.getD k []).length ≤ 1000
          · have hkj : k ≠ j := by
              rintro rfl
              exact HJ.out hx
            have Ht := Lib.hid (textsB_take l k hlt)
            generalize l.getD k [] = x at *
            have hx' : ¬ (1000 : Int) < (x.length : Int) := by omega
            have htx := textB_length x
            go_wp2_with (fail)
            refine (refText_any x wr (by omega)).mono ?_
            rintro e w2 ⟨rfl, hb2⟩
            have HB2 := Lib.hid (HB.out.trans (hb2.mono HB.out.size))
            clear hb2
            go_wp2
            exact ⟨⟨k + 1, by omega, by go_num, by rw [Ht.out], by rw [Ht.out, List.length_append]; omega, HB2⟩, by simp [intOf]; omega⟩
          · generalize l.getD k [] = x at *
            have hx' : (1000 : Int) < (x.length : Int) := by omega
            go_wp2
            go_ret
            exact ⟨rfl, HB.out⟩
      · have HA := Lib.hid ha
        clear ha
        go_enter Try.func8, Try.ntmps8
        go_wp2_with (fail)
        refine (awake1 _).mono ?_
        rintro e w1 ⟨rfl, hb1⟩
        have HB := Lib.hid hb1
        clear hb1
        go_wp2_with (fail)
        go_loopw [7, 37] (fun vs vi wr => ∃ k : Nat, k ≤ l.length ∧ vi = .int .i64 k ∧ vs = .string (S (textsB (l.take k))) ∧ (textsB (l.take k)).length ≤ 1002 * k ∧ Hid (Below w.heap.size w wr)) (fun _ vi _ => l.length - (intOf vi).toNat)
        case atStart => exact ⟨0, Nat.zero_le _, rfl, rfl, by simp [textsB], HB⟩
        case round =>
          obtain ⟨k, hk, rfl, rfl, hlen, HB⟩ := hrel
          by_cases hlt : k < l.length
          · obtain ⟨b, o, rfl, hc⟩ := HR.out k hlt
            have hcell := below_cell HB.out hc (cell_lt hc)
            clear hc
            have hx := HA.out.getD hlt
            have Ht := Lib.hid (textsB_take l k hlt)
            generalize l.getD k [] = x at *
            have hx' : ¬ (1000 : Int) < (x.length : Int) := by omega
            have htx := textB_length x
            go_wp2_with (fail)
            refine (refText_any x wr (by omega)).mono ?_
            rintro e w2 ⟨rfl, hb2⟩
            have HB2 := Lib.hid (HB.out.trans (hb2.mono HB.out.size))
            clear hb2
            go_wp2
            exact ⟨⟨k + 1, hlt, by go_num, by rw [Ht.out], by rw [Ht.out, List.length_append]; omega, HB2⟩, by simp [intOf]; omega⟩
          · have hkn : k = l.length := by omega
            subst hkn
            rw [List.take_length] at hlen ⊢
            cases long with
            | true =>
              go_upto_region 14 with (fail)
              refine wp_region_any (by kernel_rfl) ?_
              refine wpAny_take (i := 1) (v := .slice A l.length c) rfl (by kernel_rfl) (by kernel_rfl) (by kernel_rfl) (fun _ _ _ h => h) (Or.inl ⟨by rfl, ?_⟩) ?_
              · intro w
                go_simp
              · have HBd := HB.out.drew
                have hsz : w.heap.size ≤ wr.drew.heap.size := HBd.size
                refine region14 (B := w.heap.size) (n := 65536) (l := l) (z := noughts) (w0 := wr.drew) (by show 56 < 177; decide) hsz rfl A c rfl (fun w' h => HR.out.below (HBd.trans h)) N1.out (by omega) (by decide) rfl
                  _ _ _ _ _ _ _ rfl rfl rfl rfl rfl rfl rfl ⟨rfl, rfl, rfl⟩ ⟨rfl, rfl, rfl⟩ ⟨rfl, rfl, rfl⟩ ⟨rfl, rfl, rfl⟩ ⟨rfl, rfl, rfl⟩ ⟨rfl, rfl, rfl⟩ ⟨rfl, rfl, rfl⟩
                  (by kernel_rfl) (by kernel_rfl) (by kernel_rfl) (by kernel_rfl) (by kernel_rfl) (by kernel_rfl) (by kernel_rfl) (by kernel_rfl) (by kernel_rfl) (by kernel_rfl) (by kernel_rfl) (by kernel_rfl) (by kernel_rfl) (by kernel_rfl) ?_
                intro v w' v50 v52 v53 v54 v55 ht hb
                obtain ⟨A3, c3, rfl, h3⟩ := ht.rs
                have HB3 := Lib.hid (HBd.trans hb)
                have HR3 := Lib.hid h3
                clear ht hb h3 HBd hsz
                unfold fr
                have hlm : (l ++ [noughts]).length = l.length + 1 := by simp
                have Hbad := Lib.hid (more_long l)
                have HT := fun w2 (h : RSa w2 A3 (l ++ [noughts])) => Text_bad A3 c3 (l ++ [noughts]) w2 h (by omega) Hbad.out
                have HLb := fun w2 (h : RSa w2 A3 (l ++ [noughts])) => List_bad A3 c3 (l ++ [noughts]) w2 h (by omega) Hbad.out
                rw [hlm] at HT HLb
                have HT' := Lib.hid HT
                have HLb' := Lib.hid HLb
                clear HT HLb hlm
                go_wp2_with (fail)
                refine (HT'.out w' HR3.out).mono ?_
                rintro e w4 ⟨rfl, hb4⟩
                have HB4 := Lib.hid (HB3.out.trans (hb4.mono HB3.out.size))
                have HR4 := Lib.hid (HR3.out.below hb4)
                clear hb4 HB3 HR3
                go_wp2_with (fail)
                refine (HLb'.out w4 HR4.out).mono ?_
                rintro e w5 ⟨rfl, hb5⟩
                have HB5 := Lib.hid (HB4.out.trans (hb5.mono HB4.out.size))
                clear hb5 HB4 HR4
                obtain ⟨i0, hi, hz0, hz1, hz2⟩ := info_parts infoStr
                go_wp2_with ((refine wpList_make_full _ rfl _ _ 48 rfl w.heap.size 9 i0 (.string ⟨#[]⟩) 1 Try.underlying48 hi hz0 hz1 .i64 .i64 256 256 256 rfl rfl rfl rfl (by rw [hz2]; omega) (by unfold maxLen; omega) HB5.out.size ?_; intro w6 hown hg))
                have HB6 := Lib.hid (HB5.out.grown hg HB5.out.size (by simp))
                clear hown hg
                refine (List_many _ 256 256 w6 (by decide)).mono ?_
                rintro e w7 ⟨rfl, rfl⟩
                go_wp2
                go_ret
                exact ⟨rfl, HB6.out⟩
            | false =>
              have hle := Lib.hid (HA.out.short (by omega))
              have k2 : (textsB l).length ≤ 60120 := by omega
              have k3 : (listB l).length ≤ 60121 := by rw [listB_length]; omega
              go_wp2_with (fail)
              refine (Text_good A c l _ (HR.out.below HB.out) (by omega) hle.out).mono ?_
              rintro e w2 ⟨rfl, hb2⟩
              have HB2 := Lib.hid (HB.out.trans (hb2.mono HB.out.size))
              clear hb2
              go_wp2_with (fail)
              refine (List_good A c l _ (HR.out.below HB2.out) (by omega) hle.out).mono ?_
              rintro e w3 ⟨rfl, hb3⟩
              have HB3 := Lib.hid (HB2.out.trans (hb3.mono HB2.out.size))
              clear hb3 HB2
              go_wp2_with (fail)
              refine (refList_any A c l _ (HR.out.below HB3.out) (by omega) HA.out).mono ?_
              rintro e w4 ⟨rfl, hb4⟩
              have HB4 := Lib.hid (HB3.out.trans (hb4.mono HB3.out.size))
              clear hb4 HB3
              go_wp2_with (fail)
              refine (New_any _ _).mono ?_
              rintro e w5 ⟨rfl, hr5, hb5⟩
              have HB5 := Lib.hid (HB4.out.trans (hb5.mono HB4.out.size))
              have HX5 : Hid (IsR w4.heap.size (textsB (l.drop 0) ++ behind) 0 w5) := by
                apply Lib.hid
                rw [List.drop_zero]
                exact hr5
              have hga : w.heap.size ≤ w4.heap.size := HB4.out.size
              have hla := hr5.lt
              generalize w4.heap.size = g1 at *
              clear hr5 hb5 HB4
              go_wp2_with (fail)
              refine (New_any _ _).mono ?_
              rintro e w6 ⟨rfl, hr6, hb6⟩
              have HB6 := Lib.hid (HB5.out.trans (hb6.mono HB5.out.size))
              have HX6 := Lib.hid (HX5.out.below hb6)
              have HY6 := Lib.hid hr6
              have hgb : w.heap.size ≤ w5.heap.size := HB5.out.size
              generalize w5.heap.size = g2 at *
              clear hr6 hb6 HB5 HX5
              go_wp2_with (fail)
              go_loopw [127] (fun vi wr => ∃ k : Nat, k ≤ l.length ∧ vi = .int .i64 k ∧ Hid (IsR g1 (textsB (l.drop k) ++ behind) 0 wr) ∧ Hid (IsR g2 (listB l ++ behind) 0 wr) ∧ Hid (Below w.heap.size w wr)) (fun vi _ => l.length - (intOf vi).toNat)
              case atStart => exact ⟨0, Nat.zero_le _, rfl, HX6, HY6, HB6⟩
              case round =>
                obtain ⟨k, hk, rfl, HX, HY, HB⟩ := hrel
                by_cases hlt : k < l.length
                · obtain ⟨b, o, rfl, hc⟩ := HR.out k hlt
                  have hcell := below_cell HB.out hc (cell_lt hc)
                  clear hc
                  have hx := HA.out.getD hlt
                  have Hn := Lib.hid (textF_B (l.getD k []) (textsB (l.drop (k + 1)) ++ behind) 1000 (by omega) (by omega))
                  have HX' : Hid (IsR g1 (textB (l.getD k []) ++ (textsB (l.drop (k + 1)) ++ behind)) 0 wr) := by
                    apply Lib.hid
                    have := HX.out
                    rwa [textsB_drop l k hlt, List.append_assoc] at this
                  clear HX
                  generalize l.getD k [] = x at *
                  go_wp2_with (fail)
                  refine (RText_any g1 _ 0 1000 _ HX'.out).mono ?_
                  rintro e w7 ⟨rfl, hr7, ho7⟩
                  rw [Hn.out] at hr7
                  rw [Hn.out]
                  have HX7 := Lib.hid hr7
                  have HY7 := Lib.hid (HY.out.grown ho7 (by simp; omega))
                  have HB7 := Lib.hid (below_only HB.out ho7 hga HB.out.size)
                  clear hr7 ho7
                  go_wp2
                  exact ⟨⟨k + 1, hlt, by go_num, HX7, HY7, HB7⟩, by simp [intOf]; omega⟩
                · have hkn : k = l.length := by omega
                  subst hkn
                  have HX2 : Hid (IsR g1 behind 0 wr) := by
                    apply Lib.hid
                    have := HX.out
                    rw [List.drop_length] at this
                    exact this
                  clear HX
                  have Hf := Lib.hid (listF_B l behind 60 1000 1000 (by omega) (by omega) (by omega) (by omega) HA.out)
                  go_wp2_with (fail)
                  refine (RList_any g2 _ 0 60 1000 _ HY.out).mono ?_
                  rintro e w7 ⟨v7, rfl, ht7, hr7, ho7⟩
                  rw [Hf.out] at ht7 hr7
                  have HB7 := Lib.hid (below_only HB.out ho7 hgb HB.out.size)
                  have HX7 := Lib.hid (HX2.out.grown ho7 (by simp; omega))
                  have HY7 := Lib.hid hr7
                  have HT7 := Lib.hid ht7
                  clear ht7 hr7 ho7 HB HX2 HY
                  go_wp2_with (fail)
                  refine (same_any v7 _ l l _ HT7.out.rs ⟨A, c, rfl, HR.out.below HB7.out⟩ (by unfold maxLen; omega)).mono ?_
                  rintro e w8 ⟨rfl, hb8⟩
                  have HB8 := Lib.hid (HB7.out.trans (hb8.mono HB7.out.size))
                  have HX8 := Lib.hid (HX7.out.below hb8)
                  have HY8 := Lib.hid (HY7.out.below hb8)
                  clear hb8 HB7 HX7 HY7 HT7
                  go_wp2_with (fail)
                  refine (Left_any g1 behind 0 _ HX8.out).mono ?_
                  rintro e w9 ⟨rfl, rfl⟩
                  go_wp2_with (fail)
                  refine (Left_any g2 behind 0 _ HY8.out).mono ?_
                  rintro e w9 ⟨rfl, rfl⟩
                  go_wp2_with (fail)
                  refine (Err_any g1 behind 0 _ HX8.out).mono ?_
                  rintro e w9 ⟨rfl, rfl⟩
                  go_wp2_with (fail)
                  refine (Err_any g2 behind 0 _ HY8.out).mono ?_
                  rintro e w9 ⟨rfl, rfl⟩
                  have Htk : Hid (takeF behind 0 behind.length = (behind, [], 0)) := by
                    apply Lib.hid
                    unfold takeF
                    rw [if_neg (by simp), if_neg (by omega), if_neg (by omega), Int.toNat_natCast, List.take_length, List.drop_length]
                  go_wp2_with (fail)
                  refine (Take_any g1 behind 0 behind.length _ HX8.out).mono ?_
                  rintro e w9 ⟨rfl, hr9, ho9⟩
                  rw [Htk.out] at hr9
                  rw [Htk.out]
                  have HX9 := Lib.hid hr9
                  have HB9 := Lib.hid (below_only HB8.out ho9 hga HB8.out.size)
                  clear hr9 ho9
                  have He := Lib.hid (show endF [] 0 = 0 from rfl)
                  go_wp2_with (fail)
                  refine (End_any g1 [] 0 _ HX9.out).mono ?_
                  rintro e w10 ⟨rfl, rfl⟩
                  rw [He.out]
                  go_wp2
                  go_ret
                  exact ⟨rfl, HB9.out⟩

end Go.Proofs.Ytdiebameocbahaa
