/- reveillelaw01.OctetJoins: the walk. -/
import Derived.Test.YtdiebameocbahaaOcN
import Derived.Test.YtdiebameocbahaaOcD
import Derived.Test.YtdiebameocbahaaLwOC
namespace Go.Proofs.Ytdiebameocbahaa
open Go.Shelf Go.RowKit

theorem fits2 {z : Int} (h0 : 0 ≤ z) (h : z ≤ 65535) : fits 2 z = true := fits_iff.2 ⟨h0, by omega⟩

/-- Numbers of 16 bits. -/
def All16 (zs : List Int) : Prop := ∀ z, z ∈ zs → 0 ≤ z ∧ z ≤ 65535
theorem All16.getD {zs : List Int} (h : All16 zs) {k : Nat} (hk : k < zs.length) : 0 ≤ zs.getD k 0 ∧ zs.getD k 0 ≤ 65535 := by
  rw [List.getD_eq_getElem?_getD, List.getElem?_eq_getElem hk]
  exact h _ (List.getElem_mem hk)

theorem textsB_drop (l : List (List UInt8)) (k : Nat) (h : k < l.length) : textsB (l.drop k) = textB (l.getD k []) ++ textsB (l.drop (k + 1)) := by
  unfold textsB
  rw [List.drop_eq_getElem_cons h, List.flatMap_cons, List.getD_eq_getElem?_getD, List.getElem?_eq_getElem h]
  rfl

theorem AllLe.append {a b : List (List UInt8)} {m : Nat} (h : AllLe (a ++ b) m) : AllLe a m ∧ AllLe b m :=
  ⟨fun s hs => h s (by simp [hs]), fun s hs => h s (by simp [hs])⟩

set_option maxRecDepth 100000 in
set_option maxHeartbeats 4000000 in
theorem joins_law (A0 : Option Addr) (c0 : Nat) (zs : List Int) (A1 : Option Addr) (c1 : Nat) (ts : List (List UInt8)) (A2 : Option Addr) (c2 : Nat) (ls : List (List UInt8)) (w : World)
    (hz : RUa w A0 zs) (hz16 : All16 zs) (ht : RSa w A1 ts) (hn1 : A1 = none → c1 = 0) (hl : RSa w A2 ls) (hn2 : A2 = none → c2 = 0) :
    Calls Try.prog 9 #[.slice A0 zs.length c0, .slice A1 ts.length c1, .slice A2 ls.length c2] w fun e w' => e = .returned (.bool true) ∧ Below w.heap.size w w' := by
  by_cases hg : (20 : Int) < (zs.length : Int) ∨ (20 : Int) < (ts.length : Int) ∨ (20 : Int) < (ls.length : Int)
  · by_cases h1 : (20 : Int) < (zs.length : Int)
    · have q1 : decide ((20 : Int) < (zs.length : Int)) = true := decide_eq_true h1
      go_enter Try.func9, Try.ntmps9
      go_wp2_with (fail)
      refine (awake1 _).mono ?_
      rintro e w1 ⟨rfl, hb1⟩
      go_wp2
      go_ret
      exact ⟨rfl, hb1⟩
    · have q1 : decide ((20 : Int) < (zs.length : Int)) = false := decide_eq_false h1
      by_cases h2 : (20 : Int) < (ts.length : Int)
      · have q2 : decide ((20 : Int) < (ts.length : Int)) = true := decide_eq_true h2
        go_enter Try.func9, Try.ntmps9
        go_wp2_with (fail)
        refine (awake1 _).mono ?_
        rintro e w1 ⟨rfl, hb1⟩
        go_wp2
        go_ret
        exact ⟨rfl, hb1⟩
      · have q2 : decide ((20 : Int) < (ts.length : Int)) = false := decide_eq_false h2
        have q3 : decide ((20 : Int) < (ls.length : Int)) = true := decide_eq_true (by omega)
        go_enter Try.func9, Try.ntmps9
        go_wp2_with (fail)
        refine (awake1 _).mono ?_
        rintro e w1 ⟨rfl, hb1⟩
        go_wp2
        go_ret
        exact ⟨rfl, hb1⟩
  · have q1 : decide ((20 : Int) < (zs.length : Int)) = false := decide_eq_false (by omega)
    have q2 : decide ((20 : Int) < (ts.length : Int)) = false := decide_eq_false (by omega)
    have q3 : decide ((20 : Int) < (ls.length : Int)) = false := decide_eq_false (by omega)
    have g1 : zs.length ≤ 20 := by omega
    have g2 : ts.length ≤ 20 := by omega
    have g3 : ls.length ≤ 20 := by omega
    clear hg
    have HZ := Lib.hid hz
    have HT := Lib.hid ht
    have HL := Lib.hid hl
    have H16 := Lib.hid hz16
    have N1 := Lib.hid hn1
    have N2 := Lib.hid hn2
    clear hz ht hl hz16 hn1 hn2
    go_enter Try.func9, Try.ntmps9
    go_wp2_with (fail)
    refine (awake1 _).mono ?_
    rintro e w1 ⟨rfl, hb1⟩
    have HB := Lib.hid hb1
    clear hb1
    go_wp2_with (fail)
    go_loopw [7, 40] (fun vs vi wr => ∃ k : Nat, k ≤ zs.length ∧ vi = .int .i64 k ∧ vs = .string (S (flatN 2 (zs.take k))) ∧ Hid (Below w.heap.size w wr)) (fun _ vi _ => zs.length - (intOf vi).toNat)
    case atStart => exact ⟨0, Nat.zero_le _, rfl, rfl, HB⟩
    case round =>
      obtain ⟨k, hk, rfl, rfl, HB⟩ := hrel
      by_cases hlt : k < zs.length
      · obtain ⟨b, o, rfl, hc⟩ := HZ.out k hlt
        have hcell := below_cell HB.out hc (cell_lt hc)
        clear hc
        obtain ⟨z0, z1⟩ := H16.out.getD hlt
        have Hg := Lib.hid (num1_good (n := 2) (by omega) (by omega) (fits2 z0 z1))
        have Ht := Lib.hid (take_flat 2 zs k hlt)
        have hL : (flatN 2 (zs.take k)).length ≤ 40 := by rw [flat_len, List.length_take]; omega
        generalize zs.getD k 0 = z at *
        go_wp2_with (fail)
        refine (Num_any 2 _ [z] _ (ri_one wr z) (by simp)).mono ?_
        rintro e w2 ⟨rfl, hb2⟩
        rw [show numsE 2 [z] = 0 from Hg.out.1, show numsB 2 [z] = be 2 z.toNat from Hg.out.2]
        have HB2 := Lib.hid ((HB.out.alloc HB.out.size _).trans (hb2.mono (by have := HB.out.size; simp; omega)))
        clear hb2
        go_wp2
        exact ⟨⟨k + 1, hlt, by go_num, by rw [Ht.out], HB2⟩, by simp [intOf]; omega⟩
      · have hkn : k = zs.length := by omega
        subst hkn
        rw [List.take_length]
        have hI0 : IsTexts w.heap.size (.slice (some ⟨wr.heap.size, 0, none⟩) 0 0) [] (wr.alloc (.cells #[] 9)) := World.ownsRow_lit (base := w.heap.size) (e := 9) (size := 1) wr #[] 0 HB.out.size (by decide) rfl
        have HBa := HB.out.alloc HB.out.size (.cells #[] 9)
        go_wp2_with (at_builtin; refine append_texts rfl _ _ rfl w.heap.size _ [] rfl hI0 A1 c1 ts rfl (HT.out.below HBa) N1.out (by simp; omega) HBa.size ?_; intro v1 w1 h1 g1; have HBb := HBa.grown g1 HBa.size (fun k hk => (hI0.lt k hk).1); clear g1; go_wp2_with (at_builtin; refine append_texts rfl _ _ rfl w.heap.size _ ([] ++ ts) rfl h1 A2 c2 ls rfl (HL.out.below HBb) N2.out (by simp; omega) HBb.size ?_; intro v2 w2 h2 g2; have HBc := HBb.grown g2 HBb.size (fun k hk => (h1.lt k hk).1); clear g2; obtain ⟨A3, c3, rfl, h3⟩ := h2.rs; clear h2))
        have HB := Lib.hid HBc
        have HR3 := Lib.hid h3
        clear hI0 HBa HBb h1 HBc h3
        rw [List.nil_append] at HR3
        rcases find_long (ts ++ ls) 1000 with ha | ⟨j, hj, hlong, hshort⟩
        rotate_left
        · have HJ := Lib.hid hlong
          have HK := Lib.hid hshort
          clear hlong hshort
          rw [List.length_append] at hj
          go_loop [63] (fun vi => ∃ k : Nat, k ≤ j ∧ vi = .int .i64 k) (fun vi => ts.length + ls.length - (intOf vi).toNat)
          case atStart => exact ⟨0, Nat.zero_le _, rfl⟩
          case round =>
            obtain ⟨k, hk, rfl⟩ := hrel
            have hlt : k < (ts ++ ls).length := by rw [List.length_append]; omega
            have hlt' : k < ts.length + ls.length := by omega
            have hlt2 : (k : Int) < (ts.length : Int) + (ls.length : Int) := by omega
            obtain ⟨b, o, rfl, hc⟩ := HR3.out k hlt
            by_cases hx : ((ts ++ ls).getD k []).length ≤ 1000
            · have hkj : k ≠ j := by
                rintro rfl
                exact HJ.out hx
              generalize (ts ++ ls).getD k [] = x at *
              have hx' : ¬ (1000 : Int) < (x.length : Int) := by omega
              clear hlt
              go_wp2
              exact ⟨⟨k + 1, by omega, by go_num⟩, by simp [intOf]; omega⟩
            · generalize (ts ++ ls).getD k [] = x at *
              have hx' : (1000 : Int) < (x.length : Int) := by omega
              clear hlt
              go_wp2
              go_ret
              exact ⟨rfl, HB.out⟩
        · have HA := Lib.hid ha
          clear ha
          go_loop [63] (fun vi => ∃ k : Nat, k ≤ ts.length + ls.length ∧ vi = .int .i64 k) (fun vi => ts.length + ls.length - (intOf vi).toNat)
          case atStart => exact ⟨0, Nat.zero_le _, rfl⟩
          case round =>
            obtain ⟨k, hk, rfl⟩ := hrel
            by_cases hlt' : k < ts.length + ls.length
            · have hlt : k < (ts ++ ls).length := by rw [List.length_append]; omega
              have hlt2 : (k : Int) < (ts.length : Int) + (ls.length : Int) := by omega
              obtain ⟨b, o, rfl, hc⟩ := HR3.out k hlt
              have hx := HA.out.getD hlt
              generalize (ts ++ ls).getD k [] = x at *
              have hx' : ¬ (1000 : Int) < (x.length : Int) := by omega
              clear hlt
              go_wp2
              exact ⟨⟨k + 1, by omega, by go_num⟩, by simp [intOf]; omega⟩
            · have hkn : k = ts.length + ls.length := by omega
              subst hkn
              obtain ⟨ha1, ha2⟩ := HA.out.append
              have HA1 := Lib.hid ha1
              have HA2 := Lib.hid ha2
              clear ha1 ha2 HR3
              go_wp2_with (fail)
              refine (Text_good A1 c1 ts _ (HT.out.below HB.out) (by omega) (HA1.out.short (by omega))).mono ?_
              rintro e w4 ⟨rfl, hb4⟩
              have HB4 := Lib.hid (HB.out.trans (hb4.mono HB.out.size))
              clear hb4
              go_wp2_with (fail)
              refine (List_good A2 c2 ls _ (HL.out.below HB4.out) (by omega) (HA2.out.short (by omega))).mono ?_
              rintro e w5 ⟨rfl, hb5⟩
              have HB5 := Lib.hid (HB4.out.trans (hb5.mono HB4.out.size))
              clear hb5
              have k1 : (flatN 2 zs).length ≤ 40 := by rw [flat_len]; omega
              have k2 : (textsB ts).length ≤ 20040 := by have := textsB_len ts 1000 HA1.out; omega
              have k3 : (listB ls).length ≤ 20041 := by have := textsB_len ls 1000 HA2.out; rw [listB_length]; omega
              go_wp2_with (fail)
              refine (New_any _ _).mono ?_
              rintro e w6 ⟨rfl, hr6, hb6⟩
              have HB6 := Lib.hid (HB5.out.trans (hb6.mono HB5.out.size))
              have HR6 : Hid (IsR w5.heap.size (flatN 2 (zs.drop 0) ++ (textsB ts ++ listB ls)) 0 w6) := by
                apply Lib.hid
                rw [List.drop_zero]
                first | exact hr6 | (rw [← List.append_assoc]; exact hr6)
              have hgB : w.heap.size ≤ w5.heap.size := HB5.out.size
              generalize w5.heap.size = g at *
              clear hr6 hb6 HB5 HB4 HB k1 k2 k3
              go_wp2_with (fail)
              go_loopw [89] (fun vi wr => ∃ k : Nat, k ≤ zs.length ∧ vi = .int .i64 k ∧ Hid (IsR g (flatN 2 (zs.drop k) ++ (textsB ts ++ listB ls)) 0 wr) ∧ Hid (Below w.heap.size w wr)) (fun vi _ => zs.length - (intOf vi).toNat)
              case atStart => exact ⟨0, Nat.zero_le _, rfl, HR6, HB6⟩
              case round =>
                obtain ⟨k, hk, rfl, HR, HB⟩ := hrel
                by_cases hlt : k < zs.length
                · obtain ⟨b, o, rfl, hc⟩ := HZ.out k hlt
                  have hcell := below_cell HB.out hc (cell_lt hc)
                  clear hc
                  obtain ⟨z0, z1⟩ := H16.out.getD hlt
                  have Hn := Lib.hid (numF_be 2 (zs.getD k 0) (flatN 2 (zs.drop (k + 1)) ++ (textsB ts ++ listB ls)) (by omega) (by omega) (fits2 z0 z1))
                  have HR' : Hid (IsR g (be 2 (zs.getD k 0).toNat ++ (flatN 2 (zs.drop (k + 1)) ++ (textsB ts ++ listB ls))) 0 wr) := by
                    apply Lib.hid
                    have := HR.out
                    rwa [flat_drop 2 zs k hlt, List.append_assoc] at this
                  clear HR
                  generalize zs.getD k 0 = z at *
                  go_wp2_with (fail)
                  refine (RNum_any g _ 0 2 _ HR'.out).mono ?_
                  rintro e w7 ⟨rfl, hr7, ho7⟩
                  rw [show ((2 : Nat) : Int) = 2 from rfl] at Hn
                  rw [Hn.out] at hr7
                  rw [Hn.out]
                  have HR7 := Lib.hid hr7
                  have HB7 := Lib.hid (below_only HB.out ho7 hgB HB.out.size)
                  clear hr7 ho7
                  go_wp2
                  exact ⟨⟨k + 1, hlt, by go_num, HR7, HB7⟩, by simp [intOf]; omega⟩
                · have hkn : k = zs.length := by omega
                  subst hkn
                  have HR2 : Hid (IsR g (textsB (ts.drop 0) ++ listB ls) 0 wr) := by
                    apply Lib.hid
                    have := HR.out
                    rw [List.drop_length] at this
                    exact this
                  clear HR
                  go_wp2_with (fail)
                  go_loopw [101] (fun vi wr => ∃ k : Nat, k ≤ ts.length ∧ vi = .int .i64 k ∧ Hid (IsR g (textsB (ts.drop k) ++ listB ls) 0 wr) ∧ Hid (Below w.heap.size w wr)) (fun vi _ => ts.length - (intOf vi).toNat)
                  case atStart => exact ⟨0, Nat.zero_le _, rfl, HR2, HB⟩
                  case round =>
                    obtain ⟨k, hk, rfl, HR, HB⟩ := hrel
                    by_cases hlt : k < ts.length
                    · obtain ⟨b, o, rfl, hc⟩ := HT.out k hlt
                      have hcell := below_cell HB.out hc (cell_lt hc)
                      clear hc
                      have hx := HA1.out.getD hlt
                      have Hn := Lib.hid (textF_B (ts.getD k []) (textsB (ts.drop (k + 1)) ++ listB ls) 1000 (by omega) (by omega))
                      have HR' : Hid (IsR g (textB (ts.getD k []) ++ (textsB (ts.drop (k + 1)) ++ listB ls)) 0 wr) := by
                        apply Lib.hid
                        have := HR.out
                        rwa [textsB_drop ts k hlt, List.append_assoc] at this
                      clear HR
                      generalize ts.getD k [] = x at *
                      go_wp2_with (fail)
                      refine (RText_any g _ 0 1000 _ HR'.out).mono ?_
                      rintro e w7 ⟨rfl, hr7, ho7⟩
                      rw [Hn.out] at hr7
                      rw [Hn.out]
                      have HR7 := Lib.hid hr7
                      have HB7 := Lib.hid (below_only HB.out ho7 hgB HB.out.size)
                      clear hr7 ho7
                      go_wp2
                      exact ⟨⟨k + 1, hlt, by go_num, HR7, HB7⟩, by simp [intOf]; omega⟩
                    · have hkn : k = ts.length := by omega
                      subst hkn
                      have HR2 : Hid (IsR g (listB ls ++ []) 0 wr) := by
                        apply Lib.hid
                        have := HR.out
                        rw [List.drop_length] at this
                        rw [List.append_nil]
                        exact this
                      clear HR
                      have Hf := Lib.hid (listF_B ls [] 20 1000 1000 (by omega) (by omega) (by omega) (by omega) HA2.out)
                      go_wp2_with (fail)
                      refine (RList_any g _ 0 20 1000 _ HR2.out).mono ?_
                      rintro e w7 ⟨v7, rfl, ht7, hr7, ho7⟩
                      rw [Hf.out] at ht7 hr7
                      have HB7 := Lib.hid (below_only HB.out ho7 hgB HB.out.size)
                      have HR7 := Lib.hid hr7
                      have HT7 := Lib.hid ht7
                      clear ht7 hr7 ho7
                      go_wp2_with (fail)
                      refine (same_any v7 _ ls ls _ HT7.out.rs ⟨A2, c2, rfl, HL.out.below HB7.out⟩ (by unfold maxLen; omega)).mono ?_
                      rintro e w8 ⟨rfl, hb8⟩
                      have HB8 := Lib.hid (HB7.out.trans (hb8.mono HB7.out.size))
                      have HR8 := Lib.hid (HR7.out.below hb8)
                      clear hb8
                      have He := Lib.hid (show endF [] 0 = 0 from rfl)
                      go_wp2_with (fail)
                      refine (End_any g [] 0 _ HR8.out).mono ?_
                      rintro e w9 ⟨rfl, rfl⟩
                      rw [He.out]
                      go_wp2
                      go_ret
                      exact ⟨rfl, HB8.out⟩

end Go.Proofs.Ytdiebameocbahaa
