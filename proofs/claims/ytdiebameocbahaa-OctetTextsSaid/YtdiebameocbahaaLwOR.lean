/- reveillelaw01.OctetReads: the walk. -/
import Derived.Test.YtdiebameocbahaaOcI
import Derived.Test.YtdiebameocbahaaLwON
namespace Go.Proofs.Ytdiebameocbahaa
open Go.Shelf Go.RowKit

theorem IsTexts.len {B : Nat} {v : Value} {l : List (List UInt8)} {w : World} (h : IsTexts B v l w) : l.length ≤ maxLen := by
  unfold IsTexts at h
  rcases h.2 with ⟨_, h0⟩ | ⟨g, cap, cur, _, _, _, h1, h2, _⟩
  · omega
  · omega
theorem IsTexts.only {B g : Nat} {v : Value} {l : List (List UInt8)} {w w' : World} (h : IsTexts B v l w) (ho : Only g w w') (hB : g < B) : IsTexts B v l w' :=
  h.kept ho (own_ne h hB)

/-- Where a list isn't read, there is none, and nothing is gone over. -/
theorem listF_rest (s : List UInt8) (many most : Int) : (listF s 0 many most).2.2 ≠ 0 → (listF s 0 many most).1 = [] ∧ (listF s 0 many most).2.1 = s := by
  unfold listF
  rw [if_neg (by simp)]
  intro h
  simp only at h ⊢
  rw [if_pos h, if_pos h]
  exact ⟨rfl, rfl⟩

theorem textF_len (s : List UInt8) (most : Int) : (textF s 0 most).2.1.length ≤ s.length := by
  obtain ⟨k, _, h⟩ := textF_rest s most
  rw [h, List.length_drop]
  omega
theorem textsF_len (k : Nat) (s : List UInt8) (most : Int) : ∀ e, (textsF k s e most).2.1.length ≤ s.length := by
  intro e
  induction k with
  | zero => exact Nat.le_refl _
  | succ k ih =>
    simp only [textsF]
    by_cases h : (textsF k s e most).2.2 = 0
    · rw [h]
      exact Nat.le_trans (textF_len _ _) ih
    · rw [textF_err _ _ _ h]
      exact ih
theorem numF_len (s : List UInt8) (e n : Int) : (numF s e n).2.1.length ≤ s.length := by
  unfold numF
  split
  · exact Nat.le_refl _
  · split
    · exact Nat.le_refl _
    · split
      · exact Nat.le_refl _
      · simp
theorem listF_len (s : List UInt8) (many most : Int) : (listF s 0 many most).2.1.length ≤ s.length := by
  unfold listF
  rw [if_neg (by simp)]
  simp only
  generalize (if (numF s 0 1).2.2 = 0 ∧ many < (numF s 0 1).1 then 6 else (numF s 0 1).2.2) = E
  split
  · exact Nat.le_refl _
  · exact Nat.le_trans (textsF_len _ _ _ _) (numF_len _ _ _)

theorem num3_short {s : List UInt8} (h : s.length < 3) : numF s 0 3 = (0, s, 3) := by unfold numF; rw [if_neg (by simp), if_neg (by omega), if_pos (by omega)]
theorem num3_there {s : List UInt8} (h : ¬ s.length < 3) : numF s 0 3 = ((num (s.take 3) : Int), s.drop 3, 0) := by unfold numF; rw [if_neg (by simp), if_neg (by omega), if_neg (by omega)]; rfl

set_option maxRecDepth 100000 in
set_option maxHeartbeats 4000000 in
theorem reads_law (s : List UInt8) (many most : Int) (w : World) :
    Calls Try.prog 5 #[.string (S s), .int .i64 many, .int .i64 most] w fun e w' => e = .returned (.bool true) ∧ Below w.heap.size w w' := by
  by_cases h300 : (300 : Int) < (s.length : Int)
  · have q : decide ((300 : Int) < (s.length : Int)) = true := decide_eq_true h300
    go_enter Try.func5, Try.ntmps5
    go_wp2_with (fail)
    refine (awake1 _).mono ?_
    rintro e w1 ⟨rfl, hb1⟩
    go_wp2
    go_ret
    exact ⟨rfl, hb1⟩
  · have q300 : decide ((300 : Int) < (s.length : Int)) = false := decide_eq_false h300
    by_cases hs3 : s.length < 3
    · have Hn := Lib.hid (num3_short hs3)
      go_enter Try.func5, Try.ntmps5
      go_wp2_with (fail)
      refine (awake1 _).mono ?_
      rintro e w1 ⟨rfl, hb1⟩
      go_wp2_with (fail)
      refine (New_any s _).mono ?_
      rintro e w2 ⟨rfl, hr2, hb2⟩
      have HB2 := Lib.hid (hb1.trans (hb2.mono hb1.size))
      have HA2 := Lib.hid hr2
      have hga : w.heap.size ≤ w1.heap.size := hb1.size
      have hla := hr2.lt
      generalize w1.heap.size = g1 at *
      clear hr2 hb2 hb1
      go_wp2_with (fail)
      refine (New_any s _).mono ?_
      rintro e w3 ⟨rfl, hr3, hb3⟩
      have HA3 := Lib.hid (HA2.out.below hb3)
      have HB3 := Lib.hid (HB2.out.trans (hb3.mono HB2.out.size))
      have HC3 := Lib.hid hr3
      have hgb : w.heap.size ≤ w2.heap.size := HB2.out.size
      have hlb := hr3.lt
      generalize w2.heap.size = g2 at *
      clear hr3 hb3 HA2 HB2
      go_wp2_with (fail)
      refine (New_any s _).mono ?_
      rintro e w4 ⟨rfl, hr4, hb4⟩
      have HA4 := Lib.hid (HA3.out.below hb4)
      have HC4 := Lib.hid (HC3.out.below hb4)
      have HB4 := Lib.hid (HB3.out.trans (hb4.mono HB3.out.size))
      have HD4 := Lib.hid hr4
      have hgc : w.heap.size ≤ w3.heap.size := HB3.out.size
      generalize w3.heap.size = g3 at *
      clear hr4 hb4 HA3 HB3 HC3
      go_wp2_with (fail)
      refine (refGet_any s 3 _ (by omega)).mono ?_
      rintro e w' ⟨rfl, rfl⟩
      rw [getV_short hs3]
      go_wp2_with (fail)
      refine (RNum_any g1 s 0 3 _ HA4.out).mono ?_
      rintro e w5 ⟨rfl, hr5, ho5⟩
      rw [Hn.out] at hr5
      rw [Hn.out]
      have HA5 := Lib.hid hr5
      have HC5 := Lib.hid (HC4.out.grown ho5 (by simp; omega))
      have HD5 := Lib.hid (HD4.out.grown ho5 (by simp; omega))
      have HB5 := Lib.hid (below_only HB4.out ho5 hga HB4.out.size)
      clear hr5 ho5 HA4 HB4 HC4 HD4
      go_wp2_with (fail)
      refine (Err_any g1 s 3 _ HA5.out).mono ?_
      rintro e w' ⟨rfl, rfl⟩
      go_wp2_with (fail)
      refine (Left_any g1 s 3 _ HA5.out).mono ?_
      rintro e w' ⟨rfl, rfl⟩
      go_wp2_with (fail)
      refine (refRead_any s most _ (by omega)).mono ?_
      rintro e w' ⟨rfl, rfl⟩
      go_wp2_with (fail)
      refine (RText_any g2 s 0 most _ HC5.out).mono ?_
      rintro e w6 ⟨rfl, hr6, ho6⟩
      have HC6 := Lib.hid hr6
      have HD6 := Lib.hid (HD5.out.grown ho6 (by simp; omega))
      have HB6 := Lib.hid (below_only HB5.out ho6 hgb HB5.out.size)
      clear hr6 ho6 HA5 HB5 HC5 HD5
      have hT := textF_len s most
      generalize textF s 0 most = T at *
      obtain ⟨T1, T2, T3⟩ := T
      simp only at hT
      have qT := Int.sub_sub_self (s.length : Int) (T2.length : Int)
      go_wp2_with (fail)
      refine (Err_any g2 T2 T3 _ HC6.out).mono ?_
      rintro e w' ⟨rfl, rfl⟩
      go_wp2_with (fail)
      refine (Left_any g2 T2 T3 _ HC6.out).mono ?_
      rintro e w' ⟨rfl, rfl⟩
      go_wp2_with (fail)
      refine (refReads_any s many most _ (by omega)).mono ?_
      rintro e w7 ⟨v7, rfl, ht7, hb7⟩
      have hd6 := HD6.out.lt
      have HT7 := Lib.hid ht7
      have HD7 := Lib.hid (HD6.out.below hb7)
      have HB7 := Lib.hid (HB6.out.trans (hb7.mono HB6.out.size))
      clear ht7 hb7 HB6 HD6 HC6
      go_wp2_with (fail)
      refine (RList_any g3 s 0 many most _ HD7.out).mono ?_
      rintro e w8 ⟨v8, rfl, ht8, hr8, ho8⟩
      have HT8 := Lib.hid ht8
      have HU8 := Lib.hid (HT7.out.only ho8 hd6)
      have HD8 := Lib.hid hr8
      have HB8 := Lib.hid (below_only HB7.out ho8 hgc HB7.out.size)
      have Hl := Lib.hid (listF_rest s many most)
      have hL := listF_len s many most
      clear ht8 hr8 ho8 HT7 HB7 HD7
      generalize listF s 0 many most = L at *
      obtain ⟨L1, L2, L3⟩ := L
      simp only at Hl HT8 HU8 HD8 hL
      have qL := Int.sub_sub_self (s.length : Int) (L2.length : Int)
      go_wp2_with (fail)
      refine (same_any v8 v7 L1 L1 _ HT8.out.rs HU8.out.rs HT8.out.len).mono ?_
      rintro e w9 ⟨rfl, hb9⟩
      have HD9 := Lib.hid (HD8.out.below hb9)
      have HB9 := Lib.hid (HB8.out.trans (hb9.mono HB8.out.size))
      clear hb9 HD8 HB8 HT8 HU8
      go_wp2_with (fail)
      refine (Err_any g3 L2 L3 _ HD9.out).mono ?_
      rintro e w' ⟨rfl, rfl⟩
      go_wp2_with (fail)
      refine (Left_any g3 L2 L3 _ HD9.out).mono ?_
      rintro e w' ⟨rfl, rfl⟩
      by_cases h3 : L3 = 0
      · subst h3
        by_cases hz : L2.length = 0
        · have He := Lib.hid (show endF L2 0 = 0 by unfold endF; simp [hz])
          have q : ((s.length : Int) - (L2.length : Int) == (s.length : Int)) = true := by simp; omega
          go_wp2_with (fail)
          refine (End_any g3 L2 0 _ HD9.out).mono ?_
          rintro e w' ⟨rfl, rfl⟩
          rw [He.out]
          go_wp2
          go_ret
          exact ⟨rfl, HB9.out⟩
        · have He := Lib.hid (show endF L2 0 = 4 by unfold endF; simp [hz])
          have q : ((s.length : Int) - (L2.length : Int) == (s.length : Int)) = false := by simp; omega
          go_wp2_with (fail)
          refine (End_any g3 L2 0 _ HD9.out).mono ?_
          rintro e w' ⟨rfl, rfl⟩
          rw [He.out]
          go_wp2
          go_ret
          exact ⟨rfl, HB9.out⟩
      · obtain ⟨rfl, rfl⟩ := Hl.out h3
        have hq3 : (L3 == 0) = false := by simpa using h3
        go_wp2_with (fail)
        refine (RNum_any g3 L2 L3 1 _ HD9.out).mono ?_
        rintro e w10 ⟨rfl, hr10, ho10⟩
        have e10 : numF L2 L3 1 = (0, L2, L3) := by rw [numF, if_pos h3]
        rw [e10] at hr10
        rw [e10]
        have HD10 := Lib.hid hr10
        have HB10 := Lib.hid (below_only HB9.out ho10 hgc HB9.out.size)
        clear hr10 ho10 HB9 HD9 e10
        go_wp2_with (fail)
        refine (RText_any g3 L2 L3 9 _ HD10.out).mono ?_
        rintro e w11 ⟨rfl, hr11, ho11⟩
        rw [textF_err L2 L3 9 h3] at hr11
        rw [textF_err L2 L3 9 h3]
        have HD11 := Lib.hid hr11
        have HB11 := Lib.hid (below_only HB10.out ho11 hgc HB10.out.size)
        clear hr11 ho11 HB10 HD10
        go_wp2_with (fail)
        refine (RList_any g3 L2 L3 9 9 _ HD11.out).mono ?_
        rintro e w12 ⟨v12, rfl, ht12, hr12, ho12⟩
        have e12 : listF L2 L3 9 9 = ([], L2, L3) := by rw [listF, if_pos h3]
        rw [e12] at ht12 hr12
        obtain ⟨A12, c12, rfl, _⟩ := ht12.rs
        have HD12 := Lib.hid hr12
        have HB12 := Lib.hid (below_only HB11.out ho12 hgc HB11.out.size)
        clear ht12 hr12 ho12 HB11 HD11 e12
        go_wp2_with (fail)
        refine (Take_any g3 L2 L3 0 _ HD12.out).mono ?_
        rintro e w13 ⟨rfl, hr13, ho13⟩
        have e13 : takeF L2 L3 0 = ([], L2, L3) := by rw [takeF, if_pos h3]
        rw [e13] at hr13
        rw [e13]
        have HD13 := Lib.hid hr13
        have HB13 := Lib.hid (below_only HB12.out ho13 hgc HB12.out.size)
        clear hr13 ho13 HB12 HD12 e13
        go_wp2_with (fail)
        refine (Err_any g3 L2 L3 _ HD13.out).mono ?_
        rintro e w' ⟨rfl, rfl⟩
        have e14 := Lib.hid (show endF L2 L3 = L3 by unfold endF; rw [if_pos h3])
        go_wp2_with (fail)
        refine (End_any g3 L2 L3 _ HD13.out).mono ?_
        rintro e w' ⟨rfl, rfl⟩
        rw [e14.out]
        go_wp2_with (fail)
        refine (Left_any g3 L2 L3 _ HD13.out).mono ?_
        rintro e w' ⟨rfl, rfl⟩
        go_wp2
        go_ret
        exact ⟨rfl, HB13.out⟩
    · have Hn := Lib.hid (num3_there hs3)
      go_enter Try.func5, Try.ntmps5
      go_wp2_with (fail)
      refine (awake1 _).mono ?_
      rintro e w1 ⟨rfl, hb1⟩
      go_wp2_with (fail)
      refine (New_any s _).mono ?_
      rintro e w2 ⟨rfl, hr2, hb2⟩
      have HB2 := Lib.hid (hb1.trans (hb2.mono hb1.size))
      have HA2 := Lib.hid hr2
      have hga : w.heap.size ≤ w1.heap.size := hb1.size
      have hla := hr2.lt
      generalize w1.heap.size = g1 at *
      clear hr2 hb2 hb1
      go_wp2_with (fail)
      refine (New_any s _).mono ?_
      rintro e w3 ⟨rfl, hr3, hb3⟩
      have HA3 := Lib.hid (HA2.out.below hb3)
      have HB3 := Lib.hid (HB2.out.trans (hb3.mono HB2.out.size))
      have HC3 := Lib.hid hr3
      have hgb : w.heap.size ≤ w2.heap.size := HB2.out.size
      have hlb := hr3.lt
      generalize w2.heap.size = g2 at *
      clear hr3 hb3 HA2 HB2
      go_wp2_with (fail)
      refine (New_any s _).mono ?_
      rintro e w4 ⟨rfl, hr4, hb4⟩
      have HA4 := Lib.hid (HA3.out.below hb4)
      have HC4 := Lib.hid (HC3.out.below hb4)
      have HB4 := Lib.hid (HB3.out.trans (hb4.mono HB3.out.size))
      have HD4 := Lib.hid hr4
      have hgc : w.heap.size ≤ w3.heap.size := HB3.out.size
      generalize w3.heap.size = g3 at *
      clear hr4 hb4 HA3 HB3 HC3
      go_wp2_with (fail)
      refine (refGet_any s 3 _ (by omega)).mono ?_
      rintro e w' ⟨rfl, rfl⟩
      rw [getV_there hs3]
      go_wp2_with (fail)
      refine (RNum_any g1 s 0 3 _ HA4.out).mono ?_
      rintro e w5 ⟨rfl, hr5, ho5⟩
      rw [Hn.out] at hr5
      rw [Hn.out]
      have HA5 := Lib.hid hr5
      have HC5 := Lib.hid (HC4.out.grown ho5 (by simp; omega))
      have HD5 := Lib.hid (HD4.out.grown ho5 (by simp; omega))
      have HB5 := Lib.hid (below_only HB4.out ho5 hga HB4.out.size)
      clear hr5 ho5 HA4 HB4 HC4 HD4
      go_wp2_with (fail)
      refine (Left_any g1 (s.drop 3) 0 _ HA5.out).mono ?_
      rintro e w' ⟨rfl, rfl⟩
      go_wp2_with (fail)
      refine (refRead_any s most _ (by omega)).mono ?_
      rintro e w' ⟨rfl, rfl⟩
      go_wp2_with (fail)
      refine (RText_any g2 s 0 most _ HC5.out).mono ?_
      rintro e w6 ⟨rfl, hr6, ho6⟩
      have HC6 := Lib.hid hr6
      have HD6 := Lib.hid (HD5.out.grown ho6 (by simp; omega))
      have HB6 := Lib.hid (below_only HB5.out ho6 hgb HB5.out.size)
      clear hr6 ho6 HA5 HB5 HC5 HD5
      have hT := textF_len s most
      generalize textF s 0 most = T at *
      obtain ⟨T1, T2, T3⟩ := T
      simp only at hT
      have qT := Int.sub_sub_self (s.length : Int) (T2.length : Int)
      go_wp2_with (fail)
      refine (Err_any g2 T2 T3 _ HC6.out).mono ?_
      rintro e w' ⟨rfl, rfl⟩
      go_wp2_with (fail)
      refine (Left_any g2 T2 T3 _ HC6.out).mono ?_
      rintro e w' ⟨rfl, rfl⟩
      go_wp2_with (fail)
      refine (refReads_any s many most _ (by omega)).mono ?_
      rintro e w7 ⟨v7, rfl, ht7, hb7⟩
      have hd6 := HD6.out.lt
      have HT7 := Lib.hid ht7
      have HD7 := Lib.hid (HD6.out.below hb7)
      have HB7 := Lib.hid (HB6.out.trans (hb7.mono HB6.out.size))
      clear ht7 hb7 HB6 HD6 HC6
      go_wp2_with (fail)
      refine (RList_any g3 s 0 many most _ HD7.out).mono ?_
      rintro e w8 ⟨v8, rfl, ht8, hr8, ho8⟩
      have HT8 := Lib.hid ht8
      have HU8 := Lib.hid (HT7.out.only ho8 hd6)
      have HD8 := Lib.hid hr8
      have HB8 := Lib.hid (below_only HB7.out ho8 hgc HB7.out.size)
      have Hl := Lib.hid (listF_rest s many most)
      have hL := listF_len s many most
      clear ht8 hr8 ho8 HT7 HB7 HD7
      generalize listF s 0 many most = L at *
      obtain ⟨L1, L2, L3⟩ := L
      simp only at Hl HT8 HU8 HD8 hL
      have qL := Int.sub_sub_self (s.length : Int) (L2.length : Int)
      go_wp2_with (fail)
      refine (same_any v8 v7 L1 L1 _ HT8.out.rs HU8.out.rs HT8.out.len).mono ?_
      rintro e w9 ⟨rfl, hb9⟩
      have HD9 := Lib.hid (HD8.out.below hb9)
      have HB9 := Lib.hid (HB8.out.trans (hb9.mono HB8.out.size))
      clear hb9 HD8 HB8 HT8 HU8
      go_wp2_with (fail)
      refine (Err_any g3 L2 L3 _ HD9.out).mono ?_
      rintro e w' ⟨rfl, rfl⟩
      go_wp2_with (fail)
      refine (Left_any g3 L2 L3 _ HD9.out).mono ?_
      rintro e w' ⟨rfl, rfl⟩
      by_cases h3 : L3 = 0
      · subst h3
        by_cases hz : L2.length = 0
        · have He := Lib.hid (show endF L2 0 = 0 by unfold endF; simp [hz])
          have q : ((s.length : Int) - (L2.length : Int) == (s.length : Int)) = true := by simp; omega
          go_wp2_with (fail)
          refine (End_any g3 L2 0 _ HD9.out).mono ?_
          rintro e w' ⟨rfl, rfl⟩
          rw [He.out]
          go_wp2
          go_ret
          exact ⟨rfl, HB9.out⟩
        · have He := Lib.hid (show endF L2 0 = 4 by unfold endF; simp [hz])
          have q : ((s.length : Int) - (L2.length : Int) == (s.length : Int)) = false := by simp; omega
          go_wp2_with (fail)
          refine (End_any g3 L2 0 _ HD9.out).mono ?_
          rintro e w' ⟨rfl, rfl⟩
          rw [He.out]
          go_wp2
          go_ret
          exact ⟨rfl, HB9.out⟩
      · obtain ⟨rfl, rfl⟩ := Hl.out h3
        have hq3 : (L3 == 0) = false := by simpa using h3
        go_wp2_with (fail)
        refine (RNum_any g3 L2 L3 1 _ HD9.out).mono ?_
        rintro e w10 ⟨rfl, hr10, ho10⟩
        have e10 : numF L2 L3 1 = (0, L2, L3) := by rw [numF, if_pos h3]
        rw [e10] at hr10
        rw [e10]
        have HD10 := Lib.hid hr10
        have HB10 := Lib.hid (below_only HB9.out ho10 hgc HB9.out.size)
        clear hr10 ho10 HB9 HD9 e10
        go_wp2_with (fail)
        refine (RText_any g3 L2 L3 9 _ HD10.out).mono ?_
        rintro e w11 ⟨rfl, hr11, ho11⟩
        rw [textF_err L2 L3 9 h3] at hr11
        rw [textF_err L2 L3 9 h3]
        have HD11 := Lib.hid hr11
        have HB11 := Lib.hid (below_only HB10.out ho11 hgc HB10.out.size)
        clear hr11 ho11 HB10 HD10
        go_wp2_with (fail)
        refine (RList_any g3 L2 L3 9 9 _ HD11.out).mono ?_
        rintro e w12 ⟨v12, rfl, ht12, hr12, ho12⟩
        have e12 : listF L2 L3 9 9 = ([], L2, L3) := by rw [listF, if_pos h3]
        rw [e12] at ht12 hr12
        obtain ⟨A12, c12, rfl, _⟩ := ht12.rs
        have HD12 := Lib.hid hr12
        have HB12 := Lib.hid (below_only HB11.out ho12 hgc HB11.out.size)
        clear ht12 hr12 ho12 HB11 HD11 e12
        go_wp2_with (fail)
        refine (Take_any g3 L2 L3 0 _ HD12.out).mono ?_
        rintro e w13 ⟨rfl, hr13, ho13⟩
        have e13 : takeF L2 L3 0 = ([], L2, L3) := by rw [takeF, if_pos h3]
        rw [e13] at hr13
        rw [e13]
        have HD13 := Lib.hid hr13
        have HB13 := Lib.hid (below_only HB12.out ho13 hgc HB12.out.size)
        clear hr13 ho13 HB12 HD12 e13
        go_wp2_with (fail)
        refine (Err_any g3 L2 L3 _ HD13.out).mono ?_
        rintro e w' ⟨rfl, rfl⟩
        have e14 := Lib.hid (show endF L2 L3 = L3 by unfold endF; rw [if_pos h3])
        go_wp2_with (fail)
        refine (End_any g3 L2 L3 _ HD13.out).mono ?_
        rintro e w' ⟨rfl, rfl⟩
        rw [e14.out]
        go_wp2_with (fail)
        refine (Left_any g3 L2 L3 _ HD13.out).mono ?_
        rintro e w' ⟨rfl, rfl⟩
        go_wp2
        go_ret
        exact ⟨rfl, HB13.out⟩

end Go.Proofs.Ytdiebameocbahaa

