/- reveillelaw07.EntryGets: the walk. -/
import Derived.Test.YtdiebameocbahaaLwEP
import Derived.Test.YtdiebameocbahaaOcI
namespace Go.Proofs.Ytdiebameocbahaa
open Go.Shelf Go.RowKit

theorem pieces_getD (n : Nat) (s : List UInt8) {k : Nat} (h : k < n) : (pieces n s).getD k [] = (s.drop (20 * k)).take 20 := by
  induction n with
  | zero => omega
  | succ n ih =>
    rw [pieces, List.getD_eq_getElem?_getD]
    rcases Nat.lt_or_ge k n with h' | h'
    · rw [List.getElem?_append_left (by rw [pieces_length]; exact h'), ← List.getD_eq_getElem?_getD]
      exact ih h'
    · obtain rfl : k = n := by omega
      rw [List.getElem?_append_right (by rw [pieces_length]; exact Nat.le_refl _), pieces_length]
      simp

theorem take_piece (s : List UInt8) (k : Nat) : s.take (20 * (k + 1)) = s.take (20 * k) ++ (s.drop (20 * k)).take 20 := by
  rw [Nat.mul_succ, List.take_add]

/-- Twenty bytes are the bytes of their parts. -/
theorem parts_back {a b c d : Nat} (s : List UInt8) (hl : s.length = 20) (hs : a + b + c + d = 20) (h7 : a ≤ 7 ∧ b ≤ 7 ∧ c ≤ 7 ∧ d ≤ 7) :
    wBytes [(a, partF s 0 a), (b, partF s a b), (c, partF s (a + b) c), (d, partF s (a + b + c) d)] = s ∧ wFit [(a, partF s 0 a), (b, partF s a b), (c, partF s (a + b) c), (d, partF s (a + b + c) d)] = true := by
  have key : ∀ i n : Nat, i + n ≤ 20 → fits n (partF s i n) = true ∧ be n (partF s i n).toNat = (s.drop i).take n := by
    intro i n hin
    have hln : ((s.drop i).take n).length = n := by rw [List.length_take, List.length_drop]; omega
    have h1 := num_lt ((s.drop i).take n)
    rw [hln] at h1
    have h3 : (((256 : Nat) ^ n : Nat) : Int) = (256 : Int) ^ n := by simp
    have hp : partF s i n = (num ((s.drop i).take n) : Int) := by unfold partF; rw [if_pos hl]
    rw [hp]
    refine ⟨fits_iff.2 ⟨by omega, by omega⟩, ?_⟩
    rw [Int.toNat_natCast]
    have := be_num ((s.drop i).take n)
    rwa [hln] at this
  have k0 := key 0 a (by omega)
  have k1 := key a b (by omega)
  have k2 := key (a + b) c (by omega)
  have k3 := key (a + b + c) d (by omega)
  have hf : wFit [(a, partF s 0 a), (b, partF s a b), (c, partF s (a + b) c), (d, partF s (a + b + c) d)] = true := by
    simp only [wFit, List.all_cons, List.all_nil, Bool.and_true, Bool.and_eq_true]
    exact ⟨k0.1, k1.1, k2.1, k3.1⟩
  refine ⟨?_, hf⟩
  unfold wBytes
  rw [if_pos hf]
  simp only [wFlat, List.flatMap_cons, List.flatMap_nil, List.append_nil]
  rw [k0.2, k1.2, k2.2, k3.2, List.drop_zero]
  have e3 : (s.drop (a + b + c)).take d = s.drop (a + b + c) := List.take_of_length_le (by rw [List.length_drop]; omega)
  have e2 : (s.drop (a + b)).take c ++ s.drop (a + b + c) = s.drop (a + b) := by have := List.take_append_drop c (s.drop (a + b)); rwa [List.drop_drop] at this
  have e1 : (s.drop a).take b ++ s.drop (a + b) = s.drop a := by have := List.take_append_drop b (s.drop a); rwa [List.drop_drop] at this
  rw [e3, e2, e1, List.take_append_drop]

set_option maxRecDepth 100000 in
set_option maxHeartbeats 8000000 in
theorem gets_law (s : List UInt8) (w : World) :
    Calls Try.prog 11 #[.string (S s)] w fun e w' => e = .returned (.bool true) ∧ Below w.heap.size w w' := by
  by_cases h2000 : (2000 : Int) < (s.length : Int)
  · have q : decide ((2000 : Int) < (s.length : Int)) = true := decide_eq_true h2000
    go_enter Try.func11, Try.ntmps11
    go_wp2_with (fail)
    refine (awake7 _).mono ?_
    rintro e w1 ⟨rfl, hb1⟩
    go_wp2
    go_ret
    exact ⟨rfl, hb1⟩
  · have q2000 : decide ((2000 : Int) < (s.length : Int)) = false := decide_eq_false h2000
    have hle : s.length ≤ 2000 := by omega
    clear h2000
    by_cases hl : s.length = 20
    · have hq := Lib.hid (decide_eq_true hl)
      have q20 : ((s.length : Int) == 20) = true := by rw [hl]; rfl
      have qm : ((s.length : Int) % 20 == 0) = true := by rw [hl]; rfl
      have HM : Hid (s.length % 20 = 0) := by apply Lib.hid; rw [hl]
      have hmm : Hid (decide (s.length % 20 = 0) = true) := decide_eq_true HM.out
      have HBK : Hid ((wBytes (placeW (partF s 0 6) (partF s 6 2) (partF s 8 5) (partF s 13 7)) = s ∧ wFit (placeW (partF s 0 6) (partF s 6 2) (partF s 8 5) (partF s 13 7)) = true) ∧
          (wBytes (linkW (partF s 0 5) (partF s 5 6) (partF s 11 6) (partF s 17 3)) = s ∧ wFit (linkW (partF s 0 5) (partF s 5 6) (partF s 11 6) (partF s 17 3)) = true) ∧
          (wBytes (markW (partF s 0 6) (partF s 6 6) (partF s 12 6) (partF s 18 2)) = s ∧ wFit (markW (partF s 0 6) (partF s 6 6) (partF s 12 6) (partF s 18 2)) = true)) :=
        ⟨parts_back (a := 6) (b := 2) (c := 5) (d := 7) s hl rfl (by decide), parts_back (a := 5) (b := 6) (c := 6) (d := 3) s hl rfl (by decide), parts_back (a := 6) (b := 6) (c := 6) (d := 2) s hl rfl (by decide)⟩
      clear hl
      go_enter Try.func11, Try.ntmps11
      go_wp2_with (fail)
      refine (awake7 _).mono ?_
      rintro e w1 ⟨rfl, hb1⟩
      have HB1 := Lib.hid hb1
      clear hb1
      go_wp2_with (fail)
      refine (getPlace_any s _).mono ?_
      rintro e w2 ⟨rfl, hb2⟩
      rw [hq.out]
      have HB2 := Lib.hid (HB1.out.trans (hb2.mono HB1.out.size))
      clear hb2 HB1
      have HB2' := Lib.hid (HB2.out.alloc HB2.out.size (.cells #[.int .i64 (partF s 0 6), .int .i64 (partF s 6 2), .int .i64 (partF s 8 5), .int .i64 (partF s 13 7)] 23))
      have HD0 := Lib.hid (Blk.new w2 #[.int .i64 (partF s 0 6), .int .i64 (partF s 6 2), .int .i64 (partF s 8 5), .int .i64 (partF s 13 7)] 23)
      clear HB2
      go_wp2_with (fail)
      refine (getLink_any s _).mono ?_
      rintro e w3 ⟨rfl, hb3⟩
      rw [hq.out]
      have HB3 := Lib.hid (HB2'.out.trans (hb3.mono HB2'.out.size))
      have HD0 := Lib.hid (HD0.out.below hb3)
      generalize w2.heap.size = d0 at *
      clear hb3 HB2'
      have HB3' := Lib.hid (HB3.out.alloc HB3.out.size (.cells #[.int .i64 (partF s 0 5), .int .i64 (partF s 5 6), .int .i64 (partF s 11 6), .int .i64 (partF s 17 3)] 56))
      have HD0 := Lib.hid (HD0.out.alloc (.cells #[.int .i64 (partF s 0 5), .int .i64 (partF s 5 6), .int .i64 (partF s 11 6), .int .i64 (partF s 17 3)] 56))
      have HD1 := Lib.hid (Blk.new w3 #[.int .i64 (partF s 0 5), .int .i64 (partF s 5 6), .int .i64 (partF s 11 6), .int .i64 (partF s 17 3)] 56)
      clear HB3
      go_wp2_with (fail)
      refine (getMark_any s _).mono ?_
      rintro e w4 ⟨rfl, hb4⟩
      rw [hq.out]
      have HB4 := Lib.hid (HB3'.out.trans (hb4.mono HB3'.out.size))
      have HD0 := Lib.hid (HD0.out.below hb4)
      have HD1 := Lib.hid (HD1.out.below hb4)
      generalize w3.heap.size = d1 at *
      clear hb4 HB3'
      have HB := Lib.hid (HB4.out.alloc HB4.out.size (.cells #[.int .i64 (partF s 0 6), .int .i64 (partF s 6 6), .int .i64 (partF s 12 6), .int .i64 (partF s 18 2)] 26))
      have HD0 := Lib.hid (HD0.out.alloc (.cells #[.int .i64 (partF s 0 6), .int .i64 (partF s 6 6), .int .i64 (partF s 12 6), .int .i64 (partF s 18 2)] 26))
      have HD1 := Lib.hid (HD1.out.alloc (.cells #[.int .i64 (partF s 0 6), .int .i64 (partF s 6 6), .int .i64 (partF s 12 6), .int .i64 (partF s 18 2)] 26))
      have HD2 := Lib.hid (Blk.new w4 #[.int .i64 (partF s 0 6), .int .i64 (partF s 6 6), .int .i64 (partF s 12 6), .int .i64 (partF s 18 2)] 26)
      clear HB4
      go_upto_region 8 with (fail)
      generalize hW : w4.alloc (.cells #[.int .i64 (partF s 0 6), .int .i64 (partF s 6 6), .int .i64 (partF s 12 6), .int .i64 (partF s 18 2)] 26) = W at *
      clear hW
      generalize w4.heap.size = d2 at *
      have e00 := HD0.out.cell 0
      have e01 := HD0.out.cell 1
      have e02 := HD0.out.cell 2
      have e03 := HD0.out.cell 3
      have e10 := HD1.out.cell 0
      have e11 := HD1.out.cell 1
      have e12 := HD1.out.cell 2
      have e13 := HD1.out.cell 3
      have e20 := HD2.out.cell 0
      have e21 := HD2.out.cell 1
      have e22 := HD2.out.cell 2
      have e23 := HD2.out.cell 3
      go_wp2_with (fail)
      refine (placePut_any (partF s 0 6) (partF s 6 2) (partF s 8 5) (partF s 13 7) _).mono ?_
      rintro e w5 ⟨rfl, hb5⟩
      rw [HBK.out.1.1]
      rw [HBK.out.1.2]
      have HB5 := Lib.hid (HB.out.trans (hb5.mono HB.out.size))
      have HD0 := Lib.hid (HD0.out.below hb5)
      have HD1 := Lib.hid (HD1.out.below hb5)
      have HD2 := Lib.hid (HD2.out.below hb5)
      clear hb5 HB e00 e01 e02 e03 e10 e11 e12 e13 e20 e21 e22 e23
      have e00 := HD0.out.cell 0
      have e01 := HD0.out.cell 1
      have e02 := HD0.out.cell 2
      have e03 := HD0.out.cell 3
      have e10 := HD1.out.cell 0
      have e11 := HD1.out.cell 1
      have e12 := HD1.out.cell 2
      have e13 := HD1.out.cell 3
      have e20 := HD2.out.cell 0
      have e21 := HD2.out.cell 1
      have e22 := HD2.out.cell 2
      have e23 := HD2.out.cell 3
      go_wp2_with (fail)
      refine (linkPut_any (partF s 0 5) (partF s 5 6) (partF s 11 6) (partF s 17 3) _).mono ?_
      rintro e w6 ⟨rfl, hb6⟩
      rw [HBK.out.2.1.1]
      rw [HBK.out.2.1.2]
      have HB6 := Lib.hid (HB5.out.trans (hb6.mono HB5.out.size))
      have HD0 := Lib.hid (HD0.out.below hb6)
      have HD1 := Lib.hid (HD1.out.below hb6)
      have HD2 := Lib.hid (HD2.out.below hb6)
      clear hb6 HB5 e00 e01 e02 e03 e10 e11 e12 e13 e20 e21 e22 e23
      have e00 := HD0.out.cell 0
      have e01 := HD0.out.cell 1
      have e02 := HD0.out.cell 2
      have e03 := HD0.out.cell 3
      have e10 := HD1.out.cell 0
      have e11 := HD1.out.cell 1
      have e12 := HD1.out.cell 2
      have e13 := HD1.out.cell 3
      have e20 := HD2.out.cell 0
      have e21 := HD2.out.cell 1
      have e22 := HD2.out.cell 2
      have e23 := HD2.out.cell 3
      go_wp2_with (fail)
      refine (markPut_any (partF s 0 6) (partF s 6 6) (partF s 12 6) (partF s 18 2) _).mono ?_
      rintro e w7 ⟨rfl, hb7⟩
      rw [HBK.out.2.2.1]
      rw [HBK.out.2.2.2]
      have HB7 := Lib.hid (HB6.out.trans (hb7.mono HB6.out.size))
      have HD0 := Lib.hid (HD0.out.below hb7)
      have HD1 := Lib.hid (HD1.out.below hb7)
      have HD2 := Lib.hid (HD2.out.below hb7)
      clear hb7 HB6 e00 e01 e02 e03 e10 e11 e12 e13 e20 e21 e22 e23
      have e00 := HD0.out.cell 0
      have e01 := HD0.out.cell 1
      have e02 := HD0.out.cell 2
      have e03 := HD0.out.cell 3
      have e10 := HD1.out.cell 0
      have e11 := HD1.out.cell 1
      have e12 := HD1.out.cell 2
      have e13 := HD1.out.cell 3
      have e20 := HD2.out.cell 0
      have e21 := HD2.out.cell 1
      have e22 := HD2.out.cell 2
      have e23 := HD2.out.cell 3
      go_wp2_with (fail)
      refine (cut_any s _ (by omega)).mono ?_
      rintro e wc ⟨v, rfl, ht, hbc⟩
      rw [hmm.out]
      rw [if_pos HM.out] at ht
      have HBC := Lib.hid (HB7.out.trans (hbc.mono HB7.out.size))
      clear hbc HB7 e00 e01 e02 e03 e10 e11 e12 e13 e20 e21 e22 e23 HD0 HD1 HD2
      have ht2 : IsTexts _ v (pieces (s.length / 20) s) wc := ht
      clear ht
      obtain ⟨A, c, rfl, hA⟩ := ht2.rs
      have HA := Lib.hid hA
      clear ht2 hA
      rw [pieces_length]
      go_wp2_with (fail)
      go_loop [17, 121] (fun vs vi => ∃ k : Nat, k ≤ s.length / 20 ∧ vi = .int .i64 k ∧ vs = .string (S (s.take (20 * k)))) (fun _ vi => s.length / 20 - (intOf vi).toNat)
      case atStart => exact ⟨0, Nat.zero_le _, rfl, rfl⟩
      case round =>
        obtain ⟨k, hk, rfl, rfl⟩ := hrel
        by_cases hlt : k < s.length / 20
        · obtain ⟨b, o, rfl, hc⟩ := HA.out k (by rw [pieces_length]; exact hlt)
          rw [pieces_getD _ s hlt] at hc
          have hx : ((s.drop (20 * k)).take 20).length = 20 := by rw [List.length_take, List.length_drop]; omega
          have Hs := Lib.hid (take_piece s k)
          have htl : (s.take (20 * k)).length ≤ 2000 := by rw [List.length_take]; omega
          generalize (s.drop (20 * k)).take 20 = x at *
          have hx1 : ((x.length : Int) != 20) = false := by rw [hx]; rfl
          have hx2 : x.length ≤ 20 := by omega
          have Hx := Lib.hid hx
          clear hx
          go_wp2
          exact ⟨⟨k + 1, hlt, by go_num, by rw [Hs.out]⟩, by simp [intOf]; omega⟩
        · have hkn : k = s.length / 20 := by omega
          subst hkn
          have Hx := Lib.hid (show s.take (20 * (s.length / 20)) = s from List.take_of_length_le (by have := HM.out; omega))
          rw [Hx.out]
          go_wp2
          go_ret
          exact ⟨rfl, HBC.out⟩
    · have hq := Lib.hid (decide_eq_false hl)
      have q20 : ((s.length : Int) == 20) = false := by simp; omega
      have HZ : Hid (∀ i n, partF s i n = 0) := by apply Lib.hid; intro i n; unfold partF; rw [if_neg hl]
      clear hl
      by_cases hm : s.length % 20 = 0
      · have qm : ((s.length : Int) % 20 == 0) = true := by simp; omega
        have hmm : Hid (decide (s.length % 20 = 0) = true) := decide_eq_true hm
        have HM := Lib.hid hm
        clear hm
        go_enter Try.func11, Try.ntmps11
        go_wp2_with (fail)
        refine (awake7 _).mono ?_
        rintro e w1 ⟨rfl, hb1⟩
        have HB1 := Lib.hid hb1
        clear hb1
        go_wp2_with (fail)
        refine (getPlace_any s _).mono ?_
        rintro e w2 ⟨rfl, hb2⟩
        rw [hq.out, HZ.out 0 6, HZ.out 6 2, HZ.out 8 5, HZ.out 13 7]
        have HB2 := Lib.hid (HB1.out.trans (hb2.mono HB1.out.size))
        clear hb2 HB1
        have HB2' := Lib.hid (HB2.out.alloc HB2.out.size (.cells #[.int .i64 0, .int .i64 0, .int .i64 0, .int .i64 0] 23))
        have HD0 := Lib.hid (Blk.new w2 #[.int .i64 0, .int .i64 0, .int .i64 0, .int .i64 0] 23)
        clear HB2
        go_wp2_with (fail)
        refine (getLink_any s _).mono ?_
        rintro e w3 ⟨rfl, hb3⟩
        rw [hq.out, HZ.out 0 5, HZ.out 5 6, HZ.out 11 6, HZ.out 17 3]
        have HB3 := Lib.hid (HB2'.out.trans (hb3.mono HB2'.out.size))
        have HD0 := Lib.hid (HD0.out.below hb3)
        generalize w2.heap.size = d0 at *
        clear hb3 HB2'
        have HB3' := Lib.hid (HB3.out.alloc HB3.out.size (.cells #[.int .i64 0, .int .i64 0, .int .i64 0, .int .i64 0] 56))
        have HD0 := Lib.hid (HD0.out.alloc (.cells #[.int .i64 0, .int .i64 0, .int .i64 0, .int .i64 0] 56))
        have HD1 := Lib.hid (Blk.new w3 #[.int .i64 0, .int .i64 0, .int .i64 0, .int .i64 0] 56)
        clear HB3
        go_wp2_with (fail)
        refine (getMark_any s _).mono ?_
        rintro e w4 ⟨rfl, hb4⟩
        rw [hq.out, HZ.out 0 6, HZ.out 6 6, HZ.out 12 6, HZ.out 18 2]
        have HB4 := Lib.hid (HB3'.out.trans (hb4.mono HB3'.out.size))
        have HD0 := Lib.hid (HD0.out.below hb4)
        have HD1 := Lib.hid (HD1.out.below hb4)
        generalize w3.heap.size = d1 at *
        clear hb4 HB3'
        have HB := Lib.hid (HB4.out.alloc HB4.out.size (.cells #[.int .i64 0, .int .i64 0, .int .i64 0, .int .i64 0] 26))
        have HD0 := Lib.hid (HD0.out.alloc (.cells #[.int .i64 0, .int .i64 0, .int .i64 0, .int .i64 0] 26))
        have HD1 := Lib.hid (HD1.out.alloc (.cells #[.int .i64 0, .int .i64 0, .int .i64 0, .int .i64 0] 26))
        have HD2 := Lib.hid (Blk.new w4 #[.int .i64 0, .int .i64 0, .int .i64 0, .int .i64 0] 26)
        clear HB4
        go_upto_region 8 with (fail)
        generalize hW : w4.alloc (.cells #[.int .i64 0, .int .i64 0, .int .i64 0, .int .i64 0] 26) = W at *
        clear hW
        generalize w4.heap.size = d2 at *
        have e00 := HD0.out.cell 0
        have e01 := HD0.out.cell 1
        have e02 := HD0.out.cell 2
        have e03 := HD0.out.cell 3
        have e10 := HD1.out.cell 0
        have e11 := HD1.out.cell 1
        have e12 := HD1.out.cell 2
        have e13 := HD1.out.cell 3
        have e20 := HD2.out.cell 0
        have e21 := HD2.out.cell 1
        have e22 := HD2.out.cell 2
        have e23 := HD2.out.cell 3
        go_wp2_with (fail)
        refine (cut_any s _ (by omega)).mono ?_
        rintro e wc ⟨v, rfl, ht, hbc⟩
        rw [hmm.out]
        rw [if_pos HM.out] at ht
        have HBC := Lib.hid (HB.out.trans (hbc.mono HB.out.size))
        clear hbc HB e00 e01 e02 e03 e10 e11 e12 e13 e20 e21 e22 e23 HD0 HD1 HD2
        have ht2 : IsTexts _ v (pieces (s.length / 20) s) wc := ht
        clear ht
        obtain ⟨A, c, rfl, hA⟩ := ht2.rs
        have HA := Lib.hid hA
        clear ht2 hA
        rw [pieces_length]
        go_wp2_with (fail)
        go_loop [17, 121] (fun vs vi => ∃ k : Nat, k ≤ s.length / 20 ∧ vi = .int .i64 k ∧ vs = .string (S (s.take (20 * k)))) (fun _ vi => s.length / 20 - (intOf vi).toNat)
        case atStart => exact ⟨0, Nat.zero_le _, rfl, rfl⟩
        case round =>
          obtain ⟨k, hk, rfl, rfl⟩ := hrel
          by_cases hlt : k < s.length / 20
          · obtain ⟨b, o, rfl, hc⟩ := HA.out k (by rw [pieces_length]; exact hlt)
            rw [pieces_getD _ s hlt] at hc
            have hx : ((s.drop (20 * k)).take 20).length = 20 := by rw [List.length_take, List.length_drop]; omega
            have Hs := Lib.hid (take_piece s k)
            have htl : (s.take (20 * k)).length ≤ 2000 := by rw [List.length_take]; omega
            generalize (s.drop (20 * k)).take 20 = x at *
            have hx1 : ((x.length : Int) != 20) = false := by rw [hx]; rfl
            have hx2 : x.length ≤ 20 := by omega
            have Hx := Lib.hid hx
            clear hx
            go_wp2
            exact ⟨⟨k + 1, hlt, by go_num, by rw [Hs.out]⟩, by simp [intOf]; omega⟩
          · have hkn : k = s.length / 20 := by omega
            subst hkn
            have Hx := Lib.hid (show s.take (20 * (s.length / 20)) = s from List.take_of_length_le (by have := HM.out; omega))
            rw [Hx.out]
            go_wp2
            go_ret
            exact ⟨rfl, HBC.out⟩
      · have qm : ((s.length : Int) % 20 == 0) = false := by simp; omega
        have hmm : Hid (decide (s.length % 20 = 0) = false) := decide_eq_false hm
        have HM := Lib.hid hm
        clear hm
        go_enter Try.func11, Try.ntmps11
        go_wp2_with (fail)
        refine (awake7 _).mono ?_
        rintro e w1 ⟨rfl, hb1⟩
        have HB1 := Lib.hid hb1
        clear hb1
        go_wp2_with (fail)
        refine (getPlace_any s _).mono ?_
        rintro e w2 ⟨rfl, hb2⟩
        rw [hq.out, HZ.out 0 6, HZ.out 6 2, HZ.out 8 5, HZ.out 13 7]
        have HB2 := Lib.hid (HB1.out.trans (hb2.mono HB1.out.size))
        clear hb2 HB1
        have HB2' := Lib.hid (HB2.out.alloc HB2.out.size (.cells #[.int .i64 0, .int .i64 0, .int .i64 0, .int .i64 0] 23))
        have HD0 := Lib.hid (Blk.new w2 #[.int .i64 0, .int .i64 0, .int .i64 0, .int .i64 0] 23)
        clear HB2
        go_wp2_with (fail)
        refine (getLink_any s _).mono ?_
        rintro e w3 ⟨rfl, hb3⟩
        rw [hq.out, HZ.out 0 5, HZ.out 5 6, HZ.out 11 6, HZ.out 17 3]
        have HB3 := Lib.hid (HB2'.out.trans (hb3.mono HB2'.out.size))
        have HD0 := Lib.hid (HD0.out.below hb3)
        generalize w2.heap.size = d0 at *
        clear hb3 HB2'
        have HB3' := Lib.hid (HB3.out.alloc HB3.out.size (.cells #[.int .i64 0, .int .i64 0, .int .i64 0, .int .i64 0] 56))
        have HD0 := Lib.hid (HD0.out.alloc (.cells #[.int .i64 0, .int .i64 0, .int .i64 0, .int .i64 0] 56))
        have HD1 := Lib.hid (Blk.new w3 #[.int .i64 0, .int .i64 0, .int .i64 0, .int .i64 0] 56)
        clear HB3
        go_wp2_with (fail)
        refine (getMark_any s _).mono ?_
        rintro e w4 ⟨rfl, hb4⟩
        rw [hq.out, HZ.out 0 6, HZ.out 6 6, HZ.out 12 6, HZ.out 18 2]
        have HB4 := Lib.hid (HB3'.out.trans (hb4.mono HB3'.out.size))
        have HD0 := Lib.hid (HD0.out.below hb4)
        have HD1 := Lib.hid (HD1.out.below hb4)
        generalize w3.heap.size = d1 at *
        clear hb4 HB3'
        have HB := Lib.hid (HB4.out.alloc HB4.out.size (.cells #[.int .i64 0, .int .i64 0, .int .i64 0, .int .i64 0] 26))
        have HD0 := Lib.hid (HD0.out.alloc (.cells #[.int .i64 0, .int .i64 0, .int .i64 0, .int .i64 0] 26))
        have HD1 := Lib.hid (HD1.out.alloc (.cells #[.int .i64 0, .int .i64 0, .int .i64 0, .int .i64 0] 26))
        have HD2 := Lib.hid (Blk.new w4 #[.int .i64 0, .int .i64 0, .int .i64 0, .int .i64 0] 26)
        clear HB4
        go_upto_region 8 with (fail)
        generalize hW : w4.alloc (.cells #[.int .i64 0, .int .i64 0, .int .i64 0, .int .i64 0] 26) = W at *
        clear hW
        generalize w4.heap.size = d2 at *
        have e00 := HD0.out.cell 0
        have e01 := HD0.out.cell 1
        have e02 := HD0.out.cell 2
        have e03 := HD0.out.cell 3
        have e10 := HD1.out.cell 0
        have e11 := HD1.out.cell 1
        have e12 := HD1.out.cell 2
        have e13 := HD1.out.cell 3
        have e20 := HD2.out.cell 0
        have e21 := HD2.out.cell 1
        have e22 := HD2.out.cell 2
        have e23 := HD2.out.cell 3
        go_wp2_with (fail)
        refine (cut_any s _ (by omega)).mono ?_
        rintro e wc ⟨v, rfl, ht, hbc⟩
        rw [hmm.out]
        rw [if_neg HM.out] at ht
        have HBC := Lib.hid (HB.out.trans (hbc.mono HB.out.size))
        clear hbc HB e00 e01 e02 e03 e10 e11 e12 e13 e20 e21 e22 e23 HD0 HD1 HD2
        have ht2 : IsTexts _ v ([]) wc := ht
        clear ht
        obtain ⟨A, c, rfl, hA⟩ := ht2.rs
        have HA := Lib.hid hA
        clear ht2 hA
        go_wp2
        go_ret
        exact ⟨rfl, HBC.out⟩

end Go.Proofs.Ytdiebameocbahaa

