/- The document's answers on texts and lists (reveilleref01): what each comes to, told by the readers' own words. -/
import Derived.Test.YtdiebameocbahaaOcG
namespace Go.Proofs.Ytdiebameocbahaa
open Go.Shelf Go.RowKit

/-- The number of the first n bytes; -1: there are too few. -/
def getV (s : List UInt8) (n : Nat) : Int := if s.length < n then -1 else (num (s.take n) : Int)
theorem getV_short {s : List UInt8} {n : Nat} (h : s.length < n) : getV s n = -1 := if_pos h
theorem getV_there {s : List UInt8} {n : Nat} (h : ¬ s.length < n) : getV s n = (num (s.take n) : Int) := if_neg h

theorem add_byte (a b : Nat) (ha : a < 256 ^ 6) (hb : b < 256) : wrap64 (256 * (a : Int) + wrap64 (b : Int)) = ((256 * a + b : Nat) : Int) := by
  rw [IntWalk.wrap64_in (b : Int) (by omega), IntWalk.wrap64_in _ (by omega)]
  omega

set_option maxRecDepth 100000 in
set_option maxHeartbeats 400000 in
theorem refGet_any (s : List UInt8) (n : Nat) (w : World) (hn : n ≤ 7) :
    Calls Try.prog 23 #[.string (S s), .int .i64 n] w fun e w' => e = .returned (.int .i64 (getV s n)) ∧ w = w' := by
  by_cases hl : s.length < n
  · go_enter Try.func23, Try.ntmps23
    go_wp2
    go_ret
    exact ⟨ret_int (getV_short hl).symm, rfl⟩
  · have q : decide (s.length < n) = false := decide_eq_false hl
    go_enter Try.func23, Try.ntmps23
    go_wp2
    go_loop [5, 6] (fun vx vi => ∃ k : Nat, k ≤ n ∧ vi = .int .i64 k ∧ vx = .int .i64 (num (s.take k))) (fun _ vi => n - (intOf vi).toNat)
    case atStart => exact ⟨0, Nat.zero_le _, rfl, rfl⟩
    case round =>
      obtain ⟨k, hk, rfl, rfl⟩ := hrel
      by_cases hlt : k < n
      · have hks : k < s.length := by omega
        have hsn := take_snoc s k hks
        have hb : (S s).size = s.length := S_size s
        have hnum : num (s.take k) < 256 ^ 6 := by
          have h1 := num_lt (s.take k)
          have h2 : 256 ^ (s.take k).length ≤ 256 ^ 6 := Nat.pow_le_pow_right (by omega) (by rw [List.length_take]; omega)
          omega
        have HS := Lib.hid hsn
        clear hsn
        go_wp2
        exact ⟨⟨k + 1, hlt, by go_num, by rw [add_byte _ _ hnum (UInt8.toNat_lt _), HS.out, num_snoc]; rfl⟩, by simp [intOf]; omega⟩
      · have hkn : k = n := by omega
        subst hkn
        go_wp2
        go_ret
        exact ⟨ret_int (getV_there (by omega)).symm, rfl⟩

theorem textF_short {s : List UInt8} (most : Int) (h : s.length < 2) : textF s 0 most = ([], s, 3) := by
  have h1 : numF s 0 2 = (0, s, 3) := by unfold numF; rw [if_neg (by simp), if_neg (by omega), if_pos (by omega)]
  unfold textF
  rw [if_neg (by simp)]
  simp only [h1]
  simp [takeF]
theorem textF_long {s : List UInt8} {most : Int} (h : ¬ s.length < 2) (hm : most < (num (s.take 2) : Int)) : textF s 0 most = ([], s, 6) := by
  have h1 : numF s 0 2 = ((num (s.take 2) : Int), s.drop 2, 0) := by unfold numF; rw [if_neg (by simp), if_neg (by omega), if_neg (by omega)]; rfl
  unfold textF
  rw [if_neg (by simp)]
  simp only [h1]
  simp [takeF, hm]
theorem textF_cut {s : List UInt8} {most : Int} (h : ¬ s.length < 2) (hm : ¬ most < (num (s.take 2) : Int)) (hl : (s.length : Int) - 2 < (num (s.take 2) : Int)) : textF s 0 most = ([], s, 3) := by
  have h1 : numF s 0 2 = ((num (s.take 2) : Int), s.drop 2, 0) := by unfold numF; rw [if_neg (by simp), if_neg (by omega), if_neg (by omega)]; rfl
  have h2 : takeF (s.drop 2) 0 (num (s.take 2) : Int) = ([], s.drop 2, 3) := by
    unfold takeF; rw [if_neg (by simp), if_neg (by omega), if_pos (by rw [List.length_drop]; omega)]
  unfold textF
  rw [if_neg (by simp)]
  simp only [h1, hm, and_false, if_false, h2]
  simp
theorem textF_there {s : List UInt8} {most : Int} (h : ¬ s.length < 2) (hm : ¬ most < (num (s.take 2) : Int)) (hl : ¬ (s.length : Int) - 2 < (num (s.take 2) : Int)) :
    textF s 0 most = ((s.drop 2).take (num (s.take 2)), (s.drop 2).drop (num (s.take 2)), 0) := by
  have h1 : numF s 0 2 = ((num (s.take 2) : Int), s.drop 2, 0) := by unfold numF; rw [if_neg (by simp), if_neg (by omega), if_neg (by omega)]; rfl
  have h2 : takeF (s.drop 2) 0 (num (s.take 2) : Int) = ((s.drop 2).take (num (s.take 2)), (s.drop 2).drop (num (s.take 2)), 0) := by
    unfold takeF; rw [if_neg (by simp), if_neg (by omega), if_neg (by rw [List.length_drop]; omega), Int.toNat_natCast]
  unfold textF
  rw [if_neg (by simp)]
  simp only [h1, hm, and_false, if_false, h2]
  simp

theorem num2_lt (s : List UInt8) : num (s.take 2) < 65536 := by
  have h1 := num_lt (s.take 2)
  have h2 : 256 ^ (s.take 2).length ≤ 256 ^ 2 := Nat.pow_le_pow_right (by omega) (by rw [List.length_take]; omega)
  omega

/-- What Read answers: the text, how many bytes, the error. -/
def ReadPost (s : List UInt8) (most : Int) (w : World) (x : Ending) (w' : World) : Prop :=
  x = .returned (.tuple #[.string (S (textF s 0 most).1), .int .i64 ((s.length : Int) - (textF s 0 most).2.1.length), .int .i64 (textF s 0 most).2.2]) ∧ w = w'

theorem ret_sii {a b : ByteArray} {x y u v : Int} (h : a = b) (h' : x = y) (h'' : u = v) : Ending.returned (.tuple #[.string a, .int .i64 x, .int .i64 u]) = .returned (.tuple #[.string b, .int .i64 y, .int .i64 v]) := by rw [h, h', h'']

set_option maxRecDepth 100000 in
set_option maxHeartbeats 400000 in
theorem refRead_any (s : List UInt8) (most : Int) (w : World) (hs : s.length ≤ 140737488355328) :
    Calls Try.prog 25 #[.string (S s), .int .i64 most] w (ReadPost s most w) := by
  by_cases h : s.length < 2
  · have Ht := Lib.hid (textF_short most h)
    go_enter Try.func25, Try.ntmps25
    go_wp2_with (fail)
    refine (refGet_any s 2 w (by omega)).mono ?_
    rintro e w' ⟨rfl, rfl⟩
    rw [getV_short h]
    go_wp2
    go_ret3
    exact ⟨by rw [Ht.out]; exact ret_sii rfl (by simp) rfl, rfl⟩
  · have hn := num2_lt s
    have Hg := Lib.hid (getV_there h)
    by_cases hm : most < (num (s.take 2) : Int)
    · have Ht := Lib.hid (textF_long h hm)
      go_enter Try.func25, Try.ntmps25
      go_wp2_with (fail)
      refine (refGet_any s 2 w (by omega)).mono ?_
      rintro e w' ⟨rfl, rfl⟩
      rw [Hg.out]
      go_wp2
      go_ret3
      exact ⟨by rw [Ht.out]; exact ret_sii rfl (by simp) rfl, rfl⟩
    · by_cases hl : (s.length : Int) - 2 < (num (s.take 2) : Int)
      · have Ht := Lib.hid (textF_cut h hm hl)
        go_enter Try.func25, Try.ntmps25
        go_wp2_with (fail)
        refine (refGet_any s 2 w (by omega)).mono ?_
        rintro e w' ⟨rfl, rfl⟩
        rw [Hg.out]
        go_wp2
        go_ret3
        exact ⟨by rw [Ht.out]; exact ret_sii rfl (by simp) rfl, rfl⟩
      · have Ht := Lib.hid (textF_there h hm hl)
        go_enter Try.func25, Try.ntmps25
        go_wp2_with (fail)
        refine (refGet_any s 2 w (by omega)).mono ?_
        rintro e w' ⟨rfl, rfl⟩
        rw [Hg.out]
        generalize hN : num (s.take 2) = N at *
        clear hN
        go_wp2
        go_ret3
        exact ⟨by rw [Ht.out]; exact ret_sii (by rw [extract_S, Nat.add_sub_cancel_left]) (by simp; omega) rfl, rfl⟩

theorem textF_rest (s : List UInt8) (most : Int) : ∃ k, k ≤ s.length ∧ (textF s 0 most).2.1 = s.drop k := by
  by_cases h : s.length < 2
  · exact ⟨0, Nat.zero_le _, by rw [textF_short most h]; rfl⟩
  · by_cases hm : most < (num (s.take 2) : Int)
    · exact ⟨0, Nat.zero_le _, by rw [textF_long h hm]; rfl⟩
    · by_cases hl : (s.length : Int) - 2 < (num (s.take 2) : Int)
      · exact ⟨0, Nat.zero_le _, by rw [textF_cut h hm hl]; rfl⟩
      · exact ⟨2 + num (s.take 2), by omega, by rw [textF_there h hm hl]; simp⟩

theorem textF_err (s : List UInt8) (e most : Int) (h : e ≠ 0) : textF s e most = ([], s, e) := by rw [textF, if_pos h]

/-- The first error stays. -/
theorem textsF_err {i : Nat} {s : List UInt8} {e most : Int} (h : (textsF i s e most).2.2 ≠ 0) : ∀ j, i ≤ j → (textsF j s e most).2.2 = (textsF i s e most).2.2 := by
  intro j hj
  induction j with
  | zero => obtain rfl : i = 0 := by omega
            rfl
  | succ j ih =>
    rcases Nat.eq_or_lt_of_le hj with rfl | hlt
    · rfl
    · have ih' := ih (by omega)
      simp only [textsF]
      rw [textF_err _ _ _ (by rw [ih']; exact h)]
      exact ih'

/-- What Reads answers: the texts, how many bytes, the error. -/
def ReadsPost (s : List UInt8) (many most : Int) (w : World) (x : Ending) (w' : World) : Prop :=
  ∃ v, x = .returned (.tuple #[v, .int .i64 ((s.length : Int) - (listF s 0 many most).2.1.length), .int .i64 (listF s 0 many most).2.2]) ∧ IsTexts w.heap.size v (listF s 0 many most).1 w' ∧ Below w.heap.size w w'

theorem listF_short {s : List UInt8} (many most : Int) (h : s.length < 1) : listF s 0 many most = ([], s, 3) := by
  have h1 : numF s 0 1 = (0, s, 3) := by unfold numF; rw [if_neg (by simp), if_neg (by omega), if_pos (by omega)]
  unfold listF
  rw [if_neg (by simp)]
  simp only [h1]
  simp [textsF]
theorem numF1 {s : List UInt8} (h : ¬ s.length < 1) : numF s 0 1 = ((num (s.take 1) : Int), s.drop 1, 0) := by unfold numF; rw [if_neg (by simp), if_neg (by omega), if_neg (by omega)]; rfl
theorem textsF_bad (k : Nat) (s : List UInt8) (e most : Int) (h : e ≠ 0) : (textsF k s e most).2 = (s, e) := by
  induction k with
  | zero => rfl
  | succ k ih => simp only [textsF]; rw [ih]; rw [textF_err _ _ _ h]
theorem listF_many {s : List UInt8} {many : Int} (most : Int) (h : ¬ s.length < 1) (hm : many < (num (s.take 1) : Int)) : listF s 0 many most = ([], s, 6) := by
  unfold listF
  rw [if_neg (by simp)]
  simp only [numF1 h, hm, and_self, if_true]
  rw [textsF_bad _ _ _ _ (by simp)]
  simp
theorem listF_there {s : List UInt8} {many : Int} (most : Int) (h : ¬ s.length < 1) (hm : ¬ many < (num (s.take 1) : Int)) : listF s 0 many most =
    (if (textsF (num (s.take 1)) (s.drop 1) 0 most).2.2 ≠ 0 then [] else (textsF (num (s.take 1)) (s.drop 1) 0 most).1, if (textsF (num (s.take 1)) (s.drop 1) 0 most).2.2 ≠ 0 then s else (textsF (num (s.take 1)) (s.drop 1) 0 most).2.1, (textsF (num (s.take 1)) (s.drop 1) 0 most).2.2) := by
  unfold listF
  rw [if_neg (by simp)]
  simp only [numF1 h, hm, and_false, if_false, Int.toNat_natCast]

theorem num1_lt (s : List UInt8) : num (s.take 1) < 256 := by
  have h1 := num_lt (s.take 1)
  have h2 : 256 ^ (s.take 1).length ≤ 256 ^ 1 := Nat.pow_le_pow_right (by omega) (by rw [List.length_take]; omega)
  omega

theorem drop_count {l r : List UInt8} {k : Nat} (hk : k ≤ l.length) (h : r = l.drop k) : (l.length : Int) - (r.length : Int) = (k : Int) := by
  subst h
  rw [List.length_drop]
  omega

theorem ret_vii {a b : Value} {x y u v : Int} (h : a = b) (h' : x = y) (h'' : u = v) : Ending.returned (.tuple #[a, .int .i64 x, .int .i64 u]) = .returned (.tuple #[b, .int .i64 y, .int .i64 v]) := by rw [h, h', h'']

set_option maxRecDepth 100000 in
set_option maxHeartbeats 1000000 in
theorem refReads_any (s : List UInt8) (many most : Int) (w : World) (hs : s.length ≤ 140737488355328) :
    Calls Try.prog 27 #[.string (S s), .int .i64 many, .int .i64 most] w (ReadsPost s many most w) := by
  by_cases h : s.length < 1
  · have Ht := Lib.hid (listF_short many most h)
    go_enter Try.func27, Try.ntmps27
    go_wp2_with (fail)
    refine (refGet_any s 1 w (by omega)).mono ?_
    rintro e w' ⟨rfl, rfl⟩
    rw [getV_short h]
    go_wp2
    go_ret3
    exact ⟨_, by rw [Ht.out]; exact ret_vii rfl (by simp) rfl, by rw [Ht.out]; exact World.ownsRow_nil .., Below.refl _ _⟩
  · have hn := num1_lt s
    have Hg := Lib.hid (getV_there h)
    by_cases hm : many < (num (s.take 1) : Int)
    · have Ht := Lib.hid (listF_many most h hm)
      go_enter Try.func27, Try.ntmps27
      go_wp2_with (fail)
      refine (refGet_any s 1 w (by omega)).mono ?_
      rintro e w' ⟨rfl, rfl⟩
      rw [Hg.out]
      go_wp2
      go_ret3
      exact ⟨_, by rw [Ht.out]; exact ret_vii rfl (by simp) rfl, by rw [Ht.out]; exact World.ownsRow_nil .., Below.refl _ _⟩
    · have Ht := Lib.hid (listF_there most h hm)
      obtain ⟨i0, hi, hz0, hz1, hz2⟩ := info_parts infoStr
      have h1 : 1 ≤ s.length := by omega
      go_enter Try.func27, Try.ntmps27
      go_wp2_with (fail)
      refine (refGet_any s 1 w (by omega)).mono ?_
      rintro e w' ⟨rfl, rfl⟩
      rw [Hg.out]
      generalize hN : num (s.take 1) = N at *
      clear hN h Hg
      go_wp2_with (fail)
      have HL := Lib.hid (World.ownsRow_lit (base := w.heap.size) (e := 9) (size := 1) w #[] 0 (Nat.le_refl _) (by decide) rfl)
      have HB := Lib.hid ((Below.refl w.heap.size w).alloc (Nat.le_refl _) (.cells #[] 9))
      go_loopw [10, 11, 12] (fun vo va vi wr => ∃ i at_ : Nat, i ≤ N ∧ at_ ≤ s.length ∧ vi = .int .i64 i ∧ va = .int .i64 at_ ∧ Hid (wr.ownsRow w.heap.size 9 1 vo i (strVals (textsF i (s.drop 1) 0 most).1)) ∧ Hid ((textsF i (s.drop 1) 0 most).2 = (s.drop at_, 0)) ∧ Hid (Below w.heap.size w wr)) (fun _ _ vi _ => N - (intOf vi).toNat)
      case atStart => exact ⟨0, 1, Nat.zero_le _, h1, rfl, rfl, HL, rfl, HB⟩
      case round =>
        obtain ⟨i, at_, hi', hat, rfl, rfl, HL, HE, HB⟩ := hrel
        by_cases hlt : i < N
        · obtain ⟨k, hk, hrest⟩ := textF_rest (s.drop at_) most
          have hk2 : at_ + k ≤ s.length := by rw [List.length_drop] at hk; omega
          have hkk := Lib.hid (drop_count hk hrest)
          have HS := Lib.hid (textsF_succ i (s.drop 1) 0 most _ (by rw [HE.out]))
          clear hk
          go_wp2_with (fail)
          refine (refRead_any (s.drop at_) most _ (by rw [List.length_drop]; omega)).mono ?_
          rintro e w2 ⟨rfl, rfl⟩
          rw [hkk.out]
          rw [show (s.drop at_).drop k = s.drop (at_ + k) by rw [List.drop_drop]] at hrest
          generalize textF (s.drop at_) 0 most = T at *
          obtain ⟨T1, T2, T3⟩ := T
          simp only at hrest HS
          subst hrest
          by_cases h3 : T3 = 0
          · subst h3
            have hown := HL.out
            have hsz := HB.out.size
            go_wp2_with (at_builtin; refine wpList_append_own _ rfl _ _ 48 rfl w.heap.size 9 i0 (.string ⟨#[]⟩) 1 16 Try.underlying48 hi hz0 hz1 hz2 rfl (by decide) _ _ _ rfl (hown.alloc _) ⟨wr.heap.size, 0, none⟩ 1 1 [.string (S T1)] rfl rfl (cell_one_new wr _ _) (by simp [Value.oneCell']) (by unfold maxLen; omega) (by omega) (by simp; omega) ?_; intro v3 w3 hown3 hg3 _)
            have HB3 := Lib.hid ((HB.out.alloc hsz (.cells #[.string (S T1)] 9)).grown hg3 (by simp; omega) (fun k hk => ((hown.alloc (.cells #[.string (S T1)] 9)).lt k hk).1))
            rw [show strVals (textsF i (s.drop 1) 0 most).1 ++ [.string (S T1)] = strVals (textsF (i + 1) (s.drop 1) 0 most).1 by rw [HS.out]; simp [strVals]] at hown3
            have HL3 := Lib.hid hown3
            have HE3 : Hid ((textsF (i + 1) (s.drop 1) 0 most).2 = (s.drop (at_ + k), 0)) := by
              apply Lib.hid
              rw [HS.out]
            clear hown hown3 hg3
            go_wp2
            exact ⟨⟨i + 1, at_ + k, hlt, hk2, by go_num, by go_num, HL3, HE3, HB3⟩, by simp [intOf]; omega⟩
          · have hb : (T3 != 0) = true := by simpa using h3
            have HF : Hid (listF s 0 many most = ([], s, T3)) := by
              apply Lib.hid
              have he : (textsF (i + 1) (s.drop 1) 0 most).2.2 = T3 := by rw [HS.out]
              have h4 := textsF_err (i := i + 1) (by rw [he]; exact h3) N hlt
              rw [Ht.out, h4, he]
              simp [h3]
            go_wp2
            go_ret3
            exact ⟨_, by rw [HF.out]; exact ret_vii rfl (by simp) rfl, by rw [HF.out]; exact World.ownsRow_nil .., HB.out⟩
        · have hiN : i = N := by omega
          subst hiN
          have HF : Hid (listF s 0 many most = ((textsF i (s.drop 1) 0 most).1, s.drop at_, 0)) := by
            apply Lib.hid
            rw [Ht.out, HE.out]
            simp
          go_wp2
          go_ret3
          refine ⟨_, by rw [HF.out]; exact ret_vii rfl (by simp; omega) rfl, ?_, HB.out⟩
          rw [HF.out]
          unfold IsTexts
          rw [textsF_length]
          exact HL.out

end Go.Proofs.Ytdiebameocbahaa
