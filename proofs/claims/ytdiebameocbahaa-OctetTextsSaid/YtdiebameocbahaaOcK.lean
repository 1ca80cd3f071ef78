/- Plain laws: what is written is read; what is cut is too short. -/
import Derived.Test.YtdiebameocbahaaOcJ
namespace Go.Proofs.Ytdiebameocbahaa
open Go.Shelf Go.RowKit

theorem num_be_small (n x : Nat) (h : x < 256 ^ n) : num (be n x) = x := by rw [num_be, Nat.mod_eq_of_lt h]

theorem textF_B (x r : List UInt8) (most : Int) (h : x.length ≤ 65535) (hm : (x.length : Int) ≤ most) : textF (textB x ++ r) 0 most = (x, r, 0) := by
  have hl : (textB x ++ r).length = 2 + x.length + r.length := by rw [List.length_append, textB_length]
  have ht : (textB x ++ r).take 2 = be 2 x.length := by
    unfold textB
    rw [List.append_assoc, List.take_append_of_le_length (by simp), List.take_of_length_le (by simp)]
  have hd : (textB x ++ r).drop 2 = x ++ r := by
    unfold textB
    rw [List.append_assoc, List.drop_append_of_le_length (by simp), List.drop_of_length_le (by simp), List.nil_append]
  have hn : num ((textB x ++ r).take 2) = x.length := by rw [ht]; exact num_be_small 2 _ (by omega)
  rw [textF_there (by omega) (by rw [hn]; omega) (by rw [hn, hl]; omega), hn, hd]
  simp

theorem textF_cutB (x : List UInt8) (m : Nat) (most : Int) (h : x.length ≤ 65535) (hm : (x.length : Int) ≤ most) (hc : m < 2 + x.length) : (textF ((textB x).take m) 0 most).2.2 = 3 := by
  have hl : ((textB x).take m).length = m := by rw [List.length_take, textB_length]; omega
  by_cases h2 : m < 2
  · rw [textF_short _ (by omega)]
  · have ht : ((textB x).take m).take 2 = be 2 x.length := by
      rw [List.take_take, Nat.min_eq_left (by omega)]
      unfold textB
      rw [List.take_append_of_le_length (by simp), List.take_of_length_le (by simp)]
    have hn : num (((textB x).take m).take 2) = x.length := by rw [ht]; exact num_be_small 2 _ (by omega)
    rw [textF_cut (by omega) (by rw [hn]; omega) (by rw [hn, hl]; omega)]

/-- Each has at most so many bytes. -/
def AllLe (l : List (List UInt8)) (m : Nat) : Prop := ∀ s, s ∈ l → s.length ≤ m

theorem textsB_snoc (l : List (List UInt8)) (x : List UInt8) : textsB (l ++ [x]) = textsB l ++ textB x := by simp [textsB]

theorem textsF_B (l : List (List UInt8)) (most : Int) (m : Nat) (hm : m ≤ 65535) (hmm : (m : Int) ≤ most) : AllLe l m → ∀ r, textsF l.length (textsB l ++ r) 0 most = (l, r, 0) := by
  induction l using snoc_ind with
  | h0 => intro _ r; rfl
  | h1 l x ih =>
    intro h r
    have h1 := ih (fun s hs => h s (by simp [hs])) (textB x ++ r)
    have hx := h x (by simp)
    rw [List.length_append, List.length_singleton, textsB_snoc, List.append_assoc]
    simp only [textsF, h1]
    rw [textF_B x r most (by omega) (by omega)]

theorem textsF_cut (l : List (List UInt8)) (most : Int) (m : Nat) (hm : m ≤ 65535) (hmm : (m : Int) ≤ most) : AllLe l m → ∀ n, n < (textsB l).length → (textsF l.length ((textsB l).take n) 0 most).2.2 = 3 := by
  induction l using snoc_ind with
  | h0 => intro _ n hn; simp [textsB] at hn
  | h1 l x ih =>
    intro h n hn
    have hl : AllLe l m := fun s hs => h s (by simp [hs])
    have hx := h x (by simp)
    rw [textsB_snoc, List.length_append, textB_length] at hn
    rw [List.length_append, List.length_singleton, textsB_snoc]
    by_cases h1 : n < (textsB l).length
    · rw [List.take_append_of_le_length (by omega)]
      have he := ih hl n h1
      simp only [textsF]
      rw [textF_err _ _ _ (by rw [he]; decide)]
      exact he
    · obtain ⟨k, rfl⟩ : ∃ k, n = (textsB l).length + k := ⟨n - (textsB l).length, by omega⟩
      rw [List.take_length_add_append]
      have h2 := textsF_B l most m hm hmm hl ((textB x).take k)
      simp only [textsF, h2]
      exact textF_cutB x k most (by omega) (by omega) (by omega)

/-- A list's bytes. -/
def listB (l : List (List UInt8)) : List UInt8 := be 1 l.length ++ textsB l

theorem listB_length (l : List (List UInt8)) : (listB l).length = 1 + (textsB l).length := by simp [listB]

theorem listB_head (l : List (List UInt8)) (r : List UInt8) (h : l.length ≤ 255) : ¬ (listB l ++ r).length < 1 ∧ num ((listB l ++ r).take 1) = l.length ∧ (listB l ++ r).drop 1 = textsB l ++ r := by
  refine ⟨by rw [List.length_append, listB_length]; omega, ?_, ?_⟩
  · unfold listB
    rw [List.append_assoc, List.take_append_of_le_length (by simp), List.take_of_length_le (by simp)]
    exact num_be_small 1 _ (by omega)
  · unfold listB
    rw [List.append_assoc, List.drop_append_of_le_length (by simp), List.drop_of_length_le (by simp), List.nil_append]

theorem listF_B (l : List (List UInt8)) (r : List UInt8) (many most : Int) (m : Nat) (h : l.length ≤ 255) (hk : (l.length : Int) ≤ many) (hm : m ≤ 65535) (hmm : (m : Int) ≤ most) (ha : AllLe l m) :
    listF (listB l ++ r) 0 many most = (l, r, 0) := by
  obtain ⟨h1, h2, h3⟩ := listB_head l r h
  rw [listF_there most h1 (by rw [h2]; omega), h2, h3, textsF_B l most m hm hmm ha r]
  simp

theorem listF_cut (l : List (List UInt8)) (n : Nat) (many most : Int) (m : Nat) (h : l.length ≤ 255) (hk : (l.length : Int) ≤ many) (hm : m ≤ 65535) (hmm : (m : Int) ≤ most) (ha : AllLe l m) (hn : n < (listB l).length) :
    listF ((listB l).take n) 0 many most = ([], (listB l).take n, 3) := by
  rw [listB_length] at hn
  cases n with
  | zero => rw [listF_short _ _ (by simp)]
  | succ k =>
    have hs : (listB l).take (k + 1) = be 1 l.length ++ (textsB l).take k := by
      unfold listB
      rw [show k + 1 = (be 1 l.length).length + k by simp; omega, List.take_length_add_append]
    have h1 : ¬ ((listB l).take (k + 1)).length < 1 := by rw [hs]; simp
    have h2 : num (((listB l).take (k + 1)).take 1) = l.length := by
      rw [hs, List.take_append_of_le_length (by simp), List.take_of_length_le (by simp)]
      exact num_be_small 1 _ (by omega)
    have h3 : ((listB l).take (k + 1)).drop 1 = (textsB l).take k := by
      rw [hs, List.drop_append_of_le_length (by simp), List.drop_of_length_le (by simp), List.nil_append]
    have h4 := textsF_cut l most m hm hmm ha k (by omega)
    rw [listF_there most h1 (by rw [h2]; omega), h2, h3, h4]
    simp

end Go.Proofs.Ytdiebameocbahaa
