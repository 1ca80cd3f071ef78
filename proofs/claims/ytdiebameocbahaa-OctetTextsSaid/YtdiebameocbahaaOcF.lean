/- octet.Reader's Text and List. -/
import Derived.Test.YtdiebameocbahaaOcE
namespace Go.Proofs.Ytdiebameocbahaa
open Go.Shelf Go.RowKit

set_option maxRecDepth 100000 in
set_option maxHeartbeats 400000 in
theorem fails_any (g : Nat) (s x : List UInt8) (e y : Int) (w : World) (h : IsR g s e w) :
    Calls Try.prog 46 #[.pointer (some ⟨g, 0, none⟩), .int .i64 y, .string (S x)] w fun r w' => r = .returned (.tuple #[]) ∧ IsR g x y w' ∧ Only g w w' := by
  have c0 := h.c0
  have c1 := h.c1
  have f0 := h.f0
  have f1 := h.f1
  go_enter Try.func46, Try.ntmps46
  go_wp2
  go_end0
  exact ⟨rfl, (h.set1 y).set0 x, (Only.refl.set _ _).set _ _⟩

/-- Text: the text, what is left, the error. -/
def textF (s : List UInt8) (e most : Int) : List UInt8 × List UInt8 × Int :=
  if e ≠ 0 then ([], s, e) else
    let a := numF s 0 2
    let b := takeF a.2.1 (if a.2.2 = 0 ∧ most < a.1 then 6 else a.2.2) a.1
    (b.1, if b.2.2 ≠ 0 then s else b.2.1, b.2.2)

set_option maxRecDepth 100000 in
set_option maxHeartbeats 1000000 in
theorem RText_any (g : Nat) (s : List UInt8) (e most : Int) (w : World) (h : IsR g s e w) :
    Calls Try.prog 26 #[.pointer (some ⟨g, 0, none⟩), .int .i64 most] w fun x w' => x = .returned (.string (S (textF s e most).1)) ∧ IsR g (textF s e most).2.1 (textF s e most).2.2 w' ∧ Only g w w' := by
  by_cases he : e = 0
  · subst he
    have c0 := h.c0
    have Hf : Hid (textF s 0 most = (let a := numF s 0 2
      let b := takeF a.2.1 (if a.2.2 = 0 ∧ most < a.1 then 6 else a.2.2) a.1
      (b.1, if b.2.2 ≠ 0 then s else b.2.1, b.2.2))) := by
      apply Lib.hid
      unfold textF
      rw [if_neg (by simp)]
    go_enter Try.func26, Try.ntmps26
    go_wp2_with (fail)
    refine (Err_any g s 0 w h).mono ?_
    rintro x w' ⟨rfl, rfl⟩
    go_wp2_with (fail)
    refine (RNum_any g s 0 2 w h).mono ?_
    rintro x w1 ⟨rfl, hr1, ho1⟩
    generalize numF s 0 2 = a at *
    obtain ⟨n1, s1, e1⟩ := a
    simp only at *
    have d1 := hr1.c1
    have k1 := hr1.f1
    clear c0
    by_cases h0 : e1 = 0
    · subst h0
      by_cases hm : most < n1
      · go_wp2_with (fail)
        refine (Take_any g s1 6 n1 _ (hr1.set1 6)).mono ?_
        rintro x w2 ⟨rfl, hr2, ho2⟩
        have Hb : Hid (textF s 0 most = ((takeF s1 6 n1).1, if (takeF s1 6 n1).2.2 ≠ 0 then s else (takeF s1 6 n1).2.1, (takeF s1 6 n1).2.2)) := by
          apply Lib.hid
          rw [Hf.out]
          simp only [hm, and_self, if_true]
        generalize takeF s1 6 n1 = b at *
        obtain ⟨t2, s2, e2⟩ := b
        simp only at hr2 Hb
        have O2 := Lib.hid ((ho1.set (.int .i64 6) 1).trans ho2)
        clear ho2
        have d2 := hr2.c1
        by_cases h2 : e2 = 0
        · subst h2
          go_wp2
          go_ret
          rw [Hb.out]
          simp only [ne_eq, not_true_eq_false, if_false]
          exact ⟨rfl, hr2, O2.out⟩
        · have hb2 : (e2 != 0) = true := by simpa using h2
          go_wp2_with (fail)
          refine (fails_any g s2 s e2 e2 w2 hr2).mono ?_
          rintro x w3 ⟨rfl, hr3, ho3⟩
          go_wp2
          go_ret
          rw [Hb.out]
          simp only [ne_eq, h2, not_false_eq_true, if_true]
          exact ⟨rfl, hr3, O2.out.trans ho3⟩
      · go_wp2_with (fail)
        refine (Take_any g s1 0 n1 _ hr1).mono ?_
        rintro x w2 ⟨rfl, hr2, ho2⟩
        have Hb : Hid (textF s 0 most = ((takeF s1 0 n1).1, if (takeF s1 0 n1).2.2 ≠ 0 then s else (takeF s1 0 n1).2.1, (takeF s1 0 n1).2.2)) := by
          apply Lib.hid
          rw [Hf.out]
          simp only [show ¬ most < n1 by omega, and_false, if_false]
        generalize takeF s1 0 n1 = b at *
        obtain ⟨t2, s2, e2⟩ := b
        simp only at hr2 Hb
        have O2 := Lib.hid ((ho1).trans ho2)
        clear ho2
        have d2 := hr2.c1
        by_cases h2 : e2 = 0
        · subst h2
          go_wp2
          go_ret
          rw [Hb.out]
          simp only [ne_eq, not_true_eq_false, if_false]
          exact ⟨rfl, hr2, O2.out⟩
        · have hb2 : (e2 != 0) = true := by simpa using h2
          go_wp2_with (fail)
          refine (fails_any g s2 s e2 e2 w2 hr2).mono ?_
          rintro x w3 ⟨rfl, hr3, ho3⟩
          go_wp2
          go_ret
          rw [Hb.out]
          simp only [ne_eq, h2, not_false_eq_true, if_true]
          exact ⟨rfl, hr3, O2.out.trans ho3⟩
    · have hb : (e1 == 0) = false := by simpa using h0
      go_wp2_with (fail)
      refine (Take_any g s1 e1 n1 _ hr1).mono ?_
      rintro x w2 ⟨rfl, hr2, ho2⟩
      have Hb : Hid (textF s 0 most = ((takeF s1 e1 n1).1, if (takeF s1 e1 n1).2.2 ≠ 0 then s else (takeF s1 e1 n1).2.1, (takeF s1 e1 n1).2.2)) := by
        apply Lib.hid
        rw [Hf.out]
        simp only [h0, false_and, if_false]
      generalize takeF s1 e1 n1 = b at *
      obtain ⟨t2, s2, e2⟩ := b
      simp only at hr2 Hb
      have O2 := Lib.hid ((ho1).trans ho2)
      clear ho2
      have d2 := hr2.c1
      by_cases h2 : e2 = 0
      · subst h2
        go_wp2
        go_ret
        rw [Hb.out]
        simp only [ne_eq, not_true_eq_false, if_false]
        exact ⟨rfl, hr2, O2.out⟩
      · have hb2 : (e2 != 0) = true := by simpa using h2
        go_wp2_with (fail)
        refine (fails_any g s2 s e2 e2 w2 hr2).mono ?_
        rintro x w3 ⟨rfl, hr3, ho3⟩
        go_wp2
        go_ret
        rw [Hb.out]
        simp only [ne_eq, h2, not_false_eq_true, if_true]
        exact ⟨rfl, hr3, O2.out.trans ho3⟩
  · have hb : (e != 0) = true := by simpa using he
    go_enter Try.func26, Try.ntmps26
    go_wp2_with (fail)
    refine (Err_any g s e w h).mono ?_
    rintro x w' ⟨rfl, rfl⟩
    go_wp2
    go_ret
    have hf : textF s e most = ([], s, e) := by rw [textF, if_pos he]
    rw [hf]
    exact ⟨rfl, h, Only.refl⟩

end Go.Proofs.Ytdiebameocbahaa
