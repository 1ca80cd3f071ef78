/- What a law's row wants beside its walk: how an aggregate of whole numbers is opened. -/
import Derived.Test.YtdiebameocbahaaOcC
import Derived.ProofKit
import Derived.OpenShut
import Derived.ShutString
import Derived.ChangeOld
import Derived.Below
import Derived.SliceStrings
namespace Go.Proofs.Ytdiebameocbahaa
open Go.ChangeShapes Go.WideShapes Go.ChangeAt Go.RowKit

theorem own : ownKnob Try.prog.godebug = none := by kernel_rfl
theorem laidOut : laidOutB Try.prog = true := by kernel_rfl

theorem cell_int {W : World} {r : Reach} {base : Nat} {v : Value} (h : Cell.okWide Try.prog W r base 3 v) : ∃ m, v = .int .i64 m ∧ (Lit.int .i64 m).wf = true := by
  have h2 : Value.okWide Try.prog W r base 3 v := by
    simp only [Value.okWide, Try.underlying3]
    exact h
  obtain ⟨m, rfl⟩ := okWide_int Try.underlying3 h2
  refine ⟨m, rfl, ?_⟩
  simp only [Cell.okWide, Try.underlying3, Cell.ok] at h
  simp only [Lit.wf, Bool.and_eq_true, decide_eq_true_eq]
  exact h.2

theorem cells_ints {W : World} {r : Reach} {base : Nat} {cs : Array Value} {n : Nat} (hsz : cs.size = n)
    (h3 : ∀ i v, cs[i]? = some v → ∃ u, (List.replicate n 3)[i % (List.replicate n 3).length]? = some u ∧ Cell.okWide Try.prog W r base u v) :
    ∃ xs : List Int, xs.length = n ∧ cs = (xs.map (Value.int .i64)).toArray ∧ ∀ x, x ∈ xs → (Lit.int .i64 x).wf = true := by
  have key : ∀ v, v ∈ cs.toList → ∃ m, v = .int .i64 m ∧ (Lit.int .i64 m).wf = true := by
    intro v hv
    obtain ⟨i, hi, rfl⟩ := List.getElem_of_mem hv
    obtain ⟨u, hu, hc⟩ := h3 i cs.toList[i] (by simp at hi; simp [hi])
    rw [List.getElem?_replicate] at hu
    split at hu
    · injection hu with hu; subst hu; exact cell_int hc
    · cases hu
  have key2 : ∀ l : List Value, (∀ v, v ∈ l → ∃ m, v = .int .i64 m ∧ (Lit.int .i64 m).wf = true) → ∃ xs : List Int, xs.length = l.length ∧ l = xs.map (Value.int .i64) ∧ ∀ x, x ∈ xs → (Lit.int .i64 x).wf = true := by
    intro l
    induction l with
    | nil => intro _; exact ⟨[], rfl, rfl, by simp⟩
    | cons v l ih =>
      intro h
      obtain ⟨m, rfl, hm⟩ := h v (by simp)
      obtain ⟨xs, h1, h2, h3⟩ := ih (fun v hv => h v (by simp [hv]))
      exact ⟨m :: xs, by simp [h1], by simp [h2], fun x hx => (List.mem_cons.1 hx).elim (fun e => e ▸ hm) (fun e => h3 x e)⟩
  obtain ⟨xs, h1, h2, h4⟩ := key2 cs.toList key
  exact ⟨xs, by rw [h1]; simpa using hsz, by rw [← h2], h4⟩

/-- An aggregate all of whose cells are whole numbers of kind int. -/
theorem open_nums {W : World} {r : Reach} {base : Nat} {t : TypeId} {v : Value} {n : Nat}
    (hv : Value.okWide Try.prog W r base t v) (ht : (match Try.prog.underlying t with | some (.struct _) | some (.array _ _) => true | _ => false) = true)
    (hts : Try.prog.cellTypes Try.prog.depth t = some (List.replicate n 3)) (hC : Try.prog.cellsOf t = n) :
    ∃ xs : List Int, xs.length = n ∧ v = .agg (xs.map (Value.int .i64)).toArray ∧ ∀ x, x ∈ xs → (Lit.int .i64 x).wf = true := by
  unfold Value.okWide at hv
  split at hv
  · obtain ⟨cs, rfl, hsz, ts, h1, _, h3⟩ := hv
    rw [hts] at h1
    injection h1 with h1
    subst h1
    obtain ⟨xs, h1, h2, h4⟩ := cells_ints (hsz.trans hC) h3
    exact ⟨xs, h1, by rw [h2], h4⟩
  · obtain ⟨cs, rfl, hsz, ts, h1, _, h3⟩ := hv
    rw [hts] at h1
    injection h1 with h1
    subst h1
    obtain ⟨xs, h1, h2, h4⟩ := cells_ints (hsz.trans hC) h3
    exact ⟨xs, h1, by rw [h2], h4⟩
  · rename_i h1 h2
    split at ht
    · rename_i he; exact absurd he (h1 _)
    · rename_i he; exact absurd he (h2 _ _)
    · cases ht

theorem list8 {xs : List Int} (h : xs.length = 8) : ∃ a b c d e f g i, xs = [a, b, c, d, e, f, g, i] := by
  match xs, h with
  | [a, b, c, d, e, f, g, i], _ => exact ⟨a, b, c, d, e, f, g, i, rfl⟩
theorem list4 {xs : List Int} (h : xs.length = 4) : ∃ a b c d, xs = [a, b, c, d] := by
  match xs, h with
  | [a, b, c, d], _ => exact ⟨a, b, c, d, rfl⟩

end Go.Proofs.Ytdiebameocbahaa
