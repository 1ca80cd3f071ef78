/- The closed facts of SendSends' row, each by itself. -/
import Derived.Test.YtnacjogdndggeaaGreatDoorRows
import Derived.JoinedOf
import Derived.Stop.Joined
import Derived.KernelRfl
section
namespace Go.Proofs.YtnacjogdndggeaaGreatDoor
set_option maxRecDepth 100000
theorem sendSends_facts : joinedFacts Tryz.pinned.checked.prog 4 Tryz.f4 Rows.sendSendsSpec Rows.sendSendsRow = true := by kernel_rfl
theorem sendSends_instance : Tryz.f4.isInstance Tryz.pinned.checked.prog Rows.sendSendsRow.origin Rows.sendSendsRow.targs := of_decide_eq_true (by kernel_rfl)
theorem sendSends_wrapper : Tryz.f4.isWrapper Tryz.pinned.checked.prog Rows.sendSendsRow.wrapper Rows.sendSendsRow.mainSum := by
  unfold Func.isWrapper
  first
  | (rw [if_pos (by decide +kernel)]; kernel_rfl)
  | (rw [if_neg (by decide +kernel)]; exact ⟨rfl, rfl⟩)
theorem sendSends_named : Tryz.pinned.checked.prog.funcNamed Rows.sendSendsRow.func = some 4 := by kernel_rfl
theorem sendSends_at : Tryz.pinned.checked.prog.funcs[4]? = some Tryz.f4 := Tryz.func4
theorem sendSends_pre (H : Type) (enc : TypeId × Value → H) : (fun w args => (Rows.sendSendsSpec.pre enc Tryz.prog Tryz.f4 [] false w args ∧ laidMetH Tryz.prog Rows.sendSendsRow.laid w) ∧ sizedMet enc Tryz.prog Tryz.f4 (OpenSpec.ofChange Rows.sendSendsSpec) false w args) = Rows.sendSendsRow.pre enc Tryz.pinned.checked.prog Tryz.f4 (OpenSpec.ofChange Rows.sendSendsSpec) := rfl
end Go.Proofs.YtnacjogdndggeaaGreatDoor
end
