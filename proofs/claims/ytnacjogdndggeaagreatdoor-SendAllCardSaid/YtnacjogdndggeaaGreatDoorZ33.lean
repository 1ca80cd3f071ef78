/- The closed facts of SendAll's row, each by itself. -/
import Derived.Test.YtnacjogdndggeaaGreatDoorRows
import Derived.JoinedOf
import Derived.Stop.Joined
import Derived.KernelRfl
section
namespace Go.Proofs.YtnacjogdndggeaaGreatDoor
set_option maxRecDepth 100000
theorem sendAll_facts : joinedFacts Tryz.pinned.checked.prog 3 Tryz.f3 Rows.sendAllSpec Rows.sendAllRow = true := by kernel_rfl
theorem sendAll_instance : Tryz.f3.isInstance Tryz.pinned.checked.prog Rows.sendAllRow.origin Rows.sendAllRow.targs := of_decide_eq_true (by kernel_rfl)
theorem sendAll_wrapper : Tryz.f3.isWrapper Tryz.pinned.checked.prog Rows.sendAllRow.wrapper Rows.sendAllRow.mainSum := by
  unfold Func.isWrapper
  first
  | (rw [if_pos (by decide +kernel)]; kernel_rfl)
  | (rw [if_neg (by decide +kernel)]; exact ⟨rfl, rfl⟩)
theorem sendAll_named : Tryz.pinned.checked.prog.funcNamed Rows.sendAllRow.func = some 3 := by kernel_rfl
theorem sendAll_at : Tryz.pinned.checked.prog.funcs[3]? = some Tryz.f3 := Tryz.func3
theorem sendAll_pre (H : Type) (enc : TypeId × Value → H) : (fun w args => (Rows.sendAllSpec.pre enc Tryz.prog Tryz.f3 [] false w args ∧ laidMetH Tryz.prog Rows.sendAllRow.laid w) ∧ sizedMet enc Tryz.prog Tryz.f3 (OpenSpec.ofChange Rows.sendAllSpec) false w args) = Rows.sendAllRow.pre enc Tryz.pinned.checked.prog Tryz.f3 (OpenSpec.ofChange Rows.sendAllSpec) := rfl
end Go.Proofs.YtnacjogdndggeaaGreatDoor
end
