/- A part of the proof: Jb. -/
import Derived.Test.YtchkknkjhiaooaaGreatDoorQa2
set_option linter.unusedVariables false
set_option linter.unusedSimpArgs false
set_option linter.constructorNameAsVariable false
namespace Go.Proofs.YtchkknkjhiaooaaGreatDoor.Vm
open Go Go.RowKit Go.ChangeShapes Go.WideShapes
theorem constsSteps_named : Tryz.pinned.checked.prog.funcNamed "bywash/bywashlaw20.ConstsSteps" = some 9 := by kernel_rfl
theorem constsSteps_inst : Tryz.f9.isInstance Tryz.pinned.checked.prog Rows.constsStepsRow.origin Rows.constsStepsRow.targs := of_decide_eq_true (by kernel_rfl)
theorem constsSteps_wrap : Tryz.f9.isWrapper Tryz.pinned.checked.prog Rows.constsStepsRow.wrapper Rows.constsStepsRow.mainSum := by unfold Func.isWrapper; rw [if_neg (of_decide_eq_false (by kernel_rfl))]; exact ⟨rfl, rfl⟩
end Go.Proofs.YtchkknkjhiaooaaGreatDoor.Vm
