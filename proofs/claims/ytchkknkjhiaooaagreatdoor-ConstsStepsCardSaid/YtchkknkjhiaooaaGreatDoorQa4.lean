/- A part of the proof: Jc. -/
import Derived.Test.YtchkknkjhiaooaaGreatDoorQa3
set_option linter.unusedVariables false
set_option linter.unusedSimpArgs false
set_option linter.constructorNameAsVariable false
namespace Go.Proofs.YtchkknkjhiaooaaGreatDoor.Vm
open Go Go.RowKit Go.ChangeShapes Go.WideShapes
theorem constsSteps_k1 : Rows.constsStepsRow.wf (OpenSpec.ofChange Rows.constsStepsSpec) = true := by kernel_rfl
theorem constsSteps_k4 : Tryz.f9.params.all (Tryz.pinned.checked.prog.readableRec ·) = true := by kernel_rfl
theorem constsSteps_k5 : namedTie Tryz.pinned.checked.prog Rows.constsStepsRow.named Rows.constsStepsSpec.vars = true := by kernel_rfl
theorem constsSteps_k10 : (Rows.constsStepsRow.inPlace == Tryz.pinned.checked.prog.inPlace 9) = true := by kernel_rfl
theorem constsSteps_k11 : (Rows.constsStepsRow.unfollowed == Tryz.pinned.checked.prog.unfollowed 9) = true := by kernel_rfl
theorem constsSteps_k12 : (Rows.constsStepsRow.recurses == Tryz.pinned.checked.prog.recurses 9) = true := by kernel_rfl
theorem constsSteps_k13 : (Rows.constsStepsRow.named == Tryz.pinned.checked.prog.varsNamed 9) = true := by kernel_rfl
end Go.Proofs.YtchkknkjhiaooaaGreatDoor.Vm
