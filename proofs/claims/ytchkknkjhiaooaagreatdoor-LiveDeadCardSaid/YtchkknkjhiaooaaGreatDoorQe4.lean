/- A part of the proof: Mc. -/
import Derived.Test.YtchkknkjhiaooaaGreatDoorQe3
set_option linter.unusedVariables false
set_option linter.unusedSimpArgs false
set_option linter.constructorNameAsVariable false
namespace Go.Proofs.YtchkknkjhiaooaaGreatDoor.Vm
open Go Go.RowKit Go.ChangeShapes Go.WideShapes
theorem liveDead_k1 : Rows.liveDeadRow.wf (OpenSpec.ofChange Rows.liveDeadSpec) = true := by kernel_rfl
theorem liveDead_k4 : Tryz.f10.params.all (Tryz.pinned.checked.prog.readableRec ·) = true := by kernel_rfl
theorem liveDead_k5 : namedTie Tryz.pinned.checked.prog Rows.liveDeadRow.named Rows.liveDeadSpec.vars = true := by kernel_rfl
theorem liveDead_k10 : (Rows.liveDeadRow.inPlace == Tryz.pinned.checked.prog.inPlace 10) = true := by kernel_rfl
theorem liveDead_k11 : (Rows.liveDeadRow.unfollowed == Tryz.pinned.checked.prog.unfollowed 10) = true := by kernel_rfl
theorem liveDead_k12 : (Rows.liveDeadRow.recurses == Tryz.pinned.checked.prog.recurses 10) = true := by kernel_rfl
theorem liveDead_k13 : (Rows.liveDeadRow.named == Tryz.pinned.checked.prog.varsNamed 10) = true := by kernel_rfl
end Go.Proofs.YtchkknkjhiaooaaGreatDoor.Vm
