/- A part of the proof: In. -/
import Derived.Test.YtchkknkjhiaooaaGreatDoorQ33
set_option linter.unusedVariables false
set_option linter.unusedSimpArgs false
set_option linter.constructorNameAsVariable false
namespace Go.Proofs.YtchkknkjhiaooaaGreatDoor.Vm
open Go Go.RowKit Go.ChangeShapes Go.WideShapes
theorem liveWalk_k1 : Rows.liveWalkRow.wf (OpenSpec.ofChange Rows.liveWalkSpec) = true := by kernel_rfl
theorem liveWalk_k4 : Tryz.f4.params.all (Tryz.pinned.checked.prog.readableRec ·) = true := by kernel_rfl
theorem liveWalk_k5 : namedTie Tryz.pinned.checked.prog Rows.liveWalkRow.named Rows.liveWalkSpec.vars = true := by kernel_rfl
theorem liveWalk_k10 : (Rows.liveWalkRow.inPlace == Tryz.pinned.checked.prog.inPlace 4) = true := by kernel_rfl
theorem liveWalk_k11 : (Rows.liveWalkRow.unfollowed == Tryz.pinned.checked.prog.unfollowed 4) = true := by kernel_rfl
theorem liveWalk_k12 : (Rows.liveWalkRow.recurses == Tryz.pinned.checked.prog.recurses 4) = true := by kernel_rfl
theorem liveWalk_k13 : (Rows.liveWalkRow.named == Tryz.pinned.checked.prog.varsNamed 4) = true := by kernel_rfl
end Go.Proofs.YtchkknkjhiaooaaGreatDoor.Vm
