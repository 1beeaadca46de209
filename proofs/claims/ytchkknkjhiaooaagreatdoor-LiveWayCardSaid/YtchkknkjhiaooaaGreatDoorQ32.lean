/- A part of the proof: Ig. -/
import Derived.Test.YtchkknkjhiaooaaGreatDoorQ31
namespace Go.Proofs.YtchkknkjhiaooaaGreatDoor.Vm
open Go Go.RowKit Go.ChangeShapes Go.WideShapes
set_option linter.constructorNameAsVariable false
theorem liveWay_k1 : Rows.liveWayRow.wf (OpenSpec.ofChange Rows.liveWaySpec) = true := by kernel_rfl
theorem liveWay_k4 : Tryz.f3.params.all (Tryz.pinned.checked.prog.readableRec ·) = true := by kernel_rfl
theorem liveWay_k5 : namedTie Tryz.pinned.checked.prog Rows.liveWayRow.named Rows.liveWaySpec.vars = true := by kernel_rfl
theorem liveWay_k10 : (Rows.liveWayRow.inPlace == Tryz.pinned.checked.prog.inPlace 3) = true := by kernel_rfl
theorem liveWay_k11 : (Rows.liveWayRow.unfollowed == Tryz.pinned.checked.prog.unfollowed 3) = true := by kernel_rfl
theorem liveWay_k12 : (Rows.liveWayRow.recurses == Tryz.pinned.checked.prog.recurses 3) = true := by kernel_rfl
theorem liveWay_k13 : (Rows.liveWayRow.named == Tryz.pinned.checked.prog.varsNamed 3) = true := by kernel_rfl
end Go.Proofs.YtchkknkjhiaooaaGreatDoor.Vm
