/- A part of the proof: Nc. -/
import Derived.Test.YtchkknkjhiaooaaGreatDoorQg3
set_option linter.unusedVariables false
set_option linter.unusedSimpArgs false
set_option linter.constructorNameAsVariable false
namespace Go.Proofs.YtchkknkjhiaooaaGreatDoor.Vm
open Go Go.RowKit Go.ChangeShapes Go.WideShapes
theorem liveRead_k1 : Rows.liveReadRow.wf (OpenSpec.ofChange Rows.liveReadSpec) = true := by kernel_rfl
theorem liveRead_k4 : Tryz.f12.params.all (Tryz.pinned.checked.prog.readableRec ·) = true := by kernel_rfl
theorem liveRead_k5 : namedTie Tryz.pinned.checked.prog Rows.liveReadRow.named Rows.liveReadSpec.vars = true := by kernel_rfl
theorem liveRead_k10 : (Rows.liveReadRow.inPlace == Tryz.pinned.checked.prog.inPlace 12) = true := by kernel_rfl
theorem liveRead_k11 : (Rows.liveReadRow.unfollowed == Tryz.pinned.checked.prog.unfollowed 12) = true := by kernel_rfl
theorem liveRead_k12 : (Rows.liveReadRow.recurses == Tryz.pinned.checked.prog.recurses 12) = true := by kernel_rfl
theorem liveRead_k13 : (Rows.liveReadRow.named == Tryz.pinned.checked.prog.varsNamed 12) = true := by kernel_rfl
end Go.Proofs.YtchkknkjhiaooaaGreatDoor.Vm
