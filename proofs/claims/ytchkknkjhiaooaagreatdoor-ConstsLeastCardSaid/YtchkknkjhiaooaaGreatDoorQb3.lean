/- A part of the proof: Ji. -/
import Derived.Test.YtchkknkjhiaooaaGreatDoorQb2
set_option linter.unusedVariables false
set_option linter.unusedSimpArgs false
set_option linter.constructorNameAsVariable false
namespace Go.Proofs.YtchkknkjhiaooaaGreatDoor.Vm
open Go Go.RowKit Go.ChangeShapes Go.WideShapes
theorem constsLeast_k1 : Rows.constsLeastRow.wf (OpenSpec.ofChange Rows.constsLeastSpec) = true := by kernel_rfl
theorem constsLeast_k4 : Tryz.f8.params.all (Tryz.pinned.checked.prog.readableRec ·) = true := by kernel_rfl
theorem constsLeast_k5 : namedTie Tryz.pinned.checked.prog Rows.constsLeastRow.named Rows.constsLeastSpec.vars = true := by kernel_rfl
theorem constsLeast_k10 : (Rows.constsLeastRow.inPlace == Tryz.pinned.checked.prog.inPlace 8) = true := by kernel_rfl
theorem constsLeast_k11 : (Rows.constsLeastRow.unfollowed == Tryz.pinned.checked.prog.unfollowed 8) = true := by kernel_rfl
theorem constsLeast_k12 : (Rows.constsLeastRow.recurses == Tryz.pinned.checked.prog.recurses 8) = true := by kernel_rfl
theorem constsLeast_k13 : (Rows.constsLeastRow.named == Tryz.pinned.checked.prog.varsNamed 8) = true := by kernel_rfl
end Go.Proofs.YtchkknkjhiaooaaGreatDoor.Vm
