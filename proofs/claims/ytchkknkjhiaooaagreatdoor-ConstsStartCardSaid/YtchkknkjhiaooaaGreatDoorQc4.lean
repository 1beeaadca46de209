/- A part of the proof: Jo. -/
import Derived.Test.YtchkknkjhiaooaaGreatDoorQc3
set_option linter.unusedVariables false
set_option linter.unusedSimpArgs false
set_option linter.constructorNameAsVariable false
namespace Go.Proofs.YtchkknkjhiaooaaGreatDoor.Vm
open Go Go.RowKit Go.ChangeShapes Go.WideShapes
theorem constsStart_k1 : Rows.constsStartRow.wf (OpenSpec.ofChange Rows.constsStartSpec) = true := by kernel_rfl
theorem constsStart_k4 : Tryz.f6.params.all (Tryz.pinned.checked.prog.readableRec ·) = true := by kernel_rfl
theorem constsStart_k5 : namedTie Tryz.pinned.checked.prog Rows.constsStartRow.named Rows.constsStartSpec.vars = true := by kernel_rfl
theorem constsStart_k10 : (Rows.constsStartRow.inPlace == Tryz.pinned.checked.prog.inPlace 6) = true := by kernel_rfl
theorem constsStart_k11 : (Rows.constsStartRow.unfollowed == Tryz.pinned.checked.prog.unfollowed 6) = true := by kernel_rfl
theorem constsStart_k12 : (Rows.constsStartRow.recurses == Tryz.pinned.checked.prog.recurses 6) = true := by kernel_rfl
theorem constsStart_k13 : (Rows.constsStartRow.named == Tryz.pinned.checked.prog.varsNamed 6) = true := by kernel_rfl
end Go.Proofs.YtchkknkjhiaooaaGreatDoor.Vm
