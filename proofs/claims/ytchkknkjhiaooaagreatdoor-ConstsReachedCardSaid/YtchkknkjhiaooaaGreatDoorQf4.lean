/- A part of the proof: Mi. -/
import Derived.Test.YtchkknkjhiaooaaGreatDoorQf3
set_option linter.unusedVariables false
set_option linter.unusedSimpArgs false
set_option linter.constructorNameAsVariable false
namespace Go.Proofs.YtchkknkjhiaooaaGreatDoor.Vm
open Go Go.RowKit Go.ChangeShapes Go.WideShapes
theorem constsReached_k1 : Rows.constsReachedRow.wf (OpenSpec.ofChange Rows.constsReachedSpec) = true := by kernel_rfl
theorem constsReached_k4 : Tryz.f11.params.all (Tryz.pinned.checked.prog.readableRec ·) = true := by kernel_rfl
theorem constsReached_k5 : namedTie Tryz.pinned.checked.prog Rows.constsReachedRow.named Rows.constsReachedSpec.vars = true := by kernel_rfl
theorem constsReached_k10 : (Rows.constsReachedRow.inPlace == Tryz.pinned.checked.prog.inPlace 11) = true := by kernel_rfl
theorem constsReached_k11 : (Rows.constsReachedRow.unfollowed == Tryz.pinned.checked.prog.unfollowed 11) = true := by kernel_rfl
theorem constsReached_k12 : (Rows.constsReachedRow.recurses == Tryz.pinned.checked.prog.recurses 11) = true := by kernel_rfl
theorem constsReached_k13 : (Rows.constsReachedRow.named == Tryz.pinned.checked.prog.varsNamed 11) = true := by kernel_rfl
end Go.Proofs.YtchkknkjhiaooaaGreatDoor.Vm
