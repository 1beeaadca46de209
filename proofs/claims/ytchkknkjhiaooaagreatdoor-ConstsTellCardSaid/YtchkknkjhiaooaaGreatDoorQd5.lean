/- A part of the proof: Ju. -/
import Derived.Test.YtchkknkjhiaooaaGreatDoorQd4
set_option linter.unusedVariables false
set_option linter.unusedSimpArgs false
set_option linter.constructorNameAsVariable false
namespace Go.Proofs.YtchkknkjhiaooaaGreatDoor.Vm
open Go Go.RowKit Go.ChangeShapes Go.WideShapes
theorem constsTell_k1 : Rows.constsTellRow.wf (OpenSpec.ofChange Rows.constsTellSpec) = true := by kernel_rfl
theorem constsTell_k4 : Tryz.f7.params.all (Tryz.pinned.checked.prog.readableRec ·) = true := by kernel_rfl
theorem constsTell_k5 : namedTie Tryz.pinned.checked.prog Rows.constsTellRow.named Rows.constsTellSpec.vars = true := by kernel_rfl
theorem constsTell_k10 : (Rows.constsTellRow.inPlace == Tryz.pinned.checked.prog.inPlace 7) = true := by kernel_rfl
theorem constsTell_k11 : (Rows.constsTellRow.unfollowed == Tryz.pinned.checked.prog.unfollowed 7) = true := by kernel_rfl
theorem constsTell_k12 : (Rows.constsTellRow.recurses == Tryz.pinned.checked.prog.recurses 7) = true := by kernel_rfl
theorem constsTell_k13 : (Rows.constsTellRow.named == Tryz.pinned.checked.prog.varsNamed 7) = true := by kernel_rfl
end Go.Proofs.YtchkknkjhiaooaaGreatDoor.Vm
