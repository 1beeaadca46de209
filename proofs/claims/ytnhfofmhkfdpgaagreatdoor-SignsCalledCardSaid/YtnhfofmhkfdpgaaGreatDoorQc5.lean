/- A part of the proof: Eo. -/
import Derived.Test.YtnhfofmhkfdpgaaGreatDoorQc4
set_option linter.unusedVariables false
set_option linter.unusedSimpArgs false
set_option linter.constructorNameAsVariable false
namespace Go.Proofs.YtnhfofmhkfdpgaaGreatDoor.Vm
open Go Go.RowKit Go.ChangeShapes Go.WideShapes
theorem signsCalled_k1:Rows.signsCalledRow.wf (OpenSpec.ofChange Rows.signsCalledSpec)=true:=by kernel_rfl
theorem signsCalled_k4:Tryz.f5.params.all (Tryz.pinned.checked.prog.readableRec ·)=true:=by kernel_rfl
theorem signsCalled_k5:namedTie Tryz.pinned.checked.prog Rows.signsCalledRow.named Rows.signsCalledSpec.vars=true:=by kernel_rfl
theorem signsCalled_k10:(Rows.signsCalledRow.inPlace == Tryz.pinned.checked.prog.inPlace 5)=true:=by kernel_rfl
theorem signsCalled_k11:(Rows.signsCalledRow.unfollowed == Tryz.pinned.checked.prog.unfollowed 5)=true:=by kernel_rfl
theorem signsCalled_k12:(Rows.signsCalledRow.recurses == Tryz.pinned.checked.prog.recurses 5)=true:=by kernel_rfl
theorem signsCalled_k13:(Rows.signsCalledRow.named == Tryz.pinned.checked.prog.varsNamed 5)=true:=by kernel_rfl
end Go.Proofs.YtnhfofmhkfdpgaaGreatDoor.Vm
