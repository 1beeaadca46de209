/- A part of the proof: Ei. -/
import Derived.Test.YtnhfofmhkfdpgaaGreatDoorQb3
set_option linter.unusedVariables false
set_option linter.unusedSimpArgs false
set_option linter.constructorNameAsVariable false
namespace Go.Proofs.YtnhfofmhkfdpgaaGreatDoor.Vm
open Go Go.RowKit Go.ChangeShapes Go.WideShapes
theorem signsEquations_k1:Rows.signsEquationsRow.wf (OpenSpec.ofChange Rows.signsEquationsSpec)=true:=by kernel_rfl
theorem signsEquations_k4:Tryz.f4.params.all (Tryz.pinned.checked.prog.readableRec ·)=true:=by kernel_rfl
theorem signsEquations_k5:namedTie Tryz.pinned.checked.prog Rows.signsEquationsRow.named Rows.signsEquationsSpec.vars=true:=by kernel_rfl
theorem signsEquations_k10:(Rows.signsEquationsRow.inPlace == Tryz.pinned.checked.prog.inPlace 4)=true:=by kernel_rfl
theorem signsEquations_k11:(Rows.signsEquationsRow.unfollowed == Tryz.pinned.checked.prog.unfollowed 4)=true:=by kernel_rfl
theorem signsEquations_k12:(Rows.signsEquationsRow.recurses == Tryz.pinned.checked.prog.recurses 4)=true:=by kernel_rfl
theorem signsEquations_k13:(Rows.signsEquationsRow.named == Tryz.pinned.checked.prog.varsNamed 4)=true:=by kernel_rfl
end Go.Proofs.YtnhfofmhkfdpgaaGreatDoor.Vm
