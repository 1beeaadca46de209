/- A part of the proof: Eu. -/
import Derived.Test.YtnhfofmhkfdpgaaGreatDoorQd3
set_option linter.unusedVariables false
set_option linter.unusedSimpArgs false
set_option linter.constructorNameAsVariable false
namespace Go.Proofs.YtnhfofmhkfdpgaaGreatDoor.Vm
open Go Go.RowKit Go.ChangeShapes Go.WideShapes
theorem signsConsts_k1:Rows.signsConstsRow.wf (OpenSpec.ofChange Rows.signsConstsSpec)=true:=by kernel_rfl
theorem signsConsts_k4:Tryz.f6.params.all (Tryz.pinned.checked.prog.readableRec ·)=true:=by kernel_rfl
theorem signsConsts_k5:namedTie Tryz.pinned.checked.prog Rows.signsConstsRow.named Rows.signsConstsSpec.vars=true:=by kernel_rfl
theorem signsConsts_k10:(Rows.signsConstsRow.inPlace == Tryz.pinned.checked.prog.inPlace 6)=true:=by kernel_rfl
theorem signsConsts_k11:(Rows.signsConstsRow.unfollowed == Tryz.pinned.checked.prog.unfollowed 6)=true:=by kernel_rfl
theorem signsConsts_k12:(Rows.signsConstsRow.recurses == Tryz.pinned.checked.prog.recurses 6)=true:=by kernel_rfl
theorem signsConsts_k13:(Rows.signsConstsRow.named == Tryz.pinned.checked.prog.varsNamed 6)=true:=by kernel_rfl
end Go.Proofs.YtnhfofmhkfdpgaaGreatDoor.Vm
