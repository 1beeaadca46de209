/- A part of the proof: Ec. -/
import Derived.Test.YtnhfofmhkfdpgaaGreatDoorQa4
set_option linter.unusedVariables false
set_option linter.unusedSimpArgs false
set_option linter.constructorNameAsVariable false
namespace Go.Proofs.YtnhfofmhkfdpgaaGreatDoor.Vm
open Go Go.RowKit Go.ChangeShapes Go.WideShapes
theorem signsRun_k1:Rows.signsRunRow.wf (OpenSpec.ofChange Rows.signsRunSpec)=true:=by kernel_rfl
theorem signsRun_k4:Tryz.f3.params.all (Tryz.pinned.checked.prog.readableRec ·)=true:=by kernel_rfl
theorem signsRun_k5:namedTie Tryz.pinned.checked.prog Rows.signsRunRow.named Rows.signsRunSpec.vars=true:=by kernel_rfl
theorem signsRun_k10:(Rows.signsRunRow.inPlace == Tryz.pinned.checked.prog.inPlace 3)=true:=by kernel_rfl
theorem signsRun_k11:(Rows.signsRunRow.unfollowed == Tryz.pinned.checked.prog.unfollowed 3)=true:=by kernel_rfl
theorem signsRun_k12:(Rows.signsRunRow.recurses == Tryz.pinned.checked.prog.recurses 3)=true:=by kernel_rfl
theorem signsRun_k13:(Rows.signsRunRow.named == Tryz.pinned.checked.prog.varsNamed 3)=true:=by kernel_rfl
end Go.Proofs.YtnhfofmhkfdpgaaGreatDoor.Vm
