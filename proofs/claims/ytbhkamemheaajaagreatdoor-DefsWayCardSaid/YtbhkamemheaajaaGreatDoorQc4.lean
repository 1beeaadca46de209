/- A part of the proof: Bo. -/
import Derived.Test.YtbhkamemheaajaaGreatDoorQc3
set_option linter.unusedVariables false
set_option linter.unusedSimpArgs false
set_option linter.constructorNameAsVariable false
namespace Go.Proofs.YtbhkamemheaajaaGreatDoor.Vm
open Go Go.RowKit Go.ChangeShapes Go.WideShapes
theorem defsWay_k1:Rows.defsWayRow.wf (OpenSpec.ofChange Rows.defsWaySpec)=true:=by kernel_rfl
theorem defsWay_k4:Tryz.f3.params.all (Tryz.pinned.checked.prog.readableRec ·)=true:=by kernel_rfl
theorem defsWay_k5:namedTie Tryz.pinned.checked.prog Rows.defsWayRow.named Rows.defsWaySpec.vars=true:=by kernel_rfl
theorem defsWay_k10:(Rows.defsWayRow.inPlace == Tryz.pinned.checked.prog.inPlace 3)=true:=by kernel_rfl
theorem defsWay_k11:(Rows.defsWayRow.unfollowed == Tryz.pinned.checked.prog.unfollowed 3)=true:=by kernel_rfl
theorem defsWay_k12:(Rows.defsWayRow.recurses == Tryz.pinned.checked.prog.recurses 3)=true:=by kernel_rfl
theorem defsWay_k13:(Rows.defsWayRow.named == Tryz.pinned.checked.prog.varsNamed 3)=true:=by kernel_rfl
end Go.Proofs.YtbhkamemheaajaaGreatDoor.Vm
