/- A part of the proof: Bc. -/
import Derived.Test.YtbhkamemheaajaaGreatDoorQa3
set_option linter.unusedVariables false
set_option linter.unusedSimpArgs false
set_option linter.constructorNameAsVariable false
namespace Go.Proofs.YtbhkamemheaajaaGreatDoor.Vm
open Go Go.RowKit Go.ChangeShapes Go.WideShapes
theorem defsWalk_k1:Rows.defsWalkRow.wf (OpenSpec.ofChange Rows.defsWalkSpec)=true:=by kernel_rfl
theorem defsWalk_k4:Tryz.f4.params.all (Tryz.pinned.checked.prog.readableRec ·)=true:=by kernel_rfl
theorem defsWalk_k5:namedTie Tryz.pinned.checked.prog Rows.defsWalkRow.named Rows.defsWalkSpec.vars=true:=by kernel_rfl
theorem defsWalk_k10:(Rows.defsWalkRow.inPlace == Tryz.pinned.checked.prog.inPlace 4)=true:=by kernel_rfl
theorem defsWalk_k11:(Rows.defsWalkRow.unfollowed == Tryz.pinned.checked.prog.unfollowed 4)=true:=by kernel_rfl
theorem defsWalk_k12:(Rows.defsWalkRow.recurses == Tryz.pinned.checked.prog.recurses 4)=true:=by kernel_rfl
theorem defsWalk_k13:(Rows.defsWalkRow.named == Tryz.pinned.checked.prog.varsNamed 4)=true:=by kernel_rfl
end Go.Proofs.YtbhkamemheaajaaGreatDoor.Vm
