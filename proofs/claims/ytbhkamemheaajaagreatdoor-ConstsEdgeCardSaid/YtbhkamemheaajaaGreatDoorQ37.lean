/- A part of the proof: BC. -/
import Derived.Test.YtbhkamemheaajaaGreatDoorQ36
set_option linter.unusedVariables false
set_option linter.unusedSimpArgs false
set_option linter.constructorNameAsVariable false
namespace Go.Proofs.YtbhkamemheaajaaGreatDoor.Vm
open Go Go.RowKit Go.ChangeShapes Go.WideShapes
theorem constsEdge_k1:Rows.constsEdgeRow.wf (OpenSpec.ofChange Rows.constsEdgeSpec)=true:=by kernel_rfl
theorem constsEdge_k4:Tryz.f7.params.all (Tryz.pinned.checked.prog.readableRec ·)=true:=by kernel_rfl
theorem constsEdge_k5:namedTie Tryz.pinned.checked.prog Rows.constsEdgeRow.named Rows.constsEdgeSpec.vars=true:=by kernel_rfl
theorem constsEdge_k10:(Rows.constsEdgeRow.inPlace == Tryz.pinned.checked.prog.inPlace 7)=true:=by kernel_rfl
theorem constsEdge_k11:(Rows.constsEdgeRow.unfollowed == Tryz.pinned.checked.prog.unfollowed 7)=true:=by kernel_rfl
theorem constsEdge_k12:(Rows.constsEdgeRow.recurses == Tryz.pinned.checked.prog.recurses 7)=true:=by kernel_rfl
theorem constsEdge_k13:(Rows.constsEdgeRow.named == Tryz.pinned.checked.prog.varsNamed 7)=true:=by kernel_rfl
end Go.Proofs.YtbhkamemheaajaaGreatDoor.Vm
