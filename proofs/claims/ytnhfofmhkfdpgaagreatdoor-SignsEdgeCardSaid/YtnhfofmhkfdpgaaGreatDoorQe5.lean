/- A part of the proof: EC. -/
import Derived.Test.YtnhfofmhkfdpgaaGreatDoorQe4
set_option linter.unusedVariables false
set_option linter.unusedSimpArgs false
set_option linter.constructorNameAsVariable false
namespace Go.Proofs.YtnhfofmhkfdpgaaGreatDoor.Vm
open Go Go.RowKit Go.ChangeShapes Go.WideShapes
theorem signsEdge_k1:Rows.signsEdgeRow.wf (OpenSpec.ofChange Rows.signsEdgeSpec)=true:=by kernel_rfl
theorem signsEdge_k4:Tryz.f7.params.all (Tryz.pinned.checked.prog.readableRec ·)=true:=by kernel_rfl
theorem signsEdge_k5:namedTie Tryz.pinned.checked.prog Rows.signsEdgeRow.named Rows.signsEdgeSpec.vars=true:=by kernel_rfl
theorem signsEdge_k10:(Rows.signsEdgeRow.inPlace == Tryz.pinned.checked.prog.inPlace 7)=true:=by kernel_rfl
theorem signsEdge_k11:(Rows.signsEdgeRow.unfollowed == Tryz.pinned.checked.prog.unfollowed 7)=true:=by kernel_rfl
theorem signsEdge_k12:(Rows.signsEdgeRow.recurses == Tryz.pinned.checked.prog.recurses 7)=true:=by kernel_rfl
theorem signsEdge_k13:(Rows.signsEdgeRow.named == Tryz.pinned.checked.prog.varsNamed 7)=true:=by kernel_rfl
end Go.Proofs.YtnhfofmhkfdpgaaGreatDoor.Vm
