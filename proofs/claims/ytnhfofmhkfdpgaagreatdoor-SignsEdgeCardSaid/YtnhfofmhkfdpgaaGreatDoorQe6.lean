/- A part of the proof: ED. -/
import Derived.Test.YtnhfofmhkfdpgaaGreatDoorQe5
set_option linter.unusedVariables false
set_option linter.unusedSimpArgs false
set_option linter.constructorNameAsVariable false
namespace Go.Proofs.YtnhfofmhkfdpgaaGreatDoor.Vm
open Go Go.RowKit Go.ChangeShapes Go.WideShapes
theorem signsEdge_k14:(Rows.signsEdgeRow.maps == (Tryz.f7.params.toList ++ Rows.signsEdgeSpec.plain.varTypes Tryz.pinned.checked.prog).any (Tryz.pinned.checked.prog.mapsRec ·))=true:=by kernel_rfl
theorem signsEdge_k15:(Rows.signsEdgeRow.ifaces == (Tryz.f7.params.toList ++ Rows.signsEdgeSpec.plain.varTypes Tryz.pinned.checked.prog).any (Tryz.pinned.checked.prog.ifacesRec ·))=true:=by kernel_rfl
theorem signsEdge_k16:(Rows.signsEdgeRow.mapsOut == Tryz.pinned.checked.prog.mapsAmong Tryz.f7.resultTypes.toList)=true:=by kernel_rfl
theorem signsEdge_k17:(Rows.signsEdgeRow.loops == (Tryz.f7.params.toList ++ Rows.signsEdgeSpec.plain.varTypes Tryz.pinned.checked.prog).any (Tryz.pinned.checked.prog.loopsFrom ·))=true:=by kernel_rfl
theorem signsEdge_k17b:(Rows.signsEdgeRow.wideKeys == (Tryz.f7.params.toList ++ Rows.signsEdgeSpec.plain.varTypes Tryz.pinned.checked.prog ++ Tryz.f7.resultTypes.toList).any (Tryz.pinned.checked.prog.wideKeysFrom ·))=true:=by kernel_rfl
theorem signsEdge_k18:Rows.signsEdgeSpec.vars.all (Tryz.pinned.checked.prog.varReadable ·)=true:=by kernel_rfl
theorem signsEdge_k19:Tryz.f7.resultTypes.all (fun t=>Tryz.pinned.checked.prog.readableRec t && decide (t < Tryz.pinned.checked.prog.types.size))=true:=by kernel_rfl
theorem signsEdge_k20:(Rows.signsEdgeRow.ifacesOut == Tryz.f7.resultTypes.toList.any (Tryz.pinned.checked.prog.ifacesRec ·))=true:=by kernel_rfl
theorem signsEdge_k21:(Rows.signsEdgeRow.loopsOut == Tryz.f7.resultTypes.toList.any (Tryz.pinned.checked.prog.loopsFrom ·))=true:=by kernel_rfl
theorem signsEdge_k22:(Rows.signsEdgeRow.plainKeys == Tryz.pinned.checked.prog.plainKeys)=true:=by kernel_rfl
theorem signsEdge_k23:Rows.signsEdgeRow.shortTexts.isNone=true:=by kernel_rfl
theorem signsEdge_k24b:(Rows.signsEdgeRow.lifted == Tryz.pinned.checked.prog.liftsFinal)=true:=by kernel_rfl
theorem signsEdge_k24c:(Tryz.pinned.checked.prog.make == some Rows.signsEdgeRow.make)=true:=by kernel_rfl
theorem signsEdge_k26:(Rows.signsEdgeRow.pinned == Rows.signsEdgeRow.pinnedBy)=true:=by kernel_rfl
theorem signsEdge_k27:(Rows.signsEdgeRow.veiled == (Tryz.f7.params.toList ++ Rows.signsEdgeSpec.plain.varTypes Tryz.pinned.checked.prog ++ Tryz.f7.resultTypes.toList).any (Tryz.pinned.checked.prog.veiledRec ·))=true:=by kernel_rfl
theorem signsEdge_k28:Rows.signsEdgeRow.veiledFits Tryz.pinned.checked.prog Tryz.f7.params.toList (Tryz.f7.params.toList ++ Rows.signsEdgeSpec.plain.varTypes Tryz.pinned.checked.prog ++ Tryz.f7.resultTypes.toList)=true:=by kernel_rfl
end Go.Proofs.YtnhfofmhkfdpgaaGreatDoor.Vm
