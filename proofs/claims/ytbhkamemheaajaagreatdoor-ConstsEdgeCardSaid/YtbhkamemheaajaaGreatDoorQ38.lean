/- A part of the proof: BD. -/
import Derived.Test.YtbhkamemheaajaaGreatDoorQ37
set_option linter.unusedVariables false
set_option linter.unusedSimpArgs false
set_option linter.constructorNameAsVariable false
namespace Go.Proofs.YtbhkamemheaajaaGreatDoor.Vm
open Go Go.RowKit Go.ChangeShapes Go.WideShapes
theorem constsEdge_k14:(Rows.constsEdgeRow.maps == (Tryz.f7.params.toList ++ Rows.constsEdgeSpec.plain.varTypes Tryz.pinned.checked.prog).any (Tryz.pinned.checked.prog.mapsRec ·))=true:=by kernel_rfl
theorem constsEdge_k15:(Rows.constsEdgeRow.ifaces == (Tryz.f7.params.toList ++ Rows.constsEdgeSpec.plain.varTypes Tryz.pinned.checked.prog).any (Tryz.pinned.checked.prog.ifacesRec ·))=true:=by kernel_rfl
theorem constsEdge_k16:(Rows.constsEdgeRow.mapsOut == Tryz.pinned.checked.prog.mapsAmong Tryz.f7.resultTypes.toList)=true:=by kernel_rfl
theorem constsEdge_k17:(Rows.constsEdgeRow.loops == (Tryz.f7.params.toList ++ Rows.constsEdgeSpec.plain.varTypes Tryz.pinned.checked.prog).any (Tryz.pinned.checked.prog.loopsFrom ·))=true:=by kernel_rfl
theorem constsEdge_k17b:(Rows.constsEdgeRow.wideKeys == (Tryz.f7.params.toList ++ Rows.constsEdgeSpec.plain.varTypes Tryz.pinned.checked.prog ++ Tryz.f7.resultTypes.toList).any (Tryz.pinned.checked.prog.wideKeysFrom ·))=true:=by kernel_rfl
theorem constsEdge_k18:Rows.constsEdgeSpec.vars.all (Tryz.pinned.checked.prog.varReadable ·)=true:=by kernel_rfl
theorem constsEdge_k19:Tryz.f7.resultTypes.all (fun t=>Tryz.pinned.checked.prog.readableRec t && decide (t < Tryz.pinned.checked.prog.types.size))=true:=by kernel_rfl
theorem constsEdge_k20:(Rows.constsEdgeRow.ifacesOut == Tryz.f7.resultTypes.toList.any (Tryz.pinned.checked.prog.ifacesRec ·))=true:=by kernel_rfl
theorem constsEdge_k21:(Rows.constsEdgeRow.loopsOut == Tryz.f7.resultTypes.toList.any (Tryz.pinned.checked.prog.loopsFrom ·))=true:=by kernel_rfl
theorem constsEdge_k22:(Rows.constsEdgeRow.plainKeys == Tryz.pinned.checked.prog.plainKeys)=true:=by kernel_rfl
theorem constsEdge_k23:Rows.constsEdgeRow.shortTexts.isNone=true:=by kernel_rfl
theorem constsEdge_k24b:(Rows.constsEdgeRow.lifted == Tryz.pinned.checked.prog.liftsFinal)=true:=by kernel_rfl
theorem constsEdge_k24c:(Tryz.pinned.checked.prog.make == some Rows.constsEdgeRow.make)=true:=by kernel_rfl
theorem constsEdge_k26:(Rows.constsEdgeRow.pinned == Rows.constsEdgeRow.pinnedBy)=true:=by kernel_rfl
theorem constsEdge_k27:(Rows.constsEdgeRow.veiled == (Tryz.f7.params.toList ++ Rows.constsEdgeSpec.plain.varTypes Tryz.pinned.checked.prog ++ Tryz.f7.resultTypes.toList).any (Tryz.pinned.checked.prog.veiledRec ·))=true:=by kernel_rfl
theorem constsEdge_k28:Rows.constsEdgeRow.veiledFits Tryz.pinned.checked.prog Tryz.f7.params.toList (Tryz.f7.params.toList ++ Rows.constsEdgeSpec.plain.varTypes Tryz.pinned.checked.prog ++ Tryz.f7.resultTypes.toList)=true:=by kernel_rfl
end Go.Proofs.YtbhkamemheaajaaGreatDoor.Vm
