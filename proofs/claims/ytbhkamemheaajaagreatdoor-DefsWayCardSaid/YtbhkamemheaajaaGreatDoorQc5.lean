/- A part of the proof: Bp. -/
import Derived.Test.YtbhkamemheaajaaGreatDoorQc4
set_option linter.unusedVariables false
set_option linter.unusedSimpArgs false
set_option linter.constructorNameAsVariable false
namespace Go.Proofs.YtbhkamemheaajaaGreatDoor.Vm
open Go Go.RowKit Go.ChangeShapes Go.WideShapes
theorem defsWay_k14:(Rows.defsWayRow.maps == (Tryz.f3.params.toList ++ Rows.defsWaySpec.plain.varTypes Tryz.pinned.checked.prog).any (Tryz.pinned.checked.prog.mapsRec ·))=true:=by kernel_rfl
theorem defsWay_k15:(Rows.defsWayRow.ifaces == (Tryz.f3.params.toList ++ Rows.defsWaySpec.plain.varTypes Tryz.pinned.checked.prog).any (Tryz.pinned.checked.prog.ifacesRec ·))=true:=by kernel_rfl
theorem defsWay_k16:(Rows.defsWayRow.mapsOut == Tryz.pinned.checked.prog.mapsAmong Tryz.f3.resultTypes.toList)=true:=by kernel_rfl
theorem defsWay_k17:(Rows.defsWayRow.loops == (Tryz.f3.params.toList ++ Rows.defsWaySpec.plain.varTypes Tryz.pinned.checked.prog).any (Tryz.pinned.checked.prog.loopsFrom ·))=true:=by kernel_rfl
theorem defsWay_k17b:(Rows.defsWayRow.wideKeys == (Tryz.f3.params.toList ++ Rows.defsWaySpec.plain.varTypes Tryz.pinned.checked.prog ++ Tryz.f3.resultTypes.toList).any (Tryz.pinned.checked.prog.wideKeysFrom ·))=true:=by kernel_rfl
theorem defsWay_k18:Rows.defsWaySpec.vars.all (Tryz.pinned.checked.prog.varReadable ·)=true:=by kernel_rfl
theorem defsWay_k19:Tryz.f3.resultTypes.all (fun t=>Tryz.pinned.checked.prog.readableRec t && decide (t < Tryz.pinned.checked.prog.types.size))=true:=by kernel_rfl
theorem defsWay_k20:(Rows.defsWayRow.ifacesOut == Tryz.f3.resultTypes.toList.any (Tryz.pinned.checked.prog.ifacesRec ·))=true:=by kernel_rfl
theorem defsWay_k21:(Rows.defsWayRow.loopsOut == Tryz.f3.resultTypes.toList.any (Tryz.pinned.checked.prog.loopsFrom ·))=true:=by kernel_rfl
theorem defsWay_k22:(Rows.defsWayRow.plainKeys == Tryz.pinned.checked.prog.plainKeys)=true:=by kernel_rfl
theorem defsWay_k23:Rows.defsWayRow.shortTexts.isNone=true:=by kernel_rfl
theorem defsWay_k24b:(Rows.defsWayRow.lifted == Tryz.pinned.checked.prog.liftsFinal)=true:=by kernel_rfl
theorem defsWay_k24c:(Tryz.pinned.checked.prog.make == some Rows.defsWayRow.make)=true:=by kernel_rfl
theorem defsWay_k26:(Rows.defsWayRow.pinned == Rows.defsWayRow.pinnedBy)=true:=by kernel_rfl
theorem defsWay_k27:(Rows.defsWayRow.veiled == (Tryz.f3.params.toList ++ Rows.defsWaySpec.plain.varTypes Tryz.pinned.checked.prog ++ Tryz.f3.resultTypes.toList).any (Tryz.pinned.checked.prog.veiledRec ·))=true:=by kernel_rfl
theorem defsWay_k28:Rows.defsWayRow.veiledFits Tryz.pinned.checked.prog Tryz.f3.params.toList (Tryz.f3.params.toList ++ Rows.defsWaySpec.plain.varTypes Tryz.pinned.checked.prog ++ Tryz.f3.resultTypes.toList)=true:=by kernel_rfl
end Go.Proofs.YtbhkamemheaajaaGreatDoor.Vm
