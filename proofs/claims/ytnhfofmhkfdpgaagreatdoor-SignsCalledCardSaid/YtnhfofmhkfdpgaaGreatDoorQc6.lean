/- A part of the proof: Ep. -/
import Derived.Test.YtnhfofmhkfdpgaaGreatDoorQc5
set_option linter.unusedVariables false
set_option linter.unusedSimpArgs false
set_option linter.constructorNameAsVariable false
namespace Go.Proofs.YtnhfofmhkfdpgaaGreatDoor.Vm
open Go Go.RowKit Go.ChangeShapes Go.WideShapes
theorem signsCalled_k14:(Rows.signsCalledRow.maps == (Tryz.f5.params.toList ++ Rows.signsCalledSpec.plain.varTypes Tryz.pinned.checked.prog).any (Tryz.pinned.checked.prog.mapsRec ·))=true:=by kernel_rfl
theorem signsCalled_k15:(Rows.signsCalledRow.ifaces == (Tryz.f5.params.toList ++ Rows.signsCalledSpec.plain.varTypes Tryz.pinned.checked.prog).any (Tryz.pinned.checked.prog.ifacesRec ·))=true:=by kernel_rfl
theorem signsCalled_k16:(Rows.signsCalledRow.mapsOut == Tryz.pinned.checked.prog.mapsAmong Tryz.f5.resultTypes.toList)=true:=by kernel_rfl
theorem signsCalled_k17:(Rows.signsCalledRow.loops == (Tryz.f5.params.toList ++ Rows.signsCalledSpec.plain.varTypes Tryz.pinned.checked.prog).any (Tryz.pinned.checked.prog.loopsFrom ·))=true:=by kernel_rfl
theorem signsCalled_k17b:(Rows.signsCalledRow.wideKeys == (Tryz.f5.params.toList ++ Rows.signsCalledSpec.plain.varTypes Tryz.pinned.checked.prog ++ Tryz.f5.resultTypes.toList).any (Tryz.pinned.checked.prog.wideKeysFrom ·))=true:=by kernel_rfl
theorem signsCalled_k18:Rows.signsCalledSpec.vars.all (Tryz.pinned.checked.prog.varReadable ·)=true:=by kernel_rfl
theorem signsCalled_k19:Tryz.f5.resultTypes.all (fun t=>Tryz.pinned.checked.prog.readableRec t && decide (t < Tryz.pinned.checked.prog.types.size))=true:=by kernel_rfl
theorem signsCalled_k20:(Rows.signsCalledRow.ifacesOut == Tryz.f5.resultTypes.toList.any (Tryz.pinned.checked.prog.ifacesRec ·))=true:=by kernel_rfl
theorem signsCalled_k21:(Rows.signsCalledRow.loopsOut == Tryz.f5.resultTypes.toList.any (Tryz.pinned.checked.prog.loopsFrom ·))=true:=by kernel_rfl
theorem signsCalled_k22:(Rows.signsCalledRow.plainKeys == Tryz.pinned.checked.prog.plainKeys)=true:=by kernel_rfl
theorem signsCalled_k23:Rows.signsCalledRow.shortTexts.isNone=true:=by kernel_rfl
theorem signsCalled_k24b:(Rows.signsCalledRow.lifted == Tryz.pinned.checked.prog.liftsFinal)=true:=by kernel_rfl
theorem signsCalled_k24c:(Tryz.pinned.checked.prog.make == some Rows.signsCalledRow.make)=true:=by kernel_rfl
theorem signsCalled_k26:(Rows.signsCalledRow.pinned == Rows.signsCalledRow.pinnedBy)=true:=by kernel_rfl
theorem signsCalled_k27:(Rows.signsCalledRow.veiled == (Tryz.f5.params.toList ++ Rows.signsCalledSpec.plain.varTypes Tryz.pinned.checked.prog ++ Tryz.f5.resultTypes.toList).any (Tryz.pinned.checked.prog.veiledRec ·))=true:=by kernel_rfl
theorem signsCalled_k28:Rows.signsCalledRow.veiledFits Tryz.pinned.checked.prog Tryz.f5.params.toList (Tryz.f5.params.toList ++ Rows.signsCalledSpec.plain.varTypes Tryz.pinned.checked.prog ++ Tryz.f5.resultTypes.toList)=true:=by kernel_rfl
end Go.Proofs.YtnhfofmhkfdpgaaGreatDoor.Vm
