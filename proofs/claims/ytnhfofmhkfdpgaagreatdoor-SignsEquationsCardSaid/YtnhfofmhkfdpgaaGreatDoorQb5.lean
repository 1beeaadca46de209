/- A part of the proof: Ej. -/
import Derived.Test.YtnhfofmhkfdpgaaGreatDoorQb4
set_option linter.unusedVariables false
set_option linter.unusedSimpArgs false
set_option linter.constructorNameAsVariable false
namespace Go.Proofs.YtnhfofmhkfdpgaaGreatDoor.Vm
open Go Go.RowKit Go.ChangeShapes Go.WideShapes
theorem signsEquations_k14:(Rows.signsEquationsRow.maps == (Tryz.f4.params.toList ++ Rows.signsEquationsSpec.plain.varTypes Tryz.pinned.checked.prog).any (Tryz.pinned.checked.prog.mapsRec ·))=true:=by kernel_rfl
theorem signsEquations_k15:(Rows.signsEquationsRow.ifaces == (Tryz.f4.params.toList ++ Rows.signsEquationsSpec.plain.varTypes Tryz.pinned.checked.prog).any (Tryz.pinned.checked.prog.ifacesRec ·))=true:=by kernel_rfl
theorem signsEquations_k16:(Rows.signsEquationsRow.mapsOut == Tryz.pinned.checked.prog.mapsAmong Tryz.f4.resultTypes.toList)=true:=by kernel_rfl
theorem signsEquations_k17:(Rows.signsEquationsRow.loops == (Tryz.f4.params.toList ++ Rows.signsEquationsSpec.plain.varTypes Tryz.pinned.checked.prog).any (Tryz.pinned.checked.prog.loopsFrom ·))=true:=by kernel_rfl
theorem signsEquations_k17b:(Rows.signsEquationsRow.wideKeys == (Tryz.f4.params.toList ++ Rows.signsEquationsSpec.plain.varTypes Tryz.pinned.checked.prog ++ Tryz.f4.resultTypes.toList).any (Tryz.pinned.checked.prog.wideKeysFrom ·))=true:=by kernel_rfl
theorem signsEquations_k18:Rows.signsEquationsSpec.vars.all (Tryz.pinned.checked.prog.varReadable ·)=true:=by kernel_rfl
theorem signsEquations_k19:Tryz.f4.resultTypes.all (fun t=>Tryz.pinned.checked.prog.readableRec t && decide (t < Tryz.pinned.checked.prog.types.size))=true:=by kernel_rfl
theorem signsEquations_k20:(Rows.signsEquationsRow.ifacesOut == Tryz.f4.resultTypes.toList.any (Tryz.pinned.checked.prog.ifacesRec ·))=true:=by kernel_rfl
theorem signsEquations_k21:(Rows.signsEquationsRow.loopsOut == Tryz.f4.resultTypes.toList.any (Tryz.pinned.checked.prog.loopsFrom ·))=true:=by kernel_rfl
theorem signsEquations_k22:(Rows.signsEquationsRow.plainKeys == Tryz.pinned.checked.prog.plainKeys)=true:=by kernel_rfl
theorem signsEquations_k23:Rows.signsEquationsRow.shortTexts.isNone=true:=by kernel_rfl
theorem signsEquations_k24b:(Rows.signsEquationsRow.lifted == Tryz.pinned.checked.prog.liftsFinal)=true:=by kernel_rfl
theorem signsEquations_k24c:(Tryz.pinned.checked.prog.make == some Rows.signsEquationsRow.make)=true:=by kernel_rfl
theorem signsEquations_k26:(Rows.signsEquationsRow.pinned == Rows.signsEquationsRow.pinnedBy)=true:=by kernel_rfl
theorem signsEquations_k27:(Rows.signsEquationsRow.veiled == (Tryz.f4.params.toList ++ Rows.signsEquationsSpec.plain.varTypes Tryz.pinned.checked.prog ++ Tryz.f4.resultTypes.toList).any (Tryz.pinned.checked.prog.veiledRec ·))=true:=by kernel_rfl
theorem signsEquations_k28:Rows.signsEquationsRow.veiledFits Tryz.pinned.checked.prog Tryz.f4.params.toList (Tryz.f4.params.toList ++ Rows.signsEquationsSpec.plain.varTypes Tryz.pinned.checked.prog ++ Tryz.f4.resultTypes.toList)=true:=by kernel_rfl
end Go.Proofs.YtnhfofmhkfdpgaaGreatDoor.Vm
