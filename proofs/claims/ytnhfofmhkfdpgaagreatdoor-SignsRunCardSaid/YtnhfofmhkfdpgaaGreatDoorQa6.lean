/- A part of the proof: Ed. -/
import Derived.Test.YtnhfofmhkfdpgaaGreatDoorQa5
set_option linter.unusedVariables false
set_option linter.unusedSimpArgs false
set_option linter.constructorNameAsVariable false
namespace Go.Proofs.YtnhfofmhkfdpgaaGreatDoor.Vm
open Go Go.RowKit Go.ChangeShapes Go.WideShapes
theorem signsRun_k14:(Rows.signsRunRow.maps == (Tryz.f3.params.toList ++ Rows.signsRunSpec.plain.varTypes Tryz.pinned.checked.prog).any (Tryz.pinned.checked.prog.mapsRec ·))=true:=by kernel_rfl
theorem signsRun_k15:(Rows.signsRunRow.ifaces == (Tryz.f3.params.toList ++ Rows.signsRunSpec.plain.varTypes Tryz.pinned.checked.prog).any (Tryz.pinned.checked.prog.ifacesRec ·))=true:=by kernel_rfl
theorem signsRun_k16:(Rows.signsRunRow.mapsOut == Tryz.pinned.checked.prog.mapsAmong Tryz.f3.resultTypes.toList)=true:=by kernel_rfl
theorem signsRun_k17:(Rows.signsRunRow.loops == (Tryz.f3.params.toList ++ Rows.signsRunSpec.plain.varTypes Tryz.pinned.checked.prog).any (Tryz.pinned.checked.prog.loopsFrom ·))=true:=by kernel_rfl
theorem signsRun_k17b:(Rows.signsRunRow.wideKeys == (Tryz.f3.params.toList ++ Rows.signsRunSpec.plain.varTypes Tryz.pinned.checked.prog ++ Tryz.f3.resultTypes.toList).any (Tryz.pinned.checked.prog.wideKeysFrom ·))=true:=by kernel_rfl
theorem signsRun_k18:Rows.signsRunSpec.vars.all (Tryz.pinned.checked.prog.varReadable ·)=true:=by kernel_rfl
theorem signsRun_k19:Tryz.f3.resultTypes.all (fun t=>Tryz.pinned.checked.prog.readableRec t && decide (t < Tryz.pinned.checked.prog.types.size))=true:=by kernel_rfl
theorem signsRun_k20:(Rows.signsRunRow.ifacesOut == Tryz.f3.resultTypes.toList.any (Tryz.pinned.checked.prog.ifacesRec ·))=true:=by kernel_rfl
theorem signsRun_k21:(Rows.signsRunRow.loopsOut == Tryz.f3.resultTypes.toList.any (Tryz.pinned.checked.prog.loopsFrom ·))=true:=by kernel_rfl
theorem signsRun_k22:(Rows.signsRunRow.plainKeys == Tryz.pinned.checked.prog.plainKeys)=true:=by kernel_rfl
theorem signsRun_k23:Rows.signsRunRow.shortTexts.isNone=true:=by kernel_rfl
theorem signsRun_k24b:(Rows.signsRunRow.lifted == Tryz.pinned.checked.prog.liftsFinal)=true:=by kernel_rfl
theorem signsRun_k24c:(Tryz.pinned.checked.prog.make == some Rows.signsRunRow.make)=true:=by kernel_rfl
theorem signsRun_k26:(Rows.signsRunRow.pinned == Rows.signsRunRow.pinnedBy)=true:=by kernel_rfl
theorem signsRun_k27:(Rows.signsRunRow.veiled == (Tryz.f3.params.toList ++ Rows.signsRunSpec.plain.varTypes Tryz.pinned.checked.prog ++ Tryz.f3.resultTypes.toList).any (Tryz.pinned.checked.prog.veiledRec ·))=true:=by kernel_rfl
theorem signsRun_k28:Rows.signsRunRow.veiledFits Tryz.pinned.checked.prog Tryz.f3.params.toList (Tryz.f3.params.toList ++ Rows.signsRunSpec.plain.varTypes Tryz.pinned.checked.prog ++ Tryz.f3.resultTypes.toList)=true:=by kernel_rfl
end Go.Proofs.YtnhfofmhkfdpgaaGreatDoor.Vm
