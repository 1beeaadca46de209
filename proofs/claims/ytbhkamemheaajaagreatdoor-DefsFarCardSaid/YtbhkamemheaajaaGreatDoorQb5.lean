/- A part of the proof: Bj. -/
import Derived.Test.YtbhkamemheaajaaGreatDoorQb4
set_option linter.unusedVariables false
set_option linter.unusedSimpArgs false
set_option linter.constructorNameAsVariable false
namespace Go.Proofs.YtbhkamemheaajaaGreatDoor.Vm
open Go Go.RowKit Go.ChangeShapes Go.WideShapes
theorem defsFar_k14:(Rows.defsFarRow.maps == (Tryz.f5.params.toList ++ Rows.defsFarSpec.plain.varTypes Tryz.pinned.checked.prog).any (Tryz.pinned.checked.prog.mapsRec ·))=true:=by kernel_rfl
theorem defsFar_k15:(Rows.defsFarRow.ifaces == (Tryz.f5.params.toList ++ Rows.defsFarSpec.plain.varTypes Tryz.pinned.checked.prog).any (Tryz.pinned.checked.prog.ifacesRec ·))=true:=by kernel_rfl
theorem defsFar_k16:(Rows.defsFarRow.mapsOut == Tryz.pinned.checked.prog.mapsAmong Tryz.f5.resultTypes.toList)=true:=by kernel_rfl
theorem defsFar_k17:(Rows.defsFarRow.loops == (Tryz.f5.params.toList ++ Rows.defsFarSpec.plain.varTypes Tryz.pinned.checked.prog).any (Tryz.pinned.checked.prog.loopsFrom ·))=true:=by kernel_rfl
theorem defsFar_k17b:(Rows.defsFarRow.wideKeys == (Tryz.f5.params.toList ++ Rows.defsFarSpec.plain.varTypes Tryz.pinned.checked.prog ++ Tryz.f5.resultTypes.toList).any (Tryz.pinned.checked.prog.wideKeysFrom ·))=true:=by kernel_rfl
theorem defsFar_k18:Rows.defsFarSpec.vars.all (Tryz.pinned.checked.prog.varReadable ·)=true:=by kernel_rfl
theorem defsFar_k19:Tryz.f5.resultTypes.all (fun t=>Tryz.pinned.checked.prog.readableRec t && decide (t < Tryz.pinned.checked.prog.types.size))=true:=by kernel_rfl
theorem defsFar_k20:(Rows.defsFarRow.ifacesOut == Tryz.f5.resultTypes.toList.any (Tryz.pinned.checked.prog.ifacesRec ·))=true:=by kernel_rfl
theorem defsFar_k21:(Rows.defsFarRow.loopsOut == Tryz.f5.resultTypes.toList.any (Tryz.pinned.checked.prog.loopsFrom ·))=true:=by kernel_rfl
theorem defsFar_k22:(Rows.defsFarRow.plainKeys == Tryz.pinned.checked.prog.plainKeys)=true:=by kernel_rfl
theorem defsFar_k23:Rows.defsFarRow.shortTexts.isNone=true:=by kernel_rfl
theorem defsFar_k24b:(Rows.defsFarRow.lifted == Tryz.pinned.checked.prog.liftsFinal)=true:=by kernel_rfl
theorem defsFar_k24c:(Tryz.pinned.checked.prog.make == some Rows.defsFarRow.make)=true:=by kernel_rfl
theorem defsFar_k26:(Rows.defsFarRow.pinned == Rows.defsFarRow.pinnedBy)=true:=by kernel_rfl
theorem defsFar_k27:(Rows.defsFarRow.veiled == (Tryz.f5.params.toList ++ Rows.defsFarSpec.plain.varTypes Tryz.pinned.checked.prog ++ Tryz.f5.resultTypes.toList).any (Tryz.pinned.checked.prog.veiledRec ·))=true:=by kernel_rfl
theorem defsFar_k28:Rows.defsFarRow.veiledFits Tryz.pinned.checked.prog Tryz.f5.params.toList (Tryz.f5.params.toList ++ Rows.defsFarSpec.plain.varTypes Tryz.pinned.checked.prog ++ Tryz.f5.resultTypes.toList)=true:=by kernel_rfl
end Go.Proofs.YtbhkamemheaajaaGreatDoor.Vm
