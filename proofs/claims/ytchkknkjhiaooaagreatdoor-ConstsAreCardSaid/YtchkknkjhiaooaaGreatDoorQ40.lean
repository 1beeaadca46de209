/- A part of the proof: Pd. -/
import Derived.Test.YtchkknkjhiaooaaGreatDoorQ39
set_option linter.unusedVariables false
set_option linter.unusedSimpArgs false
set_option linter.constructorNameAsVariable false
namespace Go.Proofs.YtchkknkjhiaooaaGreatDoor.Vm
open Go Go.RowKit Go.ChangeShapes Go.WideShapes
theorem constsAre_k14:(Rows.constsAreRow.maps == (Tryz.f5.params.toList ++ Rows.constsAreSpec.plain.varTypes Tryz.pinned.checked.prog).any (Tryz.pinned.checked.prog.mapsRec ·))=true:=by kernel_rfl
theorem constsAre_k15:(Rows.constsAreRow.ifaces == (Tryz.f5.params.toList ++ Rows.constsAreSpec.plain.varTypes Tryz.pinned.checked.prog).any (Tryz.pinned.checked.prog.ifacesRec ·))=true:=by kernel_rfl
theorem constsAre_k16:(Rows.constsAreRow.mapsOut == Tryz.pinned.checked.prog.mapsAmong Tryz.f5.resultTypes.toList)=true:=by kernel_rfl
theorem constsAre_k17:(Rows.constsAreRow.loops == (Tryz.f5.params.toList ++ Rows.constsAreSpec.plain.varTypes Tryz.pinned.checked.prog).any (Tryz.pinned.checked.prog.loopsFrom ·))=true:=by kernel_rfl
theorem constsAre_k17b:(Rows.constsAreRow.wideKeys == (Tryz.f5.params.toList ++ Rows.constsAreSpec.plain.varTypes Tryz.pinned.checked.prog ++ Tryz.f5.resultTypes.toList).any (Tryz.pinned.checked.prog.wideKeysFrom ·))=true:=by kernel_rfl
theorem constsAre_k18:Rows.constsAreSpec.vars.all (Tryz.pinned.checked.prog.varReadable ·)=true:=by kernel_rfl
theorem constsAre_k19:Tryz.f5.resultTypes.all (fun t=>Tryz.pinned.checked.prog.readableRec t && decide (t < Tryz.pinned.checked.prog.types.size))=true:=by kernel_rfl
theorem constsAre_k20:(Rows.constsAreRow.ifacesOut == Tryz.f5.resultTypes.toList.any (Tryz.pinned.checked.prog.ifacesRec ·))=true:=by kernel_rfl
theorem constsAre_k21:(Rows.constsAreRow.loopsOut == Tryz.f5.resultTypes.toList.any (Tryz.pinned.checked.prog.loopsFrom ·))=true:=by kernel_rfl
theorem constsAre_k22:(Rows.constsAreRow.plainKeys == Tryz.pinned.checked.prog.plainKeys)=true:=by kernel_rfl
theorem constsAre_k23:Rows.constsAreRow.shortTexts.isNone=true:=by kernel_rfl
theorem constsAre_k24b:(Rows.constsAreRow.lifted == Tryz.pinned.checked.prog.liftsFinal)=true:=by kernel_rfl
theorem constsAre_k24c:(Tryz.pinned.checked.prog.make == some Rows.constsAreRow.make)=true:=by kernel_rfl
theorem constsAre_k26:(Rows.constsAreRow.pinned == Rows.constsAreRow.pinnedBy)=true:=by kernel_rfl
theorem constsAre_k27:(Rows.constsAreRow.veiled == (Tryz.f5.params.toList ++ Rows.constsAreSpec.plain.varTypes Tryz.pinned.checked.prog ++ Tryz.f5.resultTypes.toList).any (Tryz.pinned.checked.prog.veiledRec ·))=true:=by kernel_rfl
theorem constsAre_k28:Rows.constsAreRow.veiledFits Tryz.pinned.checked.prog Tryz.f5.params.toList (Tryz.f5.params.toList ++ Rows.constsAreSpec.plain.varTypes Tryz.pinned.checked.prog ++ Tryz.f5.resultTypes.toList)=true:=by kernel_rfl
end Go.Proofs.YtchkknkjhiaooaaGreatDoor.Vm
