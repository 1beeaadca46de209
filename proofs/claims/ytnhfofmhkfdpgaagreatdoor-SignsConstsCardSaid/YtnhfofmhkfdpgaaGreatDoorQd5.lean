/- A part of the proof: Ev. -/
import Derived.Test.YtnhfofmhkfdpgaaGreatDoorQd4
set_option linter.unusedVariables false
set_option linter.unusedSimpArgs false
set_option linter.constructorNameAsVariable false
namespace Go.Proofs.YtnhfofmhkfdpgaaGreatDoor.Vm
open Go Go.RowKit Go.ChangeShapes Go.WideShapes
theorem signsConsts_k14:(Rows.signsConstsRow.maps == (Tryz.f6.params.toList ++ Rows.signsConstsSpec.plain.varTypes Tryz.pinned.checked.prog).any (Tryz.pinned.checked.prog.mapsRec ·))=true:=by kernel_rfl
theorem signsConsts_k15:(Rows.signsConstsRow.ifaces == (Tryz.f6.params.toList ++ Rows.signsConstsSpec.plain.varTypes Tryz.pinned.checked.prog).any (Tryz.pinned.checked.prog.ifacesRec ·))=true:=by kernel_rfl
theorem signsConsts_k16:(Rows.signsConstsRow.mapsOut == Tryz.pinned.checked.prog.mapsAmong Tryz.f6.resultTypes.toList)=true:=by kernel_rfl
theorem signsConsts_k17:(Rows.signsConstsRow.loops == (Tryz.f6.params.toList ++ Rows.signsConstsSpec.plain.varTypes Tryz.pinned.checked.prog).any (Tryz.pinned.checked.prog.loopsFrom ·))=true:=by kernel_rfl
theorem signsConsts_k17b:(Rows.signsConstsRow.wideKeys == (Tryz.f6.params.toList ++ Rows.signsConstsSpec.plain.varTypes Tryz.pinned.checked.prog ++ Tryz.f6.resultTypes.toList).any (Tryz.pinned.checked.prog.wideKeysFrom ·))=true:=by kernel_rfl
theorem signsConsts_k18:Rows.signsConstsSpec.vars.all (Tryz.pinned.checked.prog.varReadable ·)=true:=by kernel_rfl
theorem signsConsts_k19:Tryz.f6.resultTypes.all (fun t=>Tryz.pinned.checked.prog.readableRec t && decide (t < Tryz.pinned.checked.prog.types.size))=true:=by kernel_rfl
theorem signsConsts_k20:(Rows.signsConstsRow.ifacesOut == Tryz.f6.resultTypes.toList.any (Tryz.pinned.checked.prog.ifacesRec ·))=true:=by kernel_rfl
theorem signsConsts_k21:(Rows.signsConstsRow.loopsOut == Tryz.f6.resultTypes.toList.any (Tryz.pinned.checked.prog.loopsFrom ·))=true:=by kernel_rfl
theorem signsConsts_k22:(Rows.signsConstsRow.plainKeys == Tryz.pinned.checked.prog.plainKeys)=true:=by kernel_rfl
theorem signsConsts_k23:Rows.signsConstsRow.shortTexts.isNone=true:=by kernel_rfl
theorem signsConsts_k24b:(Rows.signsConstsRow.lifted == Tryz.pinned.checked.prog.liftsFinal)=true:=by kernel_rfl
theorem signsConsts_k24c:(Tryz.pinned.checked.prog.make == some Rows.signsConstsRow.make)=true:=by kernel_rfl
theorem signsConsts_k26:(Rows.signsConstsRow.pinned == Rows.signsConstsRow.pinnedBy)=true:=by kernel_rfl
theorem signsConsts_k27:(Rows.signsConstsRow.veiled == (Tryz.f6.params.toList ++ Rows.signsConstsSpec.plain.varTypes Tryz.pinned.checked.prog ++ Tryz.f6.resultTypes.toList).any (Tryz.pinned.checked.prog.veiledRec ·))=true:=by kernel_rfl
theorem signsConsts_k28:Rows.signsConstsRow.veiledFits Tryz.pinned.checked.prog Tryz.f6.params.toList (Tryz.f6.params.toList ++ Rows.signsConstsSpec.plain.varTypes Tryz.pinned.checked.prog ++ Tryz.f6.resultTypes.toList)=true:=by kernel_rfl
end Go.Proofs.YtnhfofmhkfdpgaaGreatDoor.Vm
