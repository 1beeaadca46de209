/- A part of the proof: Bd. -/
import Derived.Test.YtbhkamemheaajaaGreatDoorQa4
set_option linter.unusedVariables false
set_option linter.unusedSimpArgs false
set_option linter.constructorNameAsVariable false
namespace Go.Proofs.YtbhkamemheaajaaGreatDoor.Vm
open Go Go.RowKit Go.ChangeShapes Go.WideShapes
theorem defsWalk_k14:(Rows.defsWalkRow.maps == (Tryz.f4.params.toList ++ Rows.defsWalkSpec.plain.varTypes Tryz.pinned.checked.prog).any (Tryz.pinned.checked.prog.mapsRec ·))=true:=by kernel_rfl
theorem defsWalk_k15:(Rows.defsWalkRow.ifaces == (Tryz.f4.params.toList ++ Rows.defsWalkSpec.plain.varTypes Tryz.pinned.checked.prog).any (Tryz.pinned.checked.prog.ifacesRec ·))=true:=by kernel_rfl
theorem defsWalk_k16:(Rows.defsWalkRow.mapsOut == Tryz.pinned.checked.prog.mapsAmong Tryz.f4.resultTypes.toList)=true:=by kernel_rfl
theorem defsWalk_k17:(Rows.defsWalkRow.loops == (Tryz.f4.params.toList ++ Rows.defsWalkSpec.plain.varTypes Tryz.pinned.checked.prog).any (Tryz.pinned.checked.prog.loopsFrom ·))=true:=by kernel_rfl
theorem defsWalk_k17b:(Rows.defsWalkRow.wideKeys == (Tryz.f4.params.toList ++ Rows.defsWalkSpec.plain.varTypes Tryz.pinned.checked.prog ++ Tryz.f4.resultTypes.toList).any (Tryz.pinned.checked.prog.wideKeysFrom ·))=true:=by kernel_rfl
theorem defsWalk_k18:Rows.defsWalkSpec.vars.all (Tryz.pinned.checked.prog.varReadable ·)=true:=by kernel_rfl
theorem defsWalk_k19:Tryz.f4.resultTypes.all (fun t=>Tryz.pinned.checked.prog.readableRec t && decide (t < Tryz.pinned.checked.prog.types.size))=true:=by kernel_rfl
theorem defsWalk_k20:(Rows.defsWalkRow.ifacesOut == Tryz.f4.resultTypes.toList.any (Tryz.pinned.checked.prog.ifacesRec ·))=true:=by kernel_rfl
theorem defsWalk_k21:(Rows.defsWalkRow.loopsOut == Tryz.f4.resultTypes.toList.any (Tryz.pinned.checked.prog.loopsFrom ·))=true:=by kernel_rfl
theorem defsWalk_k22:(Rows.defsWalkRow.plainKeys == Tryz.pinned.checked.prog.plainKeys)=true:=by kernel_rfl
theorem defsWalk_k23:Rows.defsWalkRow.shortTexts.isNone=true:=by kernel_rfl
theorem defsWalk_k24b:(Rows.defsWalkRow.lifted == Tryz.pinned.checked.prog.liftsFinal)=true:=by kernel_rfl
theorem defsWalk_k24c:(Tryz.pinned.checked.prog.make == some Rows.defsWalkRow.make)=true:=by kernel_rfl
theorem defsWalk_k26:(Rows.defsWalkRow.pinned == Rows.defsWalkRow.pinnedBy)=true:=by kernel_rfl
theorem defsWalk_k27:(Rows.defsWalkRow.veiled == (Tryz.f4.params.toList ++ Rows.defsWalkSpec.plain.varTypes Tryz.pinned.checked.prog ++ Tryz.f4.resultTypes.toList).any (Tryz.pinned.checked.prog.veiledRec ·))=true:=by kernel_rfl
theorem defsWalk_k28:Rows.defsWalkRow.veiledFits Tryz.pinned.checked.prog Tryz.f4.params.toList (Tryz.f4.params.toList ++ Rows.defsWalkSpec.plain.varTypes Tryz.pinned.checked.prog ++ Tryz.f4.resultTypes.toList)=true:=by kernel_rfl
end Go.Proofs.YtbhkamemheaajaaGreatDoor.Vm
