/- A part of the proof: Bv. -/
import Derived.Test.YtbhkamemheaajaaGreatDoorQd4
set_option linter.unusedVariables false
set_option linter.unusedSimpArgs false
set_option linter.constructorNameAsVariable false
namespace Go.Proofs.YtbhkamemheaajaaGreatDoor.Vm
open Go Go.RowKit Go.ChangeShapes Go.WideShapes
theorem defsOwn_k14:(Rows.defsOwnRow.maps == (Tryz.f6.params.toList ++ Rows.defsOwnSpec.plain.varTypes Tryz.pinned.checked.prog).any (Tryz.pinned.checked.prog.mapsRec ·))=true:=by kernel_rfl
theorem defsOwn_k15:(Rows.defsOwnRow.ifaces == (Tryz.f6.params.toList ++ Rows.defsOwnSpec.plain.varTypes Tryz.pinned.checked.prog).any (Tryz.pinned.checked.prog.ifacesRec ·))=true:=by kernel_rfl
theorem defsOwn_k16:(Rows.defsOwnRow.mapsOut == Tryz.pinned.checked.prog.mapsAmong Tryz.f6.resultTypes.toList)=true:=by kernel_rfl
theorem defsOwn_k17:(Rows.defsOwnRow.loops == (Tryz.f6.params.toList ++ Rows.defsOwnSpec.plain.varTypes Tryz.pinned.checked.prog).any (Tryz.pinned.checked.prog.loopsFrom ·))=true:=by kernel_rfl
theorem defsOwn_k17b:(Rows.defsOwnRow.wideKeys == (Tryz.f6.params.toList ++ Rows.defsOwnSpec.plain.varTypes Tryz.pinned.checked.prog ++ Tryz.f6.resultTypes.toList).any (Tryz.pinned.checked.prog.wideKeysFrom ·))=true:=by kernel_rfl
theorem defsOwn_k18:Rows.defsOwnSpec.vars.all (Tryz.pinned.checked.prog.varReadable ·)=true:=by kernel_rfl
theorem defsOwn_k19:Tryz.f6.resultTypes.all (fun t=>Tryz.pinned.checked.prog.readableRec t && decide (t < Tryz.pinned.checked.prog.types.size))=true:=by kernel_rfl
theorem defsOwn_k20:(Rows.defsOwnRow.ifacesOut == Tryz.f6.resultTypes.toList.any (Tryz.pinned.checked.prog.ifacesRec ·))=true:=by kernel_rfl
theorem defsOwn_k21:(Rows.defsOwnRow.loopsOut == Tryz.f6.resultTypes.toList.any (Tryz.pinned.checked.prog.loopsFrom ·))=true:=by kernel_rfl
theorem defsOwn_k22:(Rows.defsOwnRow.plainKeys == Tryz.pinned.checked.prog.plainKeys)=true:=by kernel_rfl
theorem defsOwn_k23:Rows.defsOwnRow.shortTexts.isNone=true:=by kernel_rfl
theorem defsOwn_k24b:(Rows.defsOwnRow.lifted == Tryz.pinned.checked.prog.liftsFinal)=true:=by kernel_rfl
theorem defsOwn_k24c:(Tryz.pinned.checked.prog.make == some Rows.defsOwnRow.make)=true:=by kernel_rfl
theorem defsOwn_k26:(Rows.defsOwnRow.pinned == Rows.defsOwnRow.pinnedBy)=true:=by kernel_rfl
theorem defsOwn_k27:(Rows.defsOwnRow.veiled == (Tryz.f6.params.toList ++ Rows.defsOwnSpec.plain.varTypes Tryz.pinned.checked.prog ++ Tryz.f6.resultTypes.toList).any (Tryz.pinned.checked.prog.veiledRec ·))=true:=by kernel_rfl
theorem defsOwn_k28:Rows.defsOwnRow.veiledFits Tryz.pinned.checked.prog Tryz.f6.params.toList (Tryz.f6.params.toList ++ Rows.defsOwnSpec.plain.varTypes Tryz.pinned.checked.prog ++ Tryz.f6.resultTypes.toList)=true:=by kernel_rfl
end Go.Proofs.YtbhkamemheaajaaGreatDoor.Vm
