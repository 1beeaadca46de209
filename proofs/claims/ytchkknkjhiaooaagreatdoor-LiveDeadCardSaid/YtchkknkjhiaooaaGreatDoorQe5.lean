/- A part of the proof: Md. -/
import Derived.Test.YtchkknkjhiaooaaGreatDoorQe4
set_option linter.unusedVariables false
set_option linter.unusedSimpArgs false
set_option linter.constructorNameAsVariable false
namespace Go.Proofs.YtchkknkjhiaooaaGreatDoor.Vm
open Go Go.RowKit Go.ChangeShapes Go.WideShapes
theorem liveDead_k14 : (Rows.liveDeadRow.maps == (Tryz.f10.params.toList ++ Rows.liveDeadSpec.plain.varTypes Tryz.pinned.checked.prog).any (Tryz.pinned.checked.prog.mapsRec ·)) = true := by kernel_rfl
theorem liveDead_k15 : (Rows.liveDeadRow.ifaces == (Tryz.f10.params.toList ++ Rows.liveDeadSpec.plain.varTypes Tryz.pinned.checked.prog).any (Tryz.pinned.checked.prog.ifacesRec ·)) = true := by kernel_rfl
theorem liveDead_k16 : (Rows.liveDeadRow.mapsOut == Tryz.pinned.checked.prog.mapsAmong Tryz.f10.resultTypes.toList) = true := by kernel_rfl
theorem liveDead_k17 : (Rows.liveDeadRow.loops == (Tryz.f10.params.toList ++ Rows.liveDeadSpec.plain.varTypes Tryz.pinned.checked.prog).any (Tryz.pinned.checked.prog.loopsFrom ·)) = true := by kernel_rfl
theorem liveDead_k17b : (Rows.liveDeadRow.wideKeys == (Tryz.f10.params.toList ++ Rows.liveDeadSpec.plain.varTypes Tryz.pinned.checked.prog ++ Tryz.f10.resultTypes.toList).any (Tryz.pinned.checked.prog.wideKeysFrom ·)) = true := by kernel_rfl
theorem liveDead_k18 : Rows.liveDeadSpec.vars.all (Tryz.pinned.checked.prog.varReadable ·) = true := by kernel_rfl
theorem liveDead_k19 : Tryz.f10.resultTypes.all (fun t => Tryz.pinned.checked.prog.readableRec t && decide (t < Tryz.pinned.checked.prog.types.size)) = true := by kernel_rfl
theorem liveDead_k20 : (Rows.liveDeadRow.ifacesOut == Tryz.f10.resultTypes.toList.any (Tryz.pinned.checked.prog.ifacesRec ·)) = true := by kernel_rfl
theorem liveDead_k21 : (Rows.liveDeadRow.loopsOut == Tryz.f10.resultTypes.toList.any (Tryz.pinned.checked.prog.loopsFrom ·)) = true := by kernel_rfl
theorem liveDead_k22 : (Rows.liveDeadRow.plainKeys == Tryz.pinned.checked.prog.plainKeys) = true := by kernel_rfl
theorem liveDead_k23 : Rows.liveDeadRow.shortTexts.isNone = true := by kernel_rfl
theorem liveDead_k24b : (Rows.liveDeadRow.lifted == Tryz.pinned.checked.prog.liftsFinal) = true := by kernel_rfl
theorem liveDead_k24c : (Tryz.pinned.checked.prog.make == some Rows.liveDeadRow.make) = true := by kernel_rfl
theorem liveDead_k26 : (Rows.liveDeadRow.pinned == Rows.liveDeadRow.pinnedBy) = true := by kernel_rfl
theorem liveDead_k27 : (Rows.liveDeadRow.veiled == (Tryz.f10.params.toList ++ Rows.liveDeadSpec.plain.varTypes Tryz.pinned.checked.prog ++ Tryz.f10.resultTypes.toList).any (Tryz.pinned.checked.prog.veiledRec ·)) = true := by kernel_rfl
theorem liveDead_k28 : Rows.liveDeadRow.veiledFits Tryz.pinned.checked.prog Tryz.f10.params.toList (Tryz.f10.params.toList ++ Rows.liveDeadSpec.plain.varTypes Tryz.pinned.checked.prog ++ Tryz.f10.resultTypes.toList) = true := by kernel_rfl
end Go.Proofs.YtchkknkjhiaooaaGreatDoor.Vm
