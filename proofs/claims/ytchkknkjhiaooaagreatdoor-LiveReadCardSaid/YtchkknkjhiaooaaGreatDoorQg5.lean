/- A part of the proof: Nd. -/
import Derived.Test.YtchkknkjhiaooaaGreatDoorQg4
set_option linter.unusedVariables false
set_option linter.unusedSimpArgs false
set_option linter.constructorNameAsVariable false
namespace Go.Proofs.YtchkknkjhiaooaaGreatDoor.Vm
open Go Go.RowKit Go.ChangeShapes Go.WideShapes
theorem liveRead_k14 : (Rows.liveReadRow.maps == (Tryz.f12.params.toList ++ Rows.liveReadSpec.plain.varTypes Tryz.pinned.checked.prog).any (Tryz.pinned.checked.prog.mapsRec ·)) = true := by kernel_rfl
theorem liveRead_k15 : (Rows.liveReadRow.ifaces == (Tryz.f12.params.toList ++ Rows.liveReadSpec.plain.varTypes Tryz.pinned.checked.prog).any (Tryz.pinned.checked.prog.ifacesRec ·)) = true := by kernel_rfl
theorem liveRead_k16 : (Rows.liveReadRow.mapsOut == Tryz.pinned.checked.prog.mapsAmong Tryz.f12.resultTypes.toList) = true := by kernel_rfl
theorem liveRead_k17 : (Rows.liveReadRow.loops == (Tryz.f12.params.toList ++ Rows.liveReadSpec.plain.varTypes Tryz.pinned.checked.prog).any (Tryz.pinned.checked.prog.loopsFrom ·)) = true := by kernel_rfl
theorem liveRead_k17b : (Rows.liveReadRow.wideKeys == (Tryz.f12.params.toList ++ Rows.liveReadSpec.plain.varTypes Tryz.pinned.checked.prog ++ Tryz.f12.resultTypes.toList).any (Tryz.pinned.checked.prog.wideKeysFrom ·)) = true := by kernel_rfl
theorem liveRead_k18 : Rows.liveReadSpec.vars.all (Tryz.pinned.checked.prog.varReadable ·) = true := by kernel_rfl
theorem liveRead_k19 : Tryz.f12.resultTypes.all (fun t => Tryz.pinned.checked.prog.readableRec t && decide (t < Tryz.pinned.checked.prog.types.size)) = true := by kernel_rfl
theorem liveRead_k20 : (Rows.liveReadRow.ifacesOut == Tryz.f12.resultTypes.toList.any (Tryz.pinned.checked.prog.ifacesRec ·)) = true := by kernel_rfl
theorem liveRead_k21 : (Rows.liveReadRow.loopsOut == Tryz.f12.resultTypes.toList.any (Tryz.pinned.checked.prog.loopsFrom ·)) = true := by kernel_rfl
theorem liveRead_k22 : (Rows.liveReadRow.plainKeys == Tryz.pinned.checked.prog.plainKeys) = true := by kernel_rfl
theorem liveRead_k23 : Rows.liveReadRow.shortTexts.isNone = true := by kernel_rfl
theorem liveRead_k24b : (Rows.liveReadRow.lifted == Tryz.pinned.checked.prog.liftsFinal) = true := by kernel_rfl
theorem liveRead_k24c : (Tryz.pinned.checked.prog.make == some Rows.liveReadRow.make) = true := by kernel_rfl
theorem liveRead_k26 : (Rows.liveReadRow.pinned == Rows.liveReadRow.pinnedBy) = true := by kernel_rfl
theorem liveRead_k27 : (Rows.liveReadRow.veiled == (Tryz.f12.params.toList ++ Rows.liveReadSpec.plain.varTypes Tryz.pinned.checked.prog ++ Tryz.f12.resultTypes.toList).any (Tryz.pinned.checked.prog.veiledRec ·)) = true := by kernel_rfl
theorem liveRead_k28 : Rows.liveReadRow.veiledFits Tryz.pinned.checked.prog Tryz.f12.params.toList (Tryz.f12.params.toList ++ Rows.liveReadSpec.plain.varTypes Tryz.pinned.checked.prog ++ Tryz.f12.resultTypes.toList) = true := by kernel_rfl
end Go.Proofs.YtchkknkjhiaooaaGreatDoor.Vm
