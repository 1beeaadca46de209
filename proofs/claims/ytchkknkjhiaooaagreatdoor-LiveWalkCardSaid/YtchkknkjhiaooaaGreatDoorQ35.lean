/- A part of the proof: Io. -/
import Derived.Test.YtchkknkjhiaooaaGreatDoorQ34
set_option linter.unusedVariables false
set_option linter.unusedSimpArgs false
set_option linter.constructorNameAsVariable false
namespace Go.Proofs.YtchkknkjhiaooaaGreatDoor.Vm
open Go Go.RowKit Go.ChangeShapes Go.WideShapes
theorem liveWalk_k14 : (Rows.liveWalkRow.maps == (Tryz.f4.params.toList ++ Rows.liveWalkSpec.plain.varTypes Tryz.pinned.checked.prog).any (Tryz.pinned.checked.prog.mapsRec ·)) = true := by kernel_rfl
theorem liveWalk_k15 : (Rows.liveWalkRow.ifaces == (Tryz.f4.params.toList ++ Rows.liveWalkSpec.plain.varTypes Tryz.pinned.checked.prog).any (Tryz.pinned.checked.prog.ifacesRec ·)) = true := by kernel_rfl
theorem liveWalk_k16 : (Rows.liveWalkRow.mapsOut == Tryz.pinned.checked.prog.mapsAmong Tryz.f4.resultTypes.toList) = true := by kernel_rfl
theorem liveWalk_k17 : (Rows.liveWalkRow.loops == (Tryz.f4.params.toList ++ Rows.liveWalkSpec.plain.varTypes Tryz.pinned.checked.prog).any (Tryz.pinned.checked.prog.loopsFrom ·)) = true := by kernel_rfl
theorem liveWalk_k17b : (Rows.liveWalkRow.wideKeys == (Tryz.f4.params.toList ++ Rows.liveWalkSpec.plain.varTypes Tryz.pinned.checked.prog ++ Tryz.f4.resultTypes.toList).any (Tryz.pinned.checked.prog.wideKeysFrom ·)) = true := by kernel_rfl
theorem liveWalk_k18 : Rows.liveWalkSpec.vars.all (Tryz.pinned.checked.prog.varReadable ·) = true := by kernel_rfl
theorem liveWalk_k19 : Tryz.f4.resultTypes.all (fun t => Tryz.pinned.checked.prog.readableRec t && decide (t < Tryz.pinned.checked.prog.types.size)) = true := by kernel_rfl
theorem liveWalk_k20 : (Rows.liveWalkRow.ifacesOut == Tryz.f4.resultTypes.toList.any (Tryz.pinned.checked.prog.ifacesRec ·)) = true := by kernel_rfl
theorem liveWalk_k21 : (Rows.liveWalkRow.loopsOut == Tryz.f4.resultTypes.toList.any (Tryz.pinned.checked.prog.loopsFrom ·)) = true := by kernel_rfl
theorem liveWalk_k22 : (Rows.liveWalkRow.plainKeys == Tryz.pinned.checked.prog.plainKeys) = true := by kernel_rfl
theorem liveWalk_k23 : Rows.liveWalkRow.shortTexts.isNone = true := by kernel_rfl
theorem liveWalk_k24b : (Rows.liveWalkRow.lifted == Tryz.pinned.checked.prog.liftsFinal) = true := by kernel_rfl
theorem liveWalk_k24c : (Tryz.pinned.checked.prog.make == some Rows.liveWalkRow.make) = true := by kernel_rfl
theorem liveWalk_k26 : (Rows.liveWalkRow.pinned == Rows.liveWalkRow.pinnedBy) = true := by kernel_rfl
theorem liveWalk_k27 : (Rows.liveWalkRow.veiled == (Tryz.f4.params.toList ++ Rows.liveWalkSpec.plain.varTypes Tryz.pinned.checked.prog ++ Tryz.f4.resultTypes.toList).any (Tryz.pinned.checked.prog.veiledRec ·)) = true := by kernel_rfl
theorem liveWalk_k28 : Rows.liveWalkRow.veiledFits Tryz.pinned.checked.prog Tryz.f4.params.toList (Tryz.f4.params.toList ++ Rows.liveWalkSpec.plain.varTypes Tryz.pinned.checked.prog ++ Tryz.f4.resultTypes.toList) = true := by kernel_rfl
end Go.Proofs.YtchkknkjhiaooaaGreatDoor.Vm
