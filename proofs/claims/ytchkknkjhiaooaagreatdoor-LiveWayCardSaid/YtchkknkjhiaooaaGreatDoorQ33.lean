/- A part of the proof: Ih. -/
import Derived.Test.YtchkknkjhiaooaaGreatDoorQ32
namespace Go.Proofs.YtchkknkjhiaooaaGreatDoor.Vm
open Go Go.RowKit Go.ChangeShapes Go.WideShapes
set_option linter.constructorNameAsVariable false
theorem liveWay_k14 : (Rows.liveWayRow.maps == (Tryz.f3.params.toList ++ Rows.liveWaySpec.plain.varTypes Tryz.pinned.checked.prog).any (Tryz.pinned.checked.prog.mapsRec ·)) = true := by kernel_rfl
theorem liveWay_k15 : (Rows.liveWayRow.ifaces == (Tryz.f3.params.toList ++ Rows.liveWaySpec.plain.varTypes Tryz.pinned.checked.prog).any (Tryz.pinned.checked.prog.ifacesRec ·)) = true := by kernel_rfl
theorem liveWay_k16 : (Rows.liveWayRow.mapsOut == Tryz.pinned.checked.prog.mapsAmong Tryz.f3.resultTypes.toList) = true := by kernel_rfl
theorem liveWay_k17 : (Rows.liveWayRow.loops == (Tryz.f3.params.toList ++ Rows.liveWaySpec.plain.varTypes Tryz.pinned.checked.prog).any (Tryz.pinned.checked.prog.loopsFrom ·)) = true := by kernel_rfl
theorem liveWay_k17b : (Rows.liveWayRow.wideKeys == (Tryz.f3.params.toList ++ Rows.liveWaySpec.plain.varTypes Tryz.pinned.checked.prog ++ Tryz.f3.resultTypes.toList).any (Tryz.pinned.checked.prog.wideKeysFrom ·)) = true := by kernel_rfl
theorem liveWay_k18 : Rows.liveWaySpec.vars.all (Tryz.pinned.checked.prog.varReadable ·) = true := by kernel_rfl
theorem liveWay_k19 : Tryz.f3.resultTypes.all (fun t => Tryz.pinned.checked.prog.readableRec t && decide (t < Tryz.pinned.checked.prog.types.size)) = true := by kernel_rfl
theorem liveWay_k20 : (Rows.liveWayRow.ifacesOut == Tryz.f3.resultTypes.toList.any (Tryz.pinned.checked.prog.ifacesRec ·)) = true := by kernel_rfl
theorem liveWay_k21 : (Rows.liveWayRow.loopsOut == Tryz.f3.resultTypes.toList.any (Tryz.pinned.checked.prog.loopsFrom ·)) = true := by kernel_rfl
theorem liveWay_k22 : (Rows.liveWayRow.plainKeys == Tryz.pinned.checked.prog.plainKeys) = true := by kernel_rfl
theorem liveWay_k23 : Rows.liveWayRow.shortTexts.isNone = true := by kernel_rfl
theorem liveWay_k24b : (Rows.liveWayRow.lifted == Tryz.pinned.checked.prog.liftsFinal) = true := by kernel_rfl
theorem liveWay_k24c : (Tryz.pinned.checked.prog.make == some Rows.liveWayRow.make) = true := by kernel_rfl
theorem liveWay_k26 : (Rows.liveWayRow.pinned == Rows.liveWayRow.pinnedBy) = true := by kernel_rfl
theorem liveWay_k27 : (Rows.liveWayRow.veiled == (Tryz.f3.params.toList ++ Rows.liveWaySpec.plain.varTypes Tryz.pinned.checked.prog ++ Tryz.f3.resultTypes.toList).any (Tryz.pinned.checked.prog.veiledRec ·)) = true := by kernel_rfl
theorem liveWay_k28 : Rows.liveWayRow.veiledFits Tryz.pinned.checked.prog Tryz.f3.params.toList (Tryz.f3.params.toList ++ Rows.liveWaySpec.plain.varTypes Tryz.pinned.checked.prog ++ Tryz.f3.resultTypes.toList) = true := by kernel_rfl
end Go.Proofs.YtchkknkjhiaooaaGreatDoor.Vm
