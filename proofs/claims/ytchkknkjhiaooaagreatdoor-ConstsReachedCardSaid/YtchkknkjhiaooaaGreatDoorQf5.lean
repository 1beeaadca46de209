/- A part of the proof: Mj. -/
import Derived.Test.YtchkknkjhiaooaaGreatDoorQf4
set_option linter.unusedVariables false
set_option linter.unusedSimpArgs false
set_option linter.constructorNameAsVariable false
namespace Go.Proofs.YtchkknkjhiaooaaGreatDoor.Vm
open Go Go.RowKit Go.ChangeShapes Go.WideShapes
theorem constsReached_k14 : (Rows.constsReachedRow.maps == (Tryz.f11.params.toList ++ Rows.constsReachedSpec.plain.varTypes Tryz.pinned.checked.prog).any (Tryz.pinned.checked.prog.mapsRec ·)) = true := by kernel_rfl
theorem constsReached_k15 : (Rows.constsReachedRow.ifaces == (Tryz.f11.params.toList ++ Rows.constsReachedSpec.plain.varTypes Tryz.pinned.checked.prog).any (Tryz.pinned.checked.prog.ifacesRec ·)) = true := by kernel_rfl
theorem constsReached_k16 : (Rows.constsReachedRow.mapsOut == Tryz.pinned.checked.prog.mapsAmong Tryz.f11.resultTypes.toList) = true := by kernel_rfl
theorem constsReached_k17 : (Rows.constsReachedRow.loops == (Tryz.f11.params.toList ++ Rows.constsReachedSpec.plain.varTypes Tryz.pinned.checked.prog).any (Tryz.pinned.checked.prog.loopsFrom ·)) = true := by kernel_rfl
theorem constsReached_k17b : (Rows.constsReachedRow.wideKeys == (Tryz.f11.params.toList ++ Rows.constsReachedSpec.plain.varTypes Tryz.pinned.checked.prog ++ Tryz.f11.resultTypes.toList).any (Tryz.pinned.checked.prog.wideKeysFrom ·)) = true := by kernel_rfl
theorem constsReached_k18 : Rows.constsReachedSpec.vars.all (Tryz.pinned.checked.prog.varReadable ·) = true := by kernel_rfl
theorem constsReached_k19 : Tryz.f11.resultTypes.all (fun t => Tryz.pinned.checked.prog.readableRec t && decide (t < Tryz.pinned.checked.prog.types.size)) = true := by kernel_rfl
theorem constsReached_k20 : (Rows.constsReachedRow.ifacesOut == Tryz.f11.resultTypes.toList.any (Tryz.pinned.checked.prog.ifacesRec ·)) = true := by kernel_rfl
theorem constsReached_k21 : (Rows.constsReachedRow.loopsOut == Tryz.f11.resultTypes.toList.any (Tryz.pinned.checked.prog.loopsFrom ·)) = true := by kernel_rfl
theorem constsReached_k22 : (Rows.constsReachedRow.plainKeys == Tryz.pinned.checked.prog.plainKeys) = true := by kernel_rfl
theorem constsReached_k23 : Rows.constsReachedRow.shortTexts.isNone = true := by kernel_rfl
theorem constsReached_k24b : (Rows.constsReachedRow.lifted == Tryz.pinned.checked.prog.liftsFinal) = true := by kernel_rfl
theorem constsReached_k24c : (Tryz.pinned.checked.prog.make == some Rows.constsReachedRow.make) = true := by kernel_rfl
theorem constsReached_k26 : (Rows.constsReachedRow.pinned == Rows.constsReachedRow.pinnedBy) = true := by kernel_rfl
theorem constsReached_k27 : (Rows.constsReachedRow.veiled == (Tryz.f11.params.toList ++ Rows.constsReachedSpec.plain.varTypes Tryz.pinned.checked.prog ++ Tryz.f11.resultTypes.toList).any (Tryz.pinned.checked.prog.veiledRec ·)) = true := by kernel_rfl
theorem constsReached_k28 : Rows.constsReachedRow.veiledFits Tryz.pinned.checked.prog Tryz.f11.params.toList (Tryz.f11.params.toList ++ Rows.constsReachedSpec.plain.varTypes Tryz.pinned.checked.prog ++ Tryz.f11.resultTypes.toList) = true := by kernel_rfl
end Go.Proofs.YtchkknkjhiaooaaGreatDoor.Vm
