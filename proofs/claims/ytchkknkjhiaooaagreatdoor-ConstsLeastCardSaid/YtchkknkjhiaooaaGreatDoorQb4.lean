/- A part of the proof: Jj. -/
import Derived.Test.YtchkknkjhiaooaaGreatDoorQb3
set_option linter.unusedVariables false
set_option linter.unusedSimpArgs false
set_option linter.constructorNameAsVariable false
namespace Go.Proofs.YtchkknkjhiaooaaGreatDoor.Vm
open Go Go.RowKit Go.ChangeShapes Go.WideShapes
theorem constsLeast_k14 : (Rows.constsLeastRow.maps == (Tryz.f8.params.toList ++ Rows.constsLeastSpec.plain.varTypes Tryz.pinned.checked.prog).any (Tryz.pinned.checked.prog.mapsRec ·)) = true := by kernel_rfl
theorem constsLeast_k15 : (Rows.constsLeastRow.ifaces == (Tryz.f8.params.toList ++ Rows.constsLeastSpec.plain.varTypes Tryz.pinned.checked.prog).any (Tryz.pinned.checked.prog.ifacesRec ·)) = true := by kernel_rfl
theorem constsLeast_k16 : (Rows.constsLeastRow.mapsOut == Tryz.pinned.checked.prog.mapsAmong Tryz.f8.resultTypes.toList) = true := by kernel_rfl
theorem constsLeast_k17 : (Rows.constsLeastRow.loops == (Tryz.f8.params.toList ++ Rows.constsLeastSpec.plain.varTypes Tryz.pinned.checked.prog).any (Tryz.pinned.checked.prog.loopsFrom ·)) = true := by kernel_rfl
theorem constsLeast_k17b : (Rows.constsLeastRow.wideKeys == (Tryz.f8.params.toList ++ Rows.constsLeastSpec.plain.varTypes Tryz.pinned.checked.prog ++ Tryz.f8.resultTypes.toList).any (Tryz.pinned.checked.prog.wideKeysFrom ·)) = true := by kernel_rfl
theorem constsLeast_k18 : Rows.constsLeastSpec.vars.all (Tryz.pinned.checked.prog.varReadable ·) = true := by kernel_rfl
theorem constsLeast_k19 : Tryz.f8.resultTypes.all (fun t => Tryz.pinned.checked.prog.readableRec t && decide (t < Tryz.pinned.checked.prog.types.size)) = true := by kernel_rfl
theorem constsLeast_k20 : (Rows.constsLeastRow.ifacesOut == Tryz.f8.resultTypes.toList.any (Tryz.pinned.checked.prog.ifacesRec ·)) = true := by kernel_rfl
theorem constsLeast_k21 : (Rows.constsLeastRow.loopsOut == Tryz.f8.resultTypes.toList.any (Tryz.pinned.checked.prog.loopsFrom ·)) = true := by kernel_rfl
theorem constsLeast_k22 : (Rows.constsLeastRow.plainKeys == Tryz.pinned.checked.prog.plainKeys) = true := by kernel_rfl
theorem constsLeast_k23 : Rows.constsLeastRow.shortTexts.isNone = true := by kernel_rfl
theorem constsLeast_k24b : (Rows.constsLeastRow.lifted == Tryz.pinned.checked.prog.liftsFinal) = true := by kernel_rfl
theorem constsLeast_k24c : (Tryz.pinned.checked.prog.make == some Rows.constsLeastRow.make) = true := by kernel_rfl
theorem constsLeast_k26 : (Rows.constsLeastRow.pinned == Rows.constsLeastRow.pinnedBy) = true := by kernel_rfl
theorem constsLeast_k27 : (Rows.constsLeastRow.veiled == (Tryz.f8.params.toList ++ Rows.constsLeastSpec.plain.varTypes Tryz.pinned.checked.prog ++ Tryz.f8.resultTypes.toList).any (Tryz.pinned.checked.prog.veiledRec ·)) = true := by kernel_rfl
theorem constsLeast_k28 : Rows.constsLeastRow.veiledFits Tryz.pinned.checked.prog Tryz.f8.params.toList (Tryz.f8.params.toList ++ Rows.constsLeastSpec.plain.varTypes Tryz.pinned.checked.prog ++ Tryz.f8.resultTypes.toList) = true := by kernel_rfl
end Go.Proofs.YtchkknkjhiaooaaGreatDoor.Vm
