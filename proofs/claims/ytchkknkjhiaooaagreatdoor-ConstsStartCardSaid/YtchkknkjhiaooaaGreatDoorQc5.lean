/- A part of the proof: Jp. -/
import Derived.Test.YtchkknkjhiaooaaGreatDoorQc4
set_option linter.unusedVariables false
set_option linter.unusedSimpArgs false
set_option linter.constructorNameAsVariable false
namespace Go.Proofs.YtchkknkjhiaooaaGreatDoor.Vm
open Go Go.RowKit Go.ChangeShapes Go.WideShapes
theorem constsStart_k14 : (Rows.constsStartRow.maps == (Tryz.f6.params.toList ++ Rows.constsStartSpec.plain.varTypes Tryz.pinned.checked.prog).any (Tryz.pinned.checked.prog.mapsRec ·)) = true := by kernel_rfl
theorem constsStart_k15 : (Rows.constsStartRow.ifaces == (Tryz.f6.params.toList ++ Rows.constsStartSpec.plain.varTypes Tryz.pinned.checked.prog).any (Tryz.pinned.checked.prog.ifacesRec ·)) = true := by kernel_rfl
theorem constsStart_k16 : (Rows.constsStartRow.mapsOut == Tryz.pinned.checked.prog.mapsAmong Tryz.f6.resultTypes.toList) = true := by kernel_rfl
theorem constsStart_k17 : (Rows.constsStartRow.loops == (Tryz.f6.params.toList ++ Rows.constsStartSpec.plain.varTypes Tryz.pinned.checked.prog).any (Tryz.pinned.checked.prog.loopsFrom ·)) = true := by kernel_rfl
theorem constsStart_k17b : (Rows.constsStartRow.wideKeys == (Tryz.f6.params.toList ++ Rows.constsStartSpec.plain.varTypes Tryz.pinned.checked.prog ++ Tryz.f6.resultTypes.toList).any (Tryz.pinned.checked.prog.wideKeysFrom ·)) = true := by kernel_rfl
theorem constsStart_k18 : Rows.constsStartSpec.vars.all (Tryz.pinned.checked.prog.varReadable ·) = true := by kernel_rfl
theorem constsStart_k19 : Tryz.f6.resultTypes.all (fun t => Tryz.pinned.checked.prog.readableRec t && decide (t < Tryz.pinned.checked.prog.types.size)) = true := by kernel_rfl
theorem constsStart_k20 : (Rows.constsStartRow.ifacesOut == Tryz.f6.resultTypes.toList.any (Tryz.pinned.checked.prog.ifacesRec ·)) = true := by kernel_rfl
theorem constsStart_k21 : (Rows.constsStartRow.loopsOut == Tryz.f6.resultTypes.toList.any (Tryz.pinned.checked.prog.loopsFrom ·)) = true := by kernel_rfl
theorem constsStart_k22 : (Rows.constsStartRow.plainKeys == Tryz.pinned.checked.prog.plainKeys) = true := by kernel_rfl
theorem constsStart_k23 : Rows.constsStartRow.shortTexts.isNone = true := by kernel_rfl
theorem constsStart_k24b : (Rows.constsStartRow.lifted == Tryz.pinned.checked.prog.liftsFinal) = true := by kernel_rfl
theorem constsStart_k24c : (Tryz.pinned.checked.prog.make == some Rows.constsStartRow.make) = true := by kernel_rfl
theorem constsStart_k26 : (Rows.constsStartRow.pinned == Rows.constsStartRow.pinnedBy) = true := by kernel_rfl
theorem constsStart_k27 : (Rows.constsStartRow.veiled == (Tryz.f6.params.toList ++ Rows.constsStartSpec.plain.varTypes Tryz.pinned.checked.prog ++ Tryz.f6.resultTypes.toList).any (Tryz.pinned.checked.prog.veiledRec ·)) = true := by kernel_rfl
theorem constsStart_k28 : Rows.constsStartRow.veiledFits Tryz.pinned.checked.prog Tryz.f6.params.toList (Tryz.f6.params.toList ++ Rows.constsStartSpec.plain.varTypes Tryz.pinned.checked.prog ++ Tryz.f6.resultTypes.toList) = true := by kernel_rfl
end Go.Proofs.YtchkknkjhiaooaaGreatDoor.Vm
