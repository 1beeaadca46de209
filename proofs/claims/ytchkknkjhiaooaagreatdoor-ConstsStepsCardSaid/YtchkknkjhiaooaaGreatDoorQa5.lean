/- A part of the proof: Jd. -/
import Derived.Test.YtchkknkjhiaooaaGreatDoorQa4
set_option linter.unusedVariables false
set_option linter.unusedSimpArgs false
set_option linter.constructorNameAsVariable false
namespace Go.Proofs.YtchkknkjhiaooaaGreatDoor.Vm
open Go Go.RowKit Go.ChangeShapes Go.WideShapes
theorem constsSteps_k14 : (Rows.constsStepsRow.maps == (Tryz.f9.params.toList ++ Rows.constsStepsSpec.plain.varTypes Tryz.pinned.checked.prog).any (Tryz.pinned.checked.prog.mapsRec ·)) = true := by kernel_rfl
theorem constsSteps_k15 : (Rows.constsStepsRow.ifaces == (Tryz.f9.params.toList ++ Rows.constsStepsSpec.plain.varTypes Tryz.pinned.checked.prog).any (Tryz.pinned.checked.prog.ifacesRec ·)) = true := by kernel_rfl
theorem constsSteps_k16 : (Rows.constsStepsRow.mapsOut == Tryz.pinned.checked.prog.mapsAmong Tryz.f9.resultTypes.toList) = true := by kernel_rfl
theorem constsSteps_k17 : (Rows.constsStepsRow.loops == (Tryz.f9.params.toList ++ Rows.constsStepsSpec.plain.varTypes Tryz.pinned.checked.prog).any (Tryz.pinned.checked.prog.loopsFrom ·)) = true := by kernel_rfl
theorem constsSteps_k17b : (Rows.constsStepsRow.wideKeys == (Tryz.f9.params.toList ++ Rows.constsStepsSpec.plain.varTypes Tryz.pinned.checked.prog ++ Tryz.f9.resultTypes.toList).any (Tryz.pinned.checked.prog.wideKeysFrom ·)) = true := by kernel_rfl
theorem constsSteps_k18 : Rows.constsStepsSpec.vars.all (Tryz.pinned.checked.prog.varReadable ·) = true := by kernel_rfl
theorem constsSteps_k19 : Tryz.f9.resultTypes.all (fun t => Tryz.pinned.checked.prog.readableRec t && decide (t < Tryz.pinned.checked.prog.types.size)) = true := by kernel_rfl
theorem constsSteps_k20 : (Rows.constsStepsRow.ifacesOut == Tryz.f9.resultTypes.toList.any (Tryz.pinned.checked.prog.ifacesRec ·)) = true := by kernel_rfl
theorem constsSteps_k21 : (Rows.constsStepsRow.loopsOut == Tryz.f9.resultTypes.toList.any (Tryz.pinned.checked.prog.loopsFrom ·)) = true := by kernel_rfl
theorem constsSteps_k22 : (Rows.constsStepsRow.plainKeys == Tryz.pinned.checked.prog.plainKeys) = true := by kernel_rfl
theorem constsSteps_k23 : Rows.constsStepsRow.shortTexts.isNone = true := by kernel_rfl
theorem constsSteps_k24b : (Rows.constsStepsRow.lifted == Tryz.pinned.checked.prog.liftsFinal) = true := by kernel_rfl
theorem constsSteps_k24c : (Tryz.pinned.checked.prog.make == some Rows.constsStepsRow.make) = true := by kernel_rfl
theorem constsSteps_k26 : (Rows.constsStepsRow.pinned == Rows.constsStepsRow.pinnedBy) = true := by kernel_rfl
theorem constsSteps_k27 : (Rows.constsStepsRow.veiled == (Tryz.f9.params.toList ++ Rows.constsStepsSpec.plain.varTypes Tryz.pinned.checked.prog ++ Tryz.f9.resultTypes.toList).any (Tryz.pinned.checked.prog.veiledRec ·)) = true := by kernel_rfl
theorem constsSteps_k28 : Rows.constsStepsRow.veiledFits Tryz.pinned.checked.prog Tryz.f9.params.toList (Tryz.f9.params.toList ++ Rows.constsStepsSpec.plain.varTypes Tryz.pinned.checked.prog ++ Tryz.f9.resultTypes.toList) = true := by kernel_rfl
end Go.Proofs.YtchkknkjhiaooaaGreatDoor.Vm
