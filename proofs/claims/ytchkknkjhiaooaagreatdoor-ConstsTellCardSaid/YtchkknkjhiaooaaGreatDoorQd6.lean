/- A part of the proof: Jv. -/
import Derived.Test.YtchkknkjhiaooaaGreatDoorQd5
set_option linter.unusedVariables false
set_option linter.unusedSimpArgs false
set_option linter.constructorNameAsVariable false
namespace Go.Proofs.YtchkknkjhiaooaaGreatDoor.Vm
open Go Go.RowKit Go.ChangeShapes Go.WideShapes
theorem constsTell_k14 : (Rows.constsTellRow.maps == (Tryz.f7.params.toList ++ Rows.constsTellSpec.plain.varTypes Tryz.pinned.checked.prog).any (Tryz.pinned.checked.prog.mapsRec ·)) = true := by kernel_rfl
theorem constsTell_k15 : (Rows.constsTellRow.ifaces == (Tryz.f7.params.toList ++ Rows.constsTellSpec.plain.varTypes Tryz.pinned.checked.prog).any (Tryz.pinned.checked.prog.ifacesRec ·)) = true := by kernel_rfl
theorem constsTell_k16 : (Rows.constsTellRow.mapsOut == Tryz.pinned.checked.prog.mapsAmong Tryz.f7.resultTypes.toList) = true := by kernel_rfl
theorem constsTell_k17 : (Rows.constsTellRow.loops == (Tryz.f7.params.toList ++ Rows.constsTellSpec.plain.varTypes Tryz.pinned.checked.prog).any (Tryz.pinned.checked.prog.loopsFrom ·)) = true := by kernel_rfl
theorem constsTell_k17b : (Rows.constsTellRow.wideKeys == (Tryz.f7.params.toList ++ Rows.constsTellSpec.plain.varTypes Tryz.pinned.checked.prog ++ Tryz.f7.resultTypes.toList).any (Tryz.pinned.checked.prog.wideKeysFrom ·)) = true := by kernel_rfl
theorem constsTell_k18 : Rows.constsTellSpec.vars.all (Tryz.pinned.checked.prog.varReadable ·) = true := by kernel_rfl
theorem constsTell_k19 : Tryz.f7.resultTypes.all (fun t => Tryz.pinned.checked.prog.readableRec t && decide (t < Tryz.pinned.checked.prog.types.size)) = true := by kernel_rfl
theorem constsTell_k20 : (Rows.constsTellRow.ifacesOut == Tryz.f7.resultTypes.toList.any (Tryz.pinned.checked.prog.ifacesRec ·)) = true := by kernel_rfl
theorem constsTell_k21 : (Rows.constsTellRow.loopsOut == Tryz.f7.resultTypes.toList.any (Tryz.pinned.checked.prog.loopsFrom ·)) = true := by kernel_rfl
theorem constsTell_k22 : (Rows.constsTellRow.plainKeys == Tryz.pinned.checked.prog.plainKeys) = true := by kernel_rfl
theorem constsTell_k23 : Rows.constsTellRow.shortTexts.isNone = true := by kernel_rfl
theorem constsTell_k24b : (Rows.constsTellRow.lifted == Tryz.pinned.checked.prog.liftsFinal) = true := by kernel_rfl
theorem constsTell_k24c : (Tryz.pinned.checked.prog.make == some Rows.constsTellRow.make) = true := by kernel_rfl
theorem constsTell_k26 : (Rows.constsTellRow.pinned == Rows.constsTellRow.pinnedBy) = true := by kernel_rfl
theorem constsTell_k27 : (Rows.constsTellRow.veiled == (Tryz.f7.params.toList ++ Rows.constsTellSpec.plain.varTypes Tryz.pinned.checked.prog ++ Tryz.f7.resultTypes.toList).any (Tryz.pinned.checked.prog.veiledRec ·)) = true := by kernel_rfl
theorem constsTell_k28 : Rows.constsTellRow.veiledFits Tryz.pinned.checked.prog Tryz.f7.params.toList (Tryz.f7.params.toList ++ Rows.constsTellSpec.plain.varTypes Tryz.pinned.checked.prog ++ Tryz.f7.resultTypes.toList) = true := by kernel_rfl
end Go.Proofs.YtchkknkjhiaooaaGreatDoor.Vm
