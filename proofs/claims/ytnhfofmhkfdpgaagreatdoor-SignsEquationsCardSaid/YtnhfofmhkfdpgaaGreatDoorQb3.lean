/- A part of the proof: Eh. -/
import Derived.Test.YtnhfofmhkfdpgaaGreatDoorQb2
set_option linter.unusedVariables false
set_option linter.unusedSimpArgs false
set_option linter.constructorNameAsVariable false
namespace Go.Proofs.YtnhfofmhkfdpgaaGreatDoor.Vm
open Go Go.RowKit Go.ChangeShapes Go.WideShapes
theorem signsEquations_named : Tryz.pinned.checked.prog.funcNamed "bywash/bywashlaw21.SignsEquations" = some 4 := by kernel_rfl
theorem signsEquations_inst:Tryz.f4.isInstance Tryz.pinned.checked.prog Rows.signsEquationsRow.origin Rows.signsEquationsRow.targs:=of_decide_eq_true (by kernel_rfl)
theorem signsEquations_wrap:Tryz.f4.isWrapper Tryz.pinned.checked.prog Rows.signsEquationsRow.wrapper Rows.signsEquationsRow.mainSum:=by unfold Func.isWrapper;rw [if_neg (of_decide_eq_false (by kernel_rfl))];exact ⟨rfl,rfl⟩
end Go.Proofs.YtnhfofmhkfdpgaaGreatDoor.Vm
