/- A part of the proof: Et. -/
import Derived.Test.YtnhfofmhkfdpgaaGreatDoorQd2
set_option linter.unusedVariables false
set_option linter.unusedSimpArgs false
set_option linter.constructorNameAsVariable false
namespace Go.Proofs.YtnhfofmhkfdpgaaGreatDoor.Vm
open Go Go.RowKit Go.ChangeShapes Go.WideShapes
theorem signsConsts_named : Tryz.pinned.checked.prog.funcNamed "bywash/bywashlaw21.SignsConsts" = some 6 := by kernel_rfl
theorem signsConsts_inst:Tryz.f6.isInstance Tryz.pinned.checked.prog Rows.signsConstsRow.origin Rows.signsConstsRow.targs:=of_decide_eq_true (by kernel_rfl)
theorem signsConsts_wrap:Tryz.f6.isWrapper Tryz.pinned.checked.prog Rows.signsConstsRow.wrapper Rows.signsConstsRow.mainSum:=by unfold Func.isWrapper;rw [if_neg (of_decide_eq_false (by kernel_rfl))];exact ⟨rfl,rfl⟩
end Go.Proofs.YtnhfofmhkfdpgaaGreatDoor.Vm
