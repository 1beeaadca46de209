/- A part of the proof: En. -/
import Derived.Test.YtnhfofmhkfdpgaaGreatDoorQc3
set_option linter.unusedVariables false
set_option linter.unusedSimpArgs false
set_option linter.constructorNameAsVariable false
namespace Go.Proofs.YtnhfofmhkfdpgaaGreatDoor.Vm
open Go Go.RowKit Go.ChangeShapes Go.WideShapes
theorem signsCalled_named : Tryz.pinned.checked.prog.funcNamed "bywash/bywashlaw21.SignsCalled" = some 5 := by kernel_rfl
theorem signsCalled_inst:Tryz.f5.isInstance Tryz.pinned.checked.prog Rows.signsCalledRow.origin Rows.signsCalledRow.targs:=of_decide_eq_true (by kernel_rfl)
theorem signsCalled_wrap:Tryz.f5.isWrapper Tryz.pinned.checked.prog Rows.signsCalledRow.wrapper Rows.signsCalledRow.mainSum:=by unfold Func.isWrapper;rw [if_neg (of_decide_eq_false (by kernel_rfl))];exact ⟨rfl,rfl⟩
end Go.Proofs.YtnhfofmhkfdpgaaGreatDoor.Vm
