/- A part of the proof: Eb. -/
import Derived.Test.YtnhfofmhkfdpgaaGreatDoorQa3
set_option linter.unusedVariables false
set_option linter.unusedSimpArgs false
set_option linter.constructorNameAsVariable false
namespace Go.Proofs.YtnhfofmhkfdpgaaGreatDoor.Vm
open Go Go.RowKit Go.ChangeShapes Go.WideShapes
theorem signsRun_named : Tryz.pinned.checked.prog.funcNamed "bywash/bywashlaw21.SignsRun" = some 3 := by kernel_rfl
theorem signsRun_inst:Tryz.f3.isInstance Tryz.pinned.checked.prog Rows.signsRunRow.origin Rows.signsRunRow.targs:=of_decide_eq_true (by kernel_rfl)
theorem signsRun_wrap:Tryz.f3.isWrapper Tryz.pinned.checked.prog Rows.signsRunRow.wrapper Rows.signsRunRow.mainSum:=by unfold Func.isWrapper;rw [if_neg (of_decide_eq_false (by kernel_rfl))];exact ⟨rfl,rfl⟩
end Go.Proofs.YtnhfofmhkfdpgaaGreatDoor.Vm
