/- A part of the proof: Bt. -/
import Derived.Test.YtbhkamemheaajaaGreatDoorQd2
set_option linter.unusedVariables false
set_option linter.unusedSimpArgs false
set_option linter.constructorNameAsVariable false
namespace Go.Proofs.YtbhkamemheaajaaGreatDoor.Vm
open Go Go.RowKit Go.ChangeShapes Go.WideShapes
theorem defsOwn_named : Tryz.pinned.checked.prog.funcNamed "bywash/bywashlaw18.DefsOwn" = some 6 := by kernel_rfl
theorem defsOwn_inst:Tryz.f6.isInstance Tryz.pinned.checked.prog Rows.defsOwnRow.origin Rows.defsOwnRow.targs:=of_decide_eq_true (by kernel_rfl)
theorem defsOwn_wrap:Tryz.f6.isWrapper Tryz.pinned.checked.prog Rows.defsOwnRow.wrapper Rows.defsOwnRow.mainSum:=by unfold Func.isWrapper;rw [if_neg (of_decide_eq_false (by kernel_rfl))];exact ⟨rfl,rfl⟩
end Go.Proofs.YtbhkamemheaajaaGreatDoor.Vm
