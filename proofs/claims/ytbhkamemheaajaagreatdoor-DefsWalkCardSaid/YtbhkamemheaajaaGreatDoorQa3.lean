/- A part of the proof: Bb. -/
import Derived.Test.YtbhkamemheaajaaGreatDoorQa2
set_option linter.unusedVariables false
set_option linter.unusedSimpArgs false
set_option linter.constructorNameAsVariable false
namespace Go.Proofs.YtbhkamemheaajaaGreatDoor.Vm
open Go Go.RowKit Go.ChangeShapes Go.WideShapes
theorem defsWalk_named : Tryz.pinned.checked.prog.funcNamed "bywash/bywashlaw18.DefsWalk" = some 4 := by kernel_rfl
theorem defsWalk_inst:Tryz.f4.isInstance Tryz.pinned.checked.prog Rows.defsWalkRow.origin Rows.defsWalkRow.targs:=of_decide_eq_true (by kernel_rfl)
theorem defsWalk_wrap:Tryz.f4.isWrapper Tryz.pinned.checked.prog Rows.defsWalkRow.wrapper Rows.defsWalkRow.mainSum:=by unfold Func.isWrapper;rw [if_neg (of_decide_eq_false (by kernel_rfl))];exact ⟨rfl,rfl⟩
end Go.Proofs.YtbhkamemheaajaaGreatDoor.Vm
