/- A part of the proof: Bn. -/
import Derived.Test.YtbhkamemheaajaaGreatDoorQc2
set_option linter.unusedVariables false
set_option linter.unusedSimpArgs false
set_option linter.constructorNameAsVariable false
namespace Go.Proofs.YtbhkamemheaajaaGreatDoor.Vm
open Go Go.RowKit Go.ChangeShapes Go.WideShapes
theorem defsWay_named : Tryz.pinned.checked.prog.funcNamed "bywash/bywashlaw18.DefsWay" = some 3 := by kernel_rfl
theorem defsWay_inst:Tryz.f3.isInstance Tryz.pinned.checked.prog Rows.defsWayRow.origin Rows.defsWayRow.targs:=of_decide_eq_true (by kernel_rfl)
theorem defsWay_wrap:Tryz.f3.isWrapper Tryz.pinned.checked.prog Rows.defsWayRow.wrapper Rows.defsWayRow.mainSum:=by unfold Func.isWrapper;rw [if_neg (of_decide_eq_false (by kernel_rfl))];exact ⟨rfl,rfl⟩
end Go.Proofs.YtbhkamemheaajaaGreatDoor.Vm
