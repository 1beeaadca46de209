/- A part of the proof: BB. -/
import Derived.Test.YtbhkamemheaajaaGreatDoorQ35
set_option linter.unusedVariables false
set_option linter.unusedSimpArgs false
set_option linter.constructorNameAsVariable false
namespace Go.Proofs.YtbhkamemheaajaaGreatDoor.Vm
open Go Go.RowKit Go.ChangeShapes Go.WideShapes
theorem constsEdge_named : Tryz.pinned.checked.prog.funcNamed "bywash/bywashlaw20.ConstsEdge" = some 7 := by kernel_rfl
theorem constsEdge_inst:Tryz.f7.isInstance Tryz.pinned.checked.prog Rows.constsEdgeRow.origin Rows.constsEdgeRow.targs:=of_decide_eq_true (by kernel_rfl)
theorem constsEdge_wrap:Tryz.f7.isWrapper Tryz.pinned.checked.prog Rows.constsEdgeRow.wrapper Rows.constsEdgeRow.mainSum:=by unfold Func.isWrapper;rw [if_neg (of_decide_eq_false (by kernel_rfl))];exact ⟨rfl,rfl⟩
end Go.Proofs.YtbhkamemheaajaaGreatDoor.Vm
