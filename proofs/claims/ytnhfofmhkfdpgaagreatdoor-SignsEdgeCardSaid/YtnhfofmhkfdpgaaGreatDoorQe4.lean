/- A part of the proof: EB. -/
import Derived.Test.YtnhfofmhkfdpgaaGreatDoorQe3
set_option linter.unusedVariables false
set_option linter.unusedSimpArgs false
set_option linter.constructorNameAsVariable false
namespace Go.Proofs.YtnhfofmhkfdpgaaGreatDoor.Vm
open Go Go.RowKit Go.ChangeShapes Go.WideShapes
theorem signsEdge_named : Tryz.pinned.checked.prog.funcNamed "bywash/bywashlaw21.SignsEdge" = some 7 := by kernel_rfl
theorem signsEdge_inst:Tryz.f7.isInstance Tryz.pinned.checked.prog Rows.signsEdgeRow.origin Rows.signsEdgeRow.targs:=of_decide_eq_true (by kernel_rfl)
theorem signsEdge_wrap:Tryz.f7.isWrapper Tryz.pinned.checked.prog Rows.signsEdgeRow.wrapper Rows.signsEdgeRow.mainSum:=by unfold Func.isWrapper;rw [if_neg (of_decide_eq_false (by kernel_rfl))];exact ⟨rfl,rfl⟩
end Go.Proofs.YtnhfofmhkfdpgaaGreatDoor.Vm
