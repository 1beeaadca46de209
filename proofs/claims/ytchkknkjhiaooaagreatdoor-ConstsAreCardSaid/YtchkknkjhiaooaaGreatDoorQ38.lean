/- A part of the proof: Pb. -/
import Derived.Test.YtchkknkjhiaooaaGreatDoorQ37
set_option linter.unusedVariables false
set_option linter.unusedSimpArgs false
set_option linter.constructorNameAsVariable false
namespace Go.Proofs.YtchkknkjhiaooaaGreatDoor.Vm
open Go Go.RowKit Go.ChangeShapes Go.WideShapes
theorem constsAre_named : Tryz.pinned.checked.prog.funcNamed "bywash/bywashlaw20.ConstsAre" = some 5 := by kernel_rfl
theorem constsAre_inst:Tryz.f5.isInstance Tryz.pinned.checked.prog Rows.constsAreRow.origin Rows.constsAreRow.targs:=of_decide_eq_true (by kernel_rfl)
theorem constsAre_wrap:Tryz.f5.isWrapper Tryz.pinned.checked.prog Rows.constsAreRow.wrapper Rows.constsAreRow.mainSum:=by unfold Func.isWrapper;rw [if_neg (of_decide_eq_false (by kernel_rfl))];exact ⟨rfl,rfl⟩
end Go.Proofs.YtchkknkjhiaooaaGreatDoor.Vm
