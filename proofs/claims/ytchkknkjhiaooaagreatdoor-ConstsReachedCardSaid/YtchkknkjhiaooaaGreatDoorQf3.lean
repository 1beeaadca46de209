/- A part of the proof: Mh. -/
import Derived.Test.YtchkknkjhiaooaaGreatDoorQf2
set_option linter.unusedVariables false
set_option linter.unusedSimpArgs false
set_option linter.constructorNameAsVariable false
namespace Go.Proofs.YtchkknkjhiaooaaGreatDoor.Vm
open Go Go.RowKit Go.ChangeShapes Go.WideShapes
theorem constsReached_named : Tryz.pinned.checked.prog.funcNamed "bywash/bywashlaw20.ConstsReached" = some 11 := by kernel_rfl
theorem constsReached_inst : Tryz.f11.isInstance Tryz.pinned.checked.prog Rows.constsReachedRow.origin Rows.constsReachedRow.targs := of_decide_eq_true (by kernel_rfl)
theorem constsReached_wrap : Tryz.f11.isWrapper Tryz.pinned.checked.prog Rows.constsReachedRow.wrapper Rows.constsReachedRow.mainSum := by unfold Func.isWrapper; rw [if_neg (of_decide_eq_false (by kernel_rfl))]; exact ⟨rfl, rfl⟩
end Go.Proofs.YtchkknkjhiaooaaGreatDoor.Vm
