/- A part of the proof: Jh. -/
import Derived.Test.YtchkknkjhiaooaaGreatDoorQb1
set_option linter.unusedVariables false
set_option linter.unusedSimpArgs false
set_option linter.constructorNameAsVariable false
namespace Go.Proofs.YtchkknkjhiaooaaGreatDoor.Vm
open Go Go.RowKit Go.ChangeShapes Go.WideShapes
theorem constsLeast_named : Tryz.pinned.checked.prog.funcNamed "bywash/bywashlaw20.ConstsLeast" = some 8 := by kernel_rfl
theorem constsLeast_inst : Tryz.f8.isInstance Tryz.pinned.checked.prog Rows.constsLeastRow.origin Rows.constsLeastRow.targs := of_decide_eq_true (by kernel_rfl)
theorem constsLeast_wrap : Tryz.f8.isWrapper Tryz.pinned.checked.prog Rows.constsLeastRow.wrapper Rows.constsLeastRow.mainSum := by unfold Func.isWrapper; rw [if_neg (of_decide_eq_false (by kernel_rfl))]; exact ⟨rfl, rfl⟩
end Go.Proofs.YtchkknkjhiaooaaGreatDoor.Vm
