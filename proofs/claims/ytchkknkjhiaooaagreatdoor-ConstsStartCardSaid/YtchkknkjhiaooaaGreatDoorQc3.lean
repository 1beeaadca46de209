/- A part of the proof: Jn. -/
import Derived.Test.YtchkknkjhiaooaaGreatDoorQc2
set_option linter.unusedVariables false
set_option linter.unusedSimpArgs false
set_option linter.constructorNameAsVariable false
namespace Go.Proofs.YtchkknkjhiaooaaGreatDoor.Vm
open Go Go.RowKit Go.ChangeShapes Go.WideShapes
theorem constsStart_named : Tryz.pinned.checked.prog.funcNamed "bywash/bywashlaw20.ConstsStart" = some 6 := by kernel_rfl
theorem constsStart_inst : Tryz.f6.isInstance Tryz.pinned.checked.prog Rows.constsStartRow.origin Rows.constsStartRow.targs := of_decide_eq_true (by kernel_rfl)
theorem constsStart_wrap : Tryz.f6.isWrapper Tryz.pinned.checked.prog Rows.constsStartRow.wrapper Rows.constsStartRow.mainSum := by unfold Func.isWrapper; rw [if_neg (of_decide_eq_false (by kernel_rfl))]; exact ⟨rfl, rfl⟩
end Go.Proofs.YtchkknkjhiaooaaGreatDoor.Vm
