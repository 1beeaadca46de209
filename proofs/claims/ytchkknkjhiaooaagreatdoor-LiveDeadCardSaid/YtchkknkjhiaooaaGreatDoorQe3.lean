/- A part of the proof: Mb. -/
import Derived.Test.YtchkknkjhiaooaaGreatDoorQe2
set_option linter.unusedVariables false
set_option linter.unusedSimpArgs false
set_option linter.constructorNameAsVariable false
namespace Go.Proofs.YtchkknkjhiaooaaGreatDoor.Vm
open Go Go.RowKit Go.ChangeShapes Go.WideShapes
theorem liveDead_named : Tryz.pinned.checked.prog.funcNamed "bywash/bywashlaw19.LiveDead" = some 10 := by kernel_rfl
theorem liveDead_inst : Tryz.f10.isInstance Tryz.pinned.checked.prog Rows.liveDeadRow.origin Rows.liveDeadRow.targs := of_decide_eq_true (by kernel_rfl)
theorem liveDead_wrap : Tryz.f10.isWrapper Tryz.pinned.checked.prog Rows.liveDeadRow.wrapper Rows.liveDeadRow.mainSum := by unfold Func.isWrapper; rw [if_neg (of_decide_eq_false (by kernel_rfl))]; exact ⟨rfl, rfl⟩
end Go.Proofs.YtchkknkjhiaooaaGreatDoor.Vm
