/- A part of the proof: Nb. -/
import Derived.Test.YtchkknkjhiaooaaGreatDoorQg2
set_option linter.unusedVariables false
set_option linter.unusedSimpArgs false
set_option linter.constructorNameAsVariable false
namespace Go.Proofs.YtchkknkjhiaooaaGreatDoor.Vm
open Go Go.RowKit Go.ChangeShapes Go.WideShapes
theorem liveRead_named : Tryz.pinned.checked.prog.funcNamed "bywash/bywashlaw19.LiveRead" = some 12 := by kernel_rfl
theorem liveRead_inst : Tryz.f12.isInstance Tryz.pinned.checked.prog Rows.liveReadRow.origin Rows.liveReadRow.targs := of_decide_eq_true (by kernel_rfl)
theorem liveRead_wrap : Tryz.f12.isWrapper Tryz.pinned.checked.prog Rows.liveReadRow.wrapper Rows.liveReadRow.mainSum := by unfold Func.isWrapper; rw [if_neg (of_decide_eq_false (by kernel_rfl))]; exact ⟨rfl, rfl⟩
end Go.Proofs.YtchkknkjhiaooaaGreatDoor.Vm
