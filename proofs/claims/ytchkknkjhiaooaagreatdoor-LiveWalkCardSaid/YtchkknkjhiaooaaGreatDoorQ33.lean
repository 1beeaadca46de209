/- A part of the proof: Im. -/
import Derived.Test.YtchkknkjhiaooaaGreatDoorQ32
set_option linter.unusedVariables false
set_option linter.unusedSimpArgs false
set_option linter.constructorNameAsVariable false
namespace Go.Proofs.YtchkknkjhiaooaaGreatDoor.Vm
open Go Go.RowKit Go.ChangeShapes Go.WideShapes
theorem liveWalk_named : Tryz.pinned.checked.prog.funcNamed "bywash/bywashlaw19.LiveWalk" = some 4 := by kernel_rfl
theorem liveWalk_inst : Tryz.f4.isInstance Tryz.pinned.checked.prog Rows.liveWalkRow.origin Rows.liveWalkRow.targs := of_decide_eq_true (by kernel_rfl)
theorem liveWalk_wrap : Tryz.f4.isWrapper Tryz.pinned.checked.prog Rows.liveWalkRow.wrapper Rows.liveWalkRow.mainSum := by unfold Func.isWrapper; rw [if_neg (of_decide_eq_false (by kernel_rfl))]; exact ⟨rfl, rfl⟩
end Go.Proofs.YtchkknkjhiaooaaGreatDoor.Vm
