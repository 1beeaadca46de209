/- A part of the proof: Ie. -/
import Derived.Test.YtchkknkjhiaooaaGreatDoorQ29
namespace Go.Proofs.YtchkknkjhiaooaaGreatDoor.Vm
open Go Go.RowKit Go.ChangeShapes Go.WideShapes
set_option linter.constructorNameAsVariable false
theorem liveWay_named : Tryz.pinned.checked.prog.funcNamed "bywash/bywashlaw19.LiveWay" = some 3 := by kernel_rfl
theorem liveWay_inst : Tryz.f3.isInstance Tryz.pinned.checked.prog Rows.liveWayRow.origin Rows.liveWayRow.targs := of_decide_eq_true (by kernel_rfl)
theorem liveWay_wrap : Tryz.f3.isWrapper Tryz.pinned.checked.prog Rows.liveWayRow.wrapper Rows.liveWayRow.mainSum := by unfold Func.isWrapper; rw [if_neg (of_decide_eq_false (by kernel_rfl))]; exact ⟨rfl, rfl⟩
end Go.Proofs.YtchkknkjhiaooaaGreatDoor.Vm
