/- A part of the proof: Jt. -/
import Derived.Test.YtchkknkjhiaooaaGreatDoorQd3
set_option linter.unusedVariables false
set_option linter.unusedSimpArgs false
set_option linter.constructorNameAsVariable false
namespace Go.Proofs.YtchkknkjhiaooaaGreatDoor.Vm
open Go Go.RowKit Go.ChangeShapes Go.WideShapes
theorem constsTell_named : Tryz.pinned.checked.prog.funcNamed "bywash/bywashlaw20.ConstsTell" = some 7 := by kernel_rfl
theorem constsTell_inst : Tryz.f7.isInstance Tryz.pinned.checked.prog Rows.constsTellRow.origin Rows.constsTellRow.targs := of_decide_eq_true (by kernel_rfl)
theorem constsTell_wrap : Tryz.f7.isWrapper Tryz.pinned.checked.prog Rows.constsTellRow.wrapper Rows.constsTellRow.mainSum := by unfold Func.isWrapper; rw [if_neg (of_decide_eq_false (by kernel_rfl))]; exact ⟨rfl, rfl⟩
end Go.Proofs.YtchkknkjhiaooaaGreatDoor.Vm
