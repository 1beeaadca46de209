/- A part of the proof: Bh. -/
import Derived.Test.YtbhkamemheaajaaGreatDoorQb2
set_option linter.unusedVariables false
set_option linter.unusedSimpArgs false
set_option linter.constructorNameAsVariable false
namespace Go.Proofs.YtbhkamemheaajaaGreatDoor.Vm
open Go Go.RowKit Go.ChangeShapes Go.WideShapes
theorem defsFar_named : Tryz.pinned.checked.prog.funcNamed "bywash/bywashlaw18.DefsFar" = some 5 := by kernel_rfl
theorem defsFar_inst:Tryz.f5.isInstance Tryz.pinned.checked.prog Rows.defsFarRow.origin Rows.defsFarRow.targs:=of_decide_eq_true (by kernel_rfl)
theorem defsFar_wrap:Tryz.f5.isWrapper Tryz.pinned.checked.prog Rows.defsFarRow.wrapper Rows.defsFarRow.mainSum:=by unfold Func.isWrapper;rw [if_neg (of_decide_eq_false (by kernel_rfl))];exact ⟨rfl,rfl⟩
end Go.Proofs.YtbhkamemheaajaaGreatDoor.Vm
