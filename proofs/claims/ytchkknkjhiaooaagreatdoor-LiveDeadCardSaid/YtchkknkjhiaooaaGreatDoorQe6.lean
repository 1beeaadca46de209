/- A part of the proof: Me. -/
import Derived.Test.YtchkknkjhiaooaaGreatDoorCards
import Derived.Test.YtchkknkjhiaooaaGreatDoorTie
import Derived.SevenTiedAt
import Derived.Test.YtchkknkjhiaooaaGreatDoorQe5
set_option linter.unusedVariables false
set_option linter.unusedSimpArgs false
set_option linter.constructorNameAsVariable false
namespace Go.Proofs.YtchkknkjhiaooaaGreatDoor.Vm
open Go Go.RowKit Go.ChangeShapes Go.WideShapes
theorem liveDead_k6 : (Rows.liveDeadRow.stops == []) = true := by kernel_rfl
theorem liveDead_k8 : (Rows.liveDeadRow.knobs == []) = true := by kernel_rfl
theorem liveDead_joined : joinedFacts Tryz.pinned.checked.prog 10 Tryz.f10 Rows.liveDeadSpec Rows.liveDeadRow = true := by
  simp only [joinedFacts, Bool.and_eq_true]
  exact ⟨⟨⟨⟨⟨⟨⟨⟨⟨⟨⟨⟨⟨⟨⟨⟨⟨⟨⟨⟨⟨⟨⟨⟨⟨⟨⟨⟨⟨⟨⟨liveDead_k1, fk2⟩, fk3⟩, liveDead_k4⟩, liveDead_k5⟩, liveDead_k6⟩, fk7⟩, liveDead_k8⟩, fk9⟩, liveDead_k10⟩, liveDead_k11⟩, liveDead_k12⟩, liveDead_k13⟩, liveDead_k14⟩, liveDead_k15⟩, liveDead_k16⟩, liveDead_k17⟩, liveDead_k17b⟩, liveDead_k18⟩, liveDead_k19⟩, liveDead_k20⟩, liveDead_k21⟩, liveDead_k22⟩, liveDead_k23⟩, fk23b⟩, fk24⟩, liveDead_k24b⟩, liveDead_k24c⟩, by kernel_rfl⟩, liveDead_k26⟩, liveDead_k27⟩, liveDead_k28⟩
theorem liveDead_holds : Rows.LiveDeadSaid :=
  OpenClaim.holds_of_wide 10 Tryz.f10 rfl rfl rfl rfl rfl rfl rfl ⟨rfl, rfl, rfl, rfl, rfl⟩ rfl rfl rfl rfl rfl liveDead_named fn10 liveDead_joined liveDead_inst liveDead_wrap
    (fun os started H enc _ => liveDead_lifted os started H enc)
end Go.Proofs.YtchkknkjhiaooaaGreatDoor.Vm
