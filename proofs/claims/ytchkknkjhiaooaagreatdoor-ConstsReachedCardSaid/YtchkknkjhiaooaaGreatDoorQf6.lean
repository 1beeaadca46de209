/- A part of the proof: Mk. -/
import Derived.Test.YtchkknkjhiaooaaGreatDoorCards
import Derived.Test.YtchkknkjhiaooaaGreatDoorTie
import Derived.SevenTiedAt
import Derived.Test.YtchkknkjhiaooaaGreatDoorQf5
set_option linter.unusedVariables false
set_option linter.unusedSimpArgs false
set_option linter.constructorNameAsVariable false
namespace Go.Proofs.YtchkknkjhiaooaaGreatDoor.Vm
open Go Go.RowKit Go.ChangeShapes Go.WideShapes
theorem constsReached_k6 : (Rows.constsReachedRow.stops == []) = true := by kernel_rfl
theorem constsReached_k8 : (Rows.constsReachedRow.knobs == []) = true := by kernel_rfl
theorem constsReached_joined : joinedFacts Tryz.pinned.checked.prog 11 Tryz.f11 Rows.constsReachedSpec Rows.constsReachedRow = true := by
  simp only [joinedFacts, Bool.and_eq_true]
  exact ⟨⟨⟨⟨⟨⟨⟨⟨⟨⟨⟨⟨⟨⟨⟨⟨⟨⟨⟨⟨⟨⟨⟨⟨⟨⟨⟨⟨⟨⟨⟨constsReached_k1, fk2⟩, fk3⟩, constsReached_k4⟩, constsReached_k5⟩, constsReached_k6⟩, fk7⟩, constsReached_k8⟩, fk9⟩, constsReached_k10⟩, constsReached_k11⟩, constsReached_k12⟩, constsReached_k13⟩, constsReached_k14⟩, constsReached_k15⟩, constsReached_k16⟩, constsReached_k17⟩, constsReached_k17b⟩, constsReached_k18⟩, constsReached_k19⟩, constsReached_k20⟩, constsReached_k21⟩, constsReached_k22⟩, constsReached_k23⟩, fk23b⟩, fk24⟩, constsReached_k24b⟩, constsReached_k24c⟩, by kernel_rfl⟩, constsReached_k26⟩, constsReached_k27⟩, constsReached_k28⟩
theorem constsReached_holds : Rows.ConstsReachedSaid :=
  OpenClaim.holds_of_wide 11 Tryz.f11 rfl rfl rfl rfl rfl rfl rfl ⟨rfl, rfl, rfl, rfl, rfl⟩ rfl rfl rfl rfl rfl constsReached_named fn11 constsReached_joined constsReached_inst constsReached_wrap
    (fun os started H enc _ => constsReached_lifted os started H enc)
end Go.Proofs.YtchkknkjhiaooaaGreatDoor.Vm
