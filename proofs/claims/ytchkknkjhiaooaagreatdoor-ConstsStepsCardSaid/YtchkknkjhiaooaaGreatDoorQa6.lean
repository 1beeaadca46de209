/- A part of the proof: Je. -/
import Derived.Test.YtchkknkjhiaooaaGreatDoorCards
import Derived.Test.YtchkknkjhiaooaaGreatDoorTie
import Derived.SevenTiedAt
import Derived.Test.YtchkknkjhiaooaaGreatDoorQa5
set_option linter.unusedVariables false
set_option linter.unusedSimpArgs false
set_option linter.constructorNameAsVariable false
namespace Go.Proofs.YtchkknkjhiaooaaGreatDoor.Vm
open Go Go.RowKit Go.ChangeShapes Go.WideShapes
theorem constsSteps_k6 : (Rows.constsStepsRow.stops == []) = true := by kernel_rfl
theorem constsSteps_k8 : (Rows.constsStepsRow.knobs == []) = true := by kernel_rfl
theorem constsSteps_joined : joinedFacts Tryz.pinned.checked.prog 9 Tryz.f9 Rows.constsStepsSpec Rows.constsStepsRow = true := by
  simp only [joinedFacts, Bool.and_eq_true]
  exact ⟨⟨⟨⟨⟨⟨⟨⟨⟨⟨⟨⟨⟨⟨⟨⟨⟨⟨⟨⟨⟨⟨⟨⟨⟨⟨⟨⟨⟨⟨⟨constsSteps_k1, fk2⟩, fk3⟩, constsSteps_k4⟩, constsSteps_k5⟩, constsSteps_k6⟩, fk7⟩, constsSteps_k8⟩, fk9⟩, constsSteps_k10⟩, constsSteps_k11⟩, constsSteps_k12⟩, constsSteps_k13⟩, constsSteps_k14⟩, constsSteps_k15⟩, constsSteps_k16⟩, constsSteps_k17⟩, constsSteps_k17b⟩, constsSteps_k18⟩, constsSteps_k19⟩, constsSteps_k20⟩, constsSteps_k21⟩, constsSteps_k22⟩, constsSteps_k23⟩, fk23b⟩, fk24⟩, constsSteps_k24b⟩, constsSteps_k24c⟩, by kernel_rfl⟩, constsSteps_k26⟩, constsSteps_k27⟩, constsSteps_k28⟩
theorem constsSteps_holds : Rows.ConstsStepsSaid :=
  OpenClaim.holds_of_wide 9 Tryz.f9 rfl rfl rfl rfl rfl rfl rfl ⟨rfl, rfl, rfl, rfl, rfl⟩ rfl rfl rfl rfl rfl constsSteps_named fn9 constsSteps_joined constsSteps_inst constsSteps_wrap
    (fun os started H enc _ => constsSteps_lifted os started H enc)
end Go.Proofs.YtchkknkjhiaooaaGreatDoor.Vm
