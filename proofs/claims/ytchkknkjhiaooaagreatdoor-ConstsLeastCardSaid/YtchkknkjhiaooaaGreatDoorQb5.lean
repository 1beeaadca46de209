/- A part of the proof: Jk. -/
import Derived.Test.YtchkknkjhiaooaaGreatDoorCards
import Derived.Test.YtchkknkjhiaooaaGreatDoorTie
import Derived.SevenTiedAt
import Derived.Test.YtchkknkjhiaooaaGreatDoorQb4
set_option linter.unusedVariables false
set_option linter.unusedSimpArgs false
set_option linter.constructorNameAsVariable false
namespace Go.Proofs.YtchkknkjhiaooaaGreatDoor.Vm
open Go Go.RowKit Go.ChangeShapes Go.WideShapes
theorem constsLeast_k6 : (Rows.constsLeastRow.stops == []) = true := by kernel_rfl
theorem constsLeast_k8 : (Rows.constsLeastRow.knobs == []) = true := by kernel_rfl
theorem constsLeast_joined : joinedFacts Tryz.pinned.checked.prog 8 Tryz.f8 Rows.constsLeastSpec Rows.constsLeastRow = true := by
  simp only [joinedFacts, Bool.and_eq_true]
  exact ⟨⟨⟨⟨⟨⟨⟨⟨⟨⟨⟨⟨⟨⟨⟨⟨⟨⟨⟨⟨⟨⟨⟨⟨⟨⟨⟨⟨⟨⟨⟨constsLeast_k1, fk2⟩, fk3⟩, constsLeast_k4⟩, constsLeast_k5⟩, constsLeast_k6⟩, fk7⟩, constsLeast_k8⟩, fk9⟩, constsLeast_k10⟩, constsLeast_k11⟩, constsLeast_k12⟩, constsLeast_k13⟩, constsLeast_k14⟩, constsLeast_k15⟩, constsLeast_k16⟩, constsLeast_k17⟩, constsLeast_k17b⟩, constsLeast_k18⟩, constsLeast_k19⟩, constsLeast_k20⟩, constsLeast_k21⟩, constsLeast_k22⟩, constsLeast_k23⟩, fk23b⟩, fk24⟩, constsLeast_k24b⟩, constsLeast_k24c⟩, by kernel_rfl⟩, constsLeast_k26⟩, constsLeast_k27⟩, constsLeast_k28⟩
theorem constsLeast_holds : Rows.ConstsLeastSaid :=
  OpenClaim.holds_of_wide 8 Tryz.f8 rfl rfl rfl rfl rfl rfl rfl ⟨rfl, rfl, rfl, rfl, rfl⟩ rfl rfl rfl rfl rfl constsLeast_named fn8 constsLeast_joined constsLeast_inst constsLeast_wrap
    (fun os started H enc _ => constsLeast_lifted os started H enc)
end Go.Proofs.YtchkknkjhiaooaaGreatDoor.Vm
