/- A part of the proof: Jq. -/
import Derived.Test.YtchkknkjhiaooaaGreatDoorCards
import Derived.Test.YtchkknkjhiaooaaGreatDoorTie
import Derived.SevenTiedAt
import Derived.Test.YtchkknkjhiaooaaGreatDoorQc5
set_option linter.unusedVariables false
set_option linter.unusedSimpArgs false
set_option linter.constructorNameAsVariable false
namespace Go.Proofs.YtchkknkjhiaooaaGreatDoor.Vm
open Go Go.RowKit Go.ChangeShapes Go.WideShapes
theorem constsStart_k6 : (Rows.constsStartRow.stops == []) = true := by kernel_rfl
theorem constsStart_k8 : (Rows.constsStartRow.knobs == []) = true := by kernel_rfl
theorem constsStart_joined : joinedFacts Tryz.pinned.checked.prog 6 Tryz.f6 Rows.constsStartSpec Rows.constsStartRow = true := by
  simp only [joinedFacts, Bool.and_eq_true]
  exact ⟨⟨⟨⟨⟨⟨⟨⟨⟨⟨⟨⟨⟨⟨⟨⟨⟨⟨⟨⟨⟨⟨⟨⟨⟨⟨⟨⟨⟨⟨⟨constsStart_k1, fk2⟩, fk3⟩, constsStart_k4⟩, constsStart_k5⟩, constsStart_k6⟩, fk7⟩, constsStart_k8⟩, fk9⟩, constsStart_k10⟩, constsStart_k11⟩, constsStart_k12⟩, constsStart_k13⟩, constsStart_k14⟩, constsStart_k15⟩, constsStart_k16⟩, constsStart_k17⟩, constsStart_k17b⟩, constsStart_k18⟩, constsStart_k19⟩, constsStart_k20⟩, constsStart_k21⟩, constsStart_k22⟩, constsStart_k23⟩, fk23b⟩, fk24⟩, constsStart_k24b⟩, constsStart_k24c⟩, by kernel_rfl⟩, constsStart_k26⟩, constsStart_k27⟩, constsStart_k28⟩
theorem constsStart_holds : Rows.ConstsStartSaid :=
  OpenClaim.holds_of_wide 6 Tryz.f6 rfl rfl rfl rfl rfl rfl rfl ⟨rfl, rfl, rfl, rfl, rfl⟩ rfl rfl rfl rfl rfl constsStart_named fn6 constsStart_joined constsStart_inst constsStart_wrap
    (fun os started H enc _ => constsStart_lifted os started H enc)
end Go.Proofs.YtchkknkjhiaooaaGreatDoor.Vm
