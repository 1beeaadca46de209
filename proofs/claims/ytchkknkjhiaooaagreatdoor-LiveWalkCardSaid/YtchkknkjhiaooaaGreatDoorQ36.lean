/- A part of the proof: Ip. -/
import Derived.Test.YtchkknkjhiaooaaGreatDoorCards
import Derived.Test.YtchkknkjhiaooaaGreatDoorTie
import Derived.SevenTiedAt
import Derived.Test.YtchkknkjhiaooaaGreatDoorQ35
set_option linter.unusedVariables false
set_option linter.unusedSimpArgs false
set_option linter.constructorNameAsVariable false
namespace Go.Proofs.YtchkknkjhiaooaaGreatDoor.Vm
open Go Go.RowKit Go.ChangeShapes Go.WideShapes
theorem liveWalk_k6 : (Rows.liveWalkRow.stops == []) = true := by kernel_rfl
theorem liveWalk_k8 : (Rows.liveWalkRow.knobs == []) = true := by kernel_rfl
theorem liveWalk_joined : joinedFacts Tryz.pinned.checked.prog 4 Tryz.f4 Rows.liveWalkSpec Rows.liveWalkRow = true := by
  simp only [joinedFacts, Bool.and_eq_true]
  exact ⟨⟨⟨⟨⟨⟨⟨⟨⟨⟨⟨⟨⟨⟨⟨⟨⟨⟨⟨⟨⟨⟨⟨⟨⟨⟨⟨⟨⟨⟨⟨liveWalk_k1, fk2⟩, fk3⟩, liveWalk_k4⟩, liveWalk_k5⟩, liveWalk_k6⟩, fk7⟩, liveWalk_k8⟩, fk9⟩, liveWalk_k10⟩, liveWalk_k11⟩, liveWalk_k12⟩, liveWalk_k13⟩, liveWalk_k14⟩, liveWalk_k15⟩, liveWalk_k16⟩, liveWalk_k17⟩, liveWalk_k17b⟩, liveWalk_k18⟩, liveWalk_k19⟩, liveWalk_k20⟩, liveWalk_k21⟩, liveWalk_k22⟩, liveWalk_k23⟩, fk23b⟩, fk24⟩, liveWalk_k24b⟩, liveWalk_k24c⟩, by kernel_rfl⟩, liveWalk_k26⟩, liveWalk_k27⟩, liveWalk_k28⟩
theorem liveWalk_holds : Rows.LiveWalkSaid :=
  OpenClaim.holds_of_wide 4 Tryz.f4 rfl rfl rfl rfl rfl rfl rfl ⟨rfl, rfl, rfl, rfl, rfl⟩ rfl rfl rfl rfl rfl liveWalk_named fn4 liveWalk_joined liveWalk_inst liveWalk_wrap
    (fun os started H enc _ => liveWalk_lifted os started H enc)
end Go.Proofs.YtchkknkjhiaooaaGreatDoor.Vm
