/- A part of the proof: Be. -/
import Derived.Test.YtbhkamemheaajaaGreatDoorCards
import Derived.Test.YtbhkamemheaajaaGreatDoorTie
import Derived.SevenTiedAt
import Derived.Test.YtbhkamemheaajaaGreatDoorQa5
set_option linter.unusedVariables false
set_option linter.unusedSimpArgs false
set_option linter.constructorNameAsVariable false
namespace Go.Proofs.YtbhkamemheaajaaGreatDoor.Vm
open Go Go.RowKit Go.ChangeShapes Go.WideShapes
theorem defsWalk_k6:(Rows.defsWalkRow.stops == [])=true:=by kernel_rfl
theorem defsWalk_k8:(Rows.defsWalkRow.knobs == [])=true:=by kernel_rfl
theorem defsWalk_joined:joinedFacts Tryz.pinned.checked.prog 4 Tryz.f4 Rows.defsWalkSpec Rows.defsWalkRow=true:=by
 simp only [joinedFacts,Bool.and_eq_true]
 exact ⟨⟨⟨⟨⟨⟨⟨⟨⟨⟨⟨⟨⟨⟨⟨⟨⟨⟨⟨⟨⟨⟨⟨⟨⟨⟨⟨⟨⟨⟨⟨defsWalk_k1,fk2⟩,fk3⟩,defsWalk_k4⟩,defsWalk_k5⟩,defsWalk_k6⟩,fk7⟩,defsWalk_k8⟩,fk9⟩,defsWalk_k10⟩,defsWalk_k11⟩,defsWalk_k12⟩,defsWalk_k13⟩,defsWalk_k14⟩,defsWalk_k15⟩,defsWalk_k16⟩,defsWalk_k17⟩,defsWalk_k17b⟩,defsWalk_k18⟩,defsWalk_k19⟩,defsWalk_k20⟩,defsWalk_k21⟩,defsWalk_k22⟩,defsWalk_k23⟩,fk23b⟩,fk24⟩,defsWalk_k24b⟩,defsWalk_k24c⟩,by kernel_rfl⟩,defsWalk_k26⟩,defsWalk_k27⟩,defsWalk_k28⟩
theorem defsWalk_holds:Rows.DefsWalkSaid :=
 OpenClaim.holds_of_wide 4 Tryz.f4 rfl rfl rfl rfl rfl rfl rfl ⟨rfl,rfl,rfl,rfl,rfl⟩ rfl rfl rfl rfl rfl defsWalk_named fn4 defsWalk_joined defsWalk_inst defsWalk_wrap
  (fun os started H enc _=>defsWalk_lifted os started H enc)
end Go.Proofs.YtbhkamemheaajaaGreatDoor.Vm
