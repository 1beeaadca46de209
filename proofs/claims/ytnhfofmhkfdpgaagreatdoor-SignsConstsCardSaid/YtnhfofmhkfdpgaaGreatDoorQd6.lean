/- A part of the proof: Ew. -/
import Derived.Test.YtnhfofmhkfdpgaaGreatDoorCards
import Derived.Test.YtnhfofmhkfdpgaaGreatDoorTie
import Derived.SevenTiedAt
import Derived.Test.YtnhfofmhkfdpgaaGreatDoorQd5
set_option linter.unusedVariables false
set_option linter.unusedSimpArgs false
set_option linter.constructorNameAsVariable false
namespace Go.Proofs.YtnhfofmhkfdpgaaGreatDoor.Vm
open Go Go.RowKit Go.ChangeShapes Go.WideShapes
theorem signsConsts_k6:(Rows.signsConstsRow.stops == [])=true:=by kernel_rfl
theorem signsConsts_k8:(Rows.signsConstsRow.knobs == [])=true:=by kernel_rfl
theorem signsConsts_joined:joinedFacts Tryz.pinned.checked.prog 6 Tryz.f6 Rows.signsConstsSpec Rows.signsConstsRow=true:=by
 simp only [joinedFacts,Bool.and_eq_true]
 exact ⟨⟨⟨⟨⟨⟨⟨⟨⟨⟨⟨⟨⟨⟨⟨⟨⟨⟨⟨⟨⟨⟨⟨⟨⟨⟨⟨⟨⟨⟨⟨signsConsts_k1,fk2⟩,fk3⟩,signsConsts_k4⟩,signsConsts_k5⟩,signsConsts_k6⟩,fk7⟩,signsConsts_k8⟩,fk9⟩,signsConsts_k10⟩,signsConsts_k11⟩,signsConsts_k12⟩,signsConsts_k13⟩,signsConsts_k14⟩,signsConsts_k15⟩,signsConsts_k16⟩,signsConsts_k17⟩,signsConsts_k17b⟩,signsConsts_k18⟩,signsConsts_k19⟩,signsConsts_k20⟩,signsConsts_k21⟩,signsConsts_k22⟩,signsConsts_k23⟩,fk23b⟩,fk24⟩,signsConsts_k24b⟩,signsConsts_k24c⟩,by kernel_rfl⟩,signsConsts_k26⟩,signsConsts_k27⟩,signsConsts_k28⟩
theorem signsConsts_holds:Rows.SignsConstsSaid :=
 OpenClaim.holds_of_wide 6 Tryz.f6 rfl rfl rfl rfl rfl rfl rfl ⟨rfl,rfl,rfl,rfl,rfl⟩ rfl rfl rfl rfl rfl signsConsts_named fn6 signsConsts_joined signsConsts_inst signsConsts_wrap
  (fun os started H enc _=>signsConsts_lifted os started H enc)
end Go.Proofs.YtnhfofmhkfdpgaaGreatDoor.Vm
