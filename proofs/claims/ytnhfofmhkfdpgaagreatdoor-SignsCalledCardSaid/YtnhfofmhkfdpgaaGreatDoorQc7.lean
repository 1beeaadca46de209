/- A part of the proof: Eq. -/
import Derived.Test.YtnhfofmhkfdpgaaGreatDoorCards
import Derived.Test.YtnhfofmhkfdpgaaGreatDoorTie
import Derived.SevenTiedAt
import Derived.Test.YtnhfofmhkfdpgaaGreatDoorQc6
set_option linter.unusedVariables false
set_option linter.unusedSimpArgs false
set_option linter.constructorNameAsVariable false
namespace Go.Proofs.YtnhfofmhkfdpgaaGreatDoor.Vm
open Go Go.RowKit Go.ChangeShapes Go.WideShapes
theorem signsCalled_k6:(Rows.signsCalledRow.stops == [])=true:=by kernel_rfl
theorem signsCalled_k8:(Rows.signsCalledRow.knobs == [])=true:=by kernel_rfl
theorem signsCalled_joined:joinedFacts Tryz.pinned.checked.prog 5 Tryz.f5 Rows.signsCalledSpec Rows.signsCalledRow=true:=by
 simp only [joinedFacts,Bool.and_eq_true]
 exact ⟨⟨⟨⟨⟨⟨⟨⟨⟨⟨⟨⟨⟨⟨⟨⟨⟨⟨⟨⟨⟨⟨⟨⟨⟨⟨⟨⟨⟨⟨⟨signsCalled_k1,fk2⟩,fk3⟩,signsCalled_k4⟩,signsCalled_k5⟩,signsCalled_k6⟩,fk7⟩,signsCalled_k8⟩,fk9⟩,signsCalled_k10⟩,signsCalled_k11⟩,signsCalled_k12⟩,signsCalled_k13⟩,signsCalled_k14⟩,signsCalled_k15⟩,signsCalled_k16⟩,signsCalled_k17⟩,signsCalled_k17b⟩,signsCalled_k18⟩,signsCalled_k19⟩,signsCalled_k20⟩,signsCalled_k21⟩,signsCalled_k22⟩,signsCalled_k23⟩,fk23b⟩,fk24⟩,signsCalled_k24b⟩,signsCalled_k24c⟩,by kernel_rfl⟩,signsCalled_k26⟩,signsCalled_k27⟩,signsCalled_k28⟩
theorem signsCalled_holds:Rows.SignsCalledSaid :=
 OpenClaim.holds_of_wide 5 Tryz.f5 rfl rfl rfl rfl rfl rfl rfl ⟨rfl,rfl,rfl,rfl,rfl⟩ rfl rfl rfl rfl rfl signsCalled_named fn5 signsCalled_joined signsCalled_inst signsCalled_wrap
  (fun os started H enc _=>signsCalled_lifted os started H enc)
end Go.Proofs.YtnhfofmhkfdpgaaGreatDoor.Vm
