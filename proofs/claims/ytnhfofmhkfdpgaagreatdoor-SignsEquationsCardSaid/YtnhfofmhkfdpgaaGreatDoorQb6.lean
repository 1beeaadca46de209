/- A part of the proof: Ek. -/
import Derived.Test.YtnhfofmhkfdpgaaGreatDoorCards
import Derived.Test.YtnhfofmhkfdpgaaGreatDoorTie
import Derived.SevenTiedAt
import Derived.Test.YtnhfofmhkfdpgaaGreatDoorQb5
set_option linter.unusedVariables false
set_option linter.unusedSimpArgs false
set_option linter.constructorNameAsVariable false
namespace Go.Proofs.YtnhfofmhkfdpgaaGreatDoor.Vm
open Go Go.RowKit Go.ChangeShapes Go.WideShapes
theorem signsEquations_k6:(Rows.signsEquationsRow.stops == [])=true:=by kernel_rfl
theorem signsEquations_k8:(Rows.signsEquationsRow.knobs == [])=true:=by kernel_rfl
theorem signsEquations_joined:joinedFacts Tryz.pinned.checked.prog 4 Tryz.f4 Rows.signsEquationsSpec Rows.signsEquationsRow=true:=by
 simp only [joinedFacts,Bool.and_eq_true]
 exact ⟨⟨⟨⟨⟨⟨⟨⟨⟨⟨⟨⟨⟨⟨⟨⟨⟨⟨⟨⟨⟨⟨⟨⟨⟨⟨⟨⟨⟨⟨⟨signsEquations_k1,fk2⟩,fk3⟩,signsEquations_k4⟩,signsEquations_k5⟩,signsEquations_k6⟩,fk7⟩,signsEquations_k8⟩,fk9⟩,signsEquations_k10⟩,signsEquations_k11⟩,signsEquations_k12⟩,signsEquations_k13⟩,signsEquations_k14⟩,signsEquations_k15⟩,signsEquations_k16⟩,signsEquations_k17⟩,signsEquations_k17b⟩,signsEquations_k18⟩,signsEquations_k19⟩,signsEquations_k20⟩,signsEquations_k21⟩,signsEquations_k22⟩,signsEquations_k23⟩,fk23b⟩,fk24⟩,signsEquations_k24b⟩,signsEquations_k24c⟩,by kernel_rfl⟩,signsEquations_k26⟩,signsEquations_k27⟩,signsEquations_k28⟩
theorem signsEquations_holds:Rows.SignsEquationsSaid :=
 OpenClaim.holds_of_wide 4 Tryz.f4 rfl rfl rfl rfl rfl rfl rfl ⟨rfl,rfl,rfl,rfl,rfl⟩ rfl rfl rfl rfl rfl signsEquations_named fn4 signsEquations_joined signsEquations_inst signsEquations_wrap
  (fun os started H enc _=>signsEquations_lifted os started H enc)
end Go.Proofs.YtnhfofmhkfdpgaaGreatDoor.Vm
