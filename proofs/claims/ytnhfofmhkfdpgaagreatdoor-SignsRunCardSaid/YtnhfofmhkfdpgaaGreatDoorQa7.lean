/- A part of the proof: Ee. -/
import Derived.Test.YtnhfofmhkfdpgaaGreatDoorCards
import Derived.Test.YtnhfofmhkfdpgaaGreatDoorTie
import Derived.SevenTiedAt
import Derived.Test.YtnhfofmhkfdpgaaGreatDoorQa6
set_option linter.unusedVariables false
set_option linter.unusedSimpArgs false
set_option linter.constructorNameAsVariable false
namespace Go.Proofs.YtnhfofmhkfdpgaaGreatDoor.Vm
open Go Go.RowKit Go.ChangeShapes Go.WideShapes
theorem signsRun_k6:(Rows.signsRunRow.stops == [])=true:=by kernel_rfl
theorem signsRun_k8:(Rows.signsRunRow.knobs == [])=true:=by kernel_rfl
theorem signsRun_joined:joinedFacts Tryz.pinned.checked.prog 3 Tryz.f3 Rows.signsRunSpec Rows.signsRunRow=true:=by
 simp only [joinedFacts,Bool.and_eq_true]
 exact ⟨⟨⟨⟨⟨⟨⟨⟨⟨⟨⟨⟨⟨⟨⟨⟨⟨⟨⟨⟨⟨⟨⟨⟨⟨⟨⟨⟨⟨⟨⟨signsRun_k1,fk2⟩,fk3⟩,signsRun_k4⟩,signsRun_k5⟩,signsRun_k6⟩,fk7⟩,signsRun_k8⟩,fk9⟩,signsRun_k10⟩,signsRun_k11⟩,signsRun_k12⟩,signsRun_k13⟩,signsRun_k14⟩,signsRun_k15⟩,signsRun_k16⟩,signsRun_k17⟩,signsRun_k17b⟩,signsRun_k18⟩,signsRun_k19⟩,signsRun_k20⟩,signsRun_k21⟩,signsRun_k22⟩,signsRun_k23⟩,fk23b⟩,fk24⟩,signsRun_k24b⟩,signsRun_k24c⟩,by kernel_rfl⟩,signsRun_k26⟩,signsRun_k27⟩,signsRun_k28⟩
theorem signsRun_holds:Rows.SignsRunSaid :=
 OpenClaim.holds_of_wide 3 Tryz.f3 rfl rfl rfl rfl rfl rfl rfl ⟨rfl,rfl,rfl,rfl,rfl⟩ rfl rfl rfl rfl rfl signsRun_named fn3 signsRun_joined signsRun_inst signsRun_wrap
  (fun os started H enc _=>signsRun_lifted os started H enc)
end Go.Proofs.YtnhfofmhkfdpgaaGreatDoor.Vm
