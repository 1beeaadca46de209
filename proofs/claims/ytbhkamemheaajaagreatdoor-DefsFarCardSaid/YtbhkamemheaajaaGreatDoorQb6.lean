/- A part of the proof: Bk. -/
import Derived.Test.YtbhkamemheaajaaGreatDoorCards
import Derived.Test.YtbhkamemheaajaaGreatDoorTie
import Derived.SevenTiedAt
import Derived.Test.YtbhkamemheaajaaGreatDoorQb5
set_option linter.unusedVariables false
set_option linter.unusedSimpArgs false
set_option linter.constructorNameAsVariable false
namespace Go.Proofs.YtbhkamemheaajaaGreatDoor.Vm
open Go Go.RowKit Go.ChangeShapes Go.WideShapes
theorem defsFar_k6:(Rows.defsFarRow.stops == [])=true:=by kernel_rfl
theorem defsFar_k8:(Rows.defsFarRow.knobs == [])=true:=by kernel_rfl
theorem defsFar_joined:joinedFacts Tryz.pinned.checked.prog 5 Tryz.f5 Rows.defsFarSpec Rows.defsFarRow=true:=by
 simp only [joinedFacts,Bool.and_eq_true]
 exact ⟨⟨⟨⟨⟨⟨⟨⟨⟨⟨⟨⟨⟨⟨⟨⟨⟨⟨⟨⟨⟨⟨⟨⟨⟨⟨⟨⟨⟨⟨⟨defsFar_k1,fk2⟩,fk3⟩,defsFar_k4⟩,defsFar_k5⟩,defsFar_k6⟩,fk7⟩,defsFar_k8⟩,fk9⟩,defsFar_k10⟩,defsFar_k11⟩,defsFar_k12⟩,defsFar_k13⟩,defsFar_k14⟩,defsFar_k15⟩,defsFar_k16⟩,defsFar_k17⟩,defsFar_k17b⟩,defsFar_k18⟩,defsFar_k19⟩,defsFar_k20⟩,defsFar_k21⟩,defsFar_k22⟩,defsFar_k23⟩,fk23b⟩,fk24⟩,defsFar_k24b⟩,defsFar_k24c⟩,by kernel_rfl⟩,defsFar_k26⟩,defsFar_k27⟩,defsFar_k28⟩
theorem defsFar_holds:Rows.DefsFarSaid :=
 OpenClaim.holds_of_wide 5 Tryz.f5 rfl rfl rfl rfl rfl rfl rfl ⟨rfl,rfl,rfl,rfl,rfl⟩ rfl rfl rfl rfl rfl defsFar_named fn5 defsFar_joined defsFar_inst defsFar_wrap
  (fun os started H enc _=>defsFar_lifted os started H enc)
end Go.Proofs.YtbhkamemheaajaaGreatDoor.Vm
