/- A part of the proof: Pe. -/
import Derived.Test.YtchkknkjhiaooaaGreatDoorCards
import Derived.Test.YtchkknkjhiaooaaGreatDoorTie
import Derived.SevenTiedAt
import Derived.Test.YtchkknkjhiaooaaGreatDoorQ40
set_option linter.unusedVariables false
set_option linter.unusedSimpArgs false
set_option linter.constructorNameAsVariable false
namespace Go.Proofs.YtchkknkjhiaooaaGreatDoor.Vm
open Go Go.RowKit Go.ChangeShapes Go.WideShapes
theorem constsAre_k6:(Rows.constsAreRow.stops == [])=true:=by kernel_rfl
theorem constsAre_k8:(Rows.constsAreRow.knobs == [])=true:=by kernel_rfl
theorem constsAre_joined:joinedFacts Tryz.pinned.checked.prog 5 Tryz.f5 Rows.constsAreSpec Rows.constsAreRow=true:=by
 simp only [joinedFacts,Bool.and_eq_true]
 exact ⟨⟨⟨⟨⟨⟨⟨⟨⟨⟨⟨⟨⟨⟨⟨⟨⟨⟨⟨⟨⟨⟨⟨⟨⟨⟨⟨⟨⟨⟨⟨constsAre_k1,fk2⟩,fk3⟩,constsAre_k4⟩,constsAre_k5⟩,constsAre_k6⟩,fk7⟩,constsAre_k8⟩,fk9⟩,constsAre_k10⟩,constsAre_k11⟩,constsAre_k12⟩,constsAre_k13⟩,constsAre_k14⟩,constsAre_k15⟩,constsAre_k16⟩,constsAre_k17⟩,constsAre_k17b⟩,constsAre_k18⟩,constsAre_k19⟩,constsAre_k20⟩,constsAre_k21⟩,constsAre_k22⟩,constsAre_k23⟩,fk23b⟩,fk24⟩,constsAre_k24b⟩,constsAre_k24c⟩,by kernel_rfl⟩,constsAre_k26⟩,constsAre_k27⟩,constsAre_k28⟩
theorem constsAre_holds:Rows.ConstsAreSaid :=
 OpenClaim.holds_of_wide 5 Tryz.f5 rfl rfl rfl rfl rfl rfl rfl ⟨rfl,rfl,rfl,rfl,rfl⟩ rfl rfl rfl rfl rfl constsAre_named fn5 constsAre_joined constsAre_inst constsAre_wrap
  (fun os started H enc _=>constsAre_lifted os started H enc)
end Go.Proofs.YtchkknkjhiaooaaGreatDoor.Vm
