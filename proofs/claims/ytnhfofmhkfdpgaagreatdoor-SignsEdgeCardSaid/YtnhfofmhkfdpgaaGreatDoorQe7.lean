/- A part of the proof: EE. -/
import Derived.Test.YtnhfofmhkfdpgaaGreatDoorCards
import Derived.Test.YtnhfofmhkfdpgaaGreatDoorTie
import Derived.SevenTiedAt
import Derived.Test.YtnhfofmhkfdpgaaGreatDoorQe6
set_option linter.unusedVariables false
set_option linter.unusedSimpArgs false
set_option linter.constructorNameAsVariable false
namespace Go.Proofs.YtnhfofmhkfdpgaaGreatDoor.Vm
open Go Go.RowKit Go.ChangeShapes Go.WideShapes
theorem signsEdge_k6:(Rows.signsEdgeRow.stops == [])=true:=by kernel_rfl
theorem signsEdge_k8:(Rows.signsEdgeRow.knobs == [])=true:=by kernel_rfl
theorem signsEdge_joined:joinedFacts Tryz.pinned.checked.prog 7 Tryz.f7 Rows.signsEdgeSpec Rows.signsEdgeRow=true:=by
 simp only [joinedFacts,Bool.and_eq_true];exact ⟨⟨⟨⟨⟨⟨⟨⟨⟨⟨⟨⟨⟨⟨⟨⟨⟨⟨⟨⟨⟨⟨⟨⟨⟨⟨⟨⟨⟨⟨⟨signsEdge_k1,fk2⟩,fk3⟩,signsEdge_k4⟩,signsEdge_k5⟩,signsEdge_k6⟩,fk7⟩,signsEdge_k8⟩,fk9⟩,signsEdge_k10⟩,signsEdge_k11⟩,signsEdge_k12⟩,signsEdge_k13⟩,signsEdge_k14⟩,signsEdge_k15⟩,signsEdge_k16⟩,signsEdge_k17⟩,signsEdge_k17b⟩,signsEdge_k18⟩,signsEdge_k19⟩,signsEdge_k20⟩,signsEdge_k21⟩,signsEdge_k22⟩,signsEdge_k23⟩,fk23b⟩,fk24⟩,signsEdge_k24b⟩,signsEdge_k24c⟩,by kernel_rfl⟩,signsEdge_k26⟩,signsEdge_k27⟩,signsEdge_k28⟩
theorem signsEdge_holds:Rows.SignsEdgeSaid :=
 OpenClaim.holds_of_wide 7 Tryz.f7 rfl rfl rfl rfl rfl rfl rfl ⟨rfl,rfl,rfl,rfl,rfl⟩ rfl rfl rfl rfl rfl signsEdge_named fn7 signsEdge_joined signsEdge_inst signsEdge_wrap
  (fun os started H enc _=>signsEdge_lifted os started H enc)
end Go.Proofs.YtnhfofmhkfdpgaaGreatDoor.Vm
