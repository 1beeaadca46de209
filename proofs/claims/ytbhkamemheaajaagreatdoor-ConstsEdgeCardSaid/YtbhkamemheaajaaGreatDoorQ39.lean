/- A part of the proof: BE. -/
import Derived.Test.YtbhkamemheaajaaGreatDoorCards
import Derived.Test.YtbhkamemheaajaaGreatDoorTie
import Derived.SevenTiedAt
import Derived.Test.YtbhkamemheaajaaGreatDoorQ38
set_option linter.unusedVariables false
set_option linter.unusedSimpArgs false
set_option linter.constructorNameAsVariable false
namespace Go.Proofs.YtbhkamemheaajaaGreatDoor.Vm
open Go Go.RowKit Go.ChangeShapes Go.WideShapes
theorem constsEdge_k6:(Rows.constsEdgeRow.stops == [])=true:=by kernel_rfl
theorem constsEdge_k8:(Rows.constsEdgeRow.knobs == [])=true:=by kernel_rfl
theorem constsEdge_joined:joinedFacts Tryz.pinned.checked.prog 7 Tryz.f7 Rows.constsEdgeSpec Rows.constsEdgeRow=true:=by
 simp only [joinedFacts,Bool.and_eq_true]
 exact ⟨⟨⟨⟨⟨⟨⟨⟨⟨⟨⟨⟨⟨⟨⟨⟨⟨⟨⟨⟨⟨⟨⟨⟨⟨⟨⟨⟨⟨⟨⟨constsEdge_k1,fk2⟩,fk3⟩,constsEdge_k4⟩,constsEdge_k5⟩,constsEdge_k6⟩,fk7⟩,constsEdge_k8⟩,fk9⟩,constsEdge_k10⟩,constsEdge_k11⟩,constsEdge_k12⟩,constsEdge_k13⟩,constsEdge_k14⟩,constsEdge_k15⟩,constsEdge_k16⟩,constsEdge_k17⟩,constsEdge_k17b⟩,constsEdge_k18⟩,constsEdge_k19⟩,constsEdge_k20⟩,constsEdge_k21⟩,constsEdge_k22⟩,constsEdge_k23⟩,fk23b⟩,fk24⟩,constsEdge_k24b⟩,constsEdge_k24c⟩,by kernel_rfl⟩,constsEdge_k26⟩,constsEdge_k27⟩,constsEdge_k28⟩
theorem constsEdge_holds:Rows.ConstsEdgeSaid :=
 OpenClaim.holds_of_wide 7 Tryz.f7 rfl rfl rfl rfl rfl rfl rfl ⟨rfl,rfl,rfl,rfl,rfl⟩ rfl rfl rfl rfl rfl constsEdge_named fn7 constsEdge_joined constsEdge_inst constsEdge_wrap
  (fun os started H enc _=>constsEdge_lifted os started H enc)
end Go.Proofs.YtbhkamemheaajaaGreatDoor.Vm
