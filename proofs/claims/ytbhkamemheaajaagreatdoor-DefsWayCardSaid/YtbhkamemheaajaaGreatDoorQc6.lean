/- A part of the proof: Bq. -/
import Derived.Test.YtbhkamemheaajaaGreatDoorCards
import Derived.Test.YtbhkamemheaajaaGreatDoorTie
import Derived.SevenTiedAt
import Derived.Test.YtbhkamemheaajaaGreatDoorQc5
set_option linter.unusedVariables false
set_option linter.unusedSimpArgs false
set_option linter.constructorNameAsVariable false
namespace Go.Proofs.YtbhkamemheaajaaGreatDoor.Vm
open Go Go.RowKit Go.ChangeShapes Go.WideShapes
theorem defsWay_k6:(Rows.defsWayRow.stops == [])=true:=by kernel_rfl
theorem defsWay_k8:(Rows.defsWayRow.knobs == [])=true:=by kernel_rfl
theorem defsWay_joined:joinedFacts Tryz.pinned.checked.prog 3 Tryz.f3 Rows.defsWaySpec Rows.defsWayRow=true:=by
 simp only [joinedFacts,Bool.and_eq_true]
 exact ⟨⟨⟨⟨⟨⟨⟨⟨⟨⟨⟨⟨⟨⟨⟨⟨⟨⟨⟨⟨⟨⟨⟨⟨⟨⟨⟨⟨⟨⟨⟨defsWay_k1,fk2⟩,fk3⟩,defsWay_k4⟩,defsWay_k5⟩,defsWay_k6⟩,fk7⟩,defsWay_k8⟩,fk9⟩,defsWay_k10⟩,defsWay_k11⟩,defsWay_k12⟩,defsWay_k13⟩,defsWay_k14⟩,defsWay_k15⟩,defsWay_k16⟩,defsWay_k17⟩,defsWay_k17b⟩,defsWay_k18⟩,defsWay_k19⟩,defsWay_k20⟩,defsWay_k21⟩,defsWay_k22⟩,defsWay_k23⟩,fk23b⟩,fk24⟩,defsWay_k24b⟩,defsWay_k24c⟩,by kernel_rfl⟩,defsWay_k26⟩,defsWay_k27⟩,defsWay_k28⟩
theorem defsWay_holds:Rows.DefsWaySaid :=
 OpenClaim.holds_of_wide 3 Tryz.f3 rfl rfl rfl rfl rfl rfl rfl ⟨rfl,rfl,rfl,rfl,rfl⟩ rfl rfl rfl rfl rfl defsWay_named fn3 defsWay_joined defsWay_inst defsWay_wrap
  (fun os started H enc _=>defsWay_lifted os started H enc)
end Go.Proofs.YtbhkamemheaajaaGreatDoor.Vm
