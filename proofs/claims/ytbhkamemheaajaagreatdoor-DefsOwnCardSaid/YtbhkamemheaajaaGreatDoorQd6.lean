/- A part of the proof: Bw. -/
import Derived.Test.YtbhkamemheaajaaGreatDoorCards
import Derived.Test.YtbhkamemheaajaaGreatDoorTie
import Derived.SevenTiedAt
import Derived.Test.YtbhkamemheaajaaGreatDoorQd5
set_option linter.unusedVariables false
set_option linter.unusedSimpArgs false
set_option linter.constructorNameAsVariable false
namespace Go.Proofs.YtbhkamemheaajaaGreatDoor.Vm
open Go Go.RowKit Go.ChangeShapes Go.WideShapes
theorem defsOwn_k6:(Rows.defsOwnRow.stops == [])=true:=by kernel_rfl
theorem defsOwn_k8:(Rows.defsOwnRow.knobs == [])=true:=by kernel_rfl
theorem defsOwn_joined:joinedFacts Tryz.pinned.checked.prog 6 Tryz.f6 Rows.defsOwnSpec Rows.defsOwnRow=true:=by
 simp only [joinedFacts,Bool.and_eq_true]
 exact ⟨⟨⟨⟨⟨⟨⟨⟨⟨⟨⟨⟨⟨⟨⟨⟨⟨⟨⟨⟨⟨⟨⟨⟨⟨⟨⟨⟨⟨⟨⟨defsOwn_k1,fk2⟩,fk3⟩,defsOwn_k4⟩,defsOwn_k5⟩,defsOwn_k6⟩,fk7⟩,defsOwn_k8⟩,fk9⟩,defsOwn_k10⟩,defsOwn_k11⟩,defsOwn_k12⟩,defsOwn_k13⟩,defsOwn_k14⟩,defsOwn_k15⟩,defsOwn_k16⟩,defsOwn_k17⟩,defsOwn_k17b⟩,defsOwn_k18⟩,defsOwn_k19⟩,defsOwn_k20⟩,defsOwn_k21⟩,defsOwn_k22⟩,defsOwn_k23⟩,fk23b⟩,fk24⟩,defsOwn_k24b⟩,defsOwn_k24c⟩,by kernel_rfl⟩,defsOwn_k26⟩,defsOwn_k27⟩,defsOwn_k28⟩
theorem defsOwn_holds:Rows.DefsOwnSaid :=
 OpenClaim.holds_of_wide 6 Tryz.f6 rfl rfl rfl rfl rfl rfl rfl ⟨rfl,rfl,rfl,rfl,rfl⟩ rfl rfl rfl rfl rfl defsOwn_named fn6 defsOwn_joined defsOwn_inst defsOwn_wrap
  (fun os started H enc _=>defsOwn_lifted os started H enc)
end Go.Proofs.YtbhkamemheaajaaGreatDoor.Vm
