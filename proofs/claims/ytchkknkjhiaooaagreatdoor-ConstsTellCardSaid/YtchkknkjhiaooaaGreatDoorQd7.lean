/- A part of the proof: Jw. -/
import Derived.Test.YtchkknkjhiaooaaGreatDoorCards
import Derived.Test.YtchkknkjhiaooaaGreatDoorTie
import Derived.SevenTiedAt
import Derived.Test.YtchkknkjhiaooaaGreatDoorQd6
set_option linter.unusedVariables false
set_option linter.unusedSimpArgs false
set_option linter.constructorNameAsVariable false
namespace Go.Proofs.YtchkknkjhiaooaaGreatDoor.Vm
open Go Go.RowKit Go.ChangeShapes Go.WideShapes
theorem constsTell_k6 : (Rows.constsTellRow.stops == []) = true := by kernel_rfl
theorem constsTell_k8 : (Rows.constsTellRow.knobs == []) = true := by kernel_rfl
theorem constsTell_joined : joinedFacts Tryz.pinned.checked.prog 7 Tryz.f7 Rows.constsTellSpec Rows.constsTellRow = true := by
  simp only [joinedFacts, Bool.and_eq_true]
  exact ⟨⟨⟨⟨⟨⟨⟨⟨⟨⟨⟨⟨⟨⟨⟨⟨⟨⟨⟨⟨⟨⟨⟨⟨⟨⟨⟨⟨⟨⟨⟨constsTell_k1, fk2⟩, fk3⟩, constsTell_k4⟩, constsTell_k5⟩, constsTell_k6⟩, fk7⟩, constsTell_k8⟩, fk9⟩, constsTell_k10⟩, constsTell_k11⟩, constsTell_k12⟩, constsTell_k13⟩, constsTell_k14⟩, constsTell_k15⟩, constsTell_k16⟩, constsTell_k17⟩, constsTell_k17b⟩, constsTell_k18⟩, constsTell_k19⟩, constsTell_k20⟩, constsTell_k21⟩, constsTell_k22⟩, constsTell_k23⟩, fk23b⟩, fk24⟩, constsTell_k24b⟩, constsTell_k24c⟩, by kernel_rfl⟩, constsTell_k26⟩, constsTell_k27⟩, constsTell_k28⟩
theorem constsTell_holds : Rows.ConstsTellSaid :=
  OpenClaim.holds_of_wide 7 Tryz.f7 rfl rfl rfl rfl rfl rfl rfl ⟨rfl, rfl, rfl, rfl, rfl⟩ rfl rfl rfl rfl rfl constsTell_named fn7 constsTell_joined constsTell_inst constsTell_wrap
    (fun os started H enc _ => constsTell_lifted os started H enc)
end Go.Proofs.YtchkknkjhiaooaaGreatDoor.Vm
