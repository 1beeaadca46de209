/- A part of the proof: Ne. -/
import Derived.Test.YtchkknkjhiaooaaGreatDoorCards
import Derived.Test.YtchkknkjhiaooaaGreatDoorTie
import Derived.SevenTiedAt
import Derived.Test.YtchkknkjhiaooaaGreatDoorQg5
set_option linter.unusedVariables false
set_option linter.unusedSimpArgs false
set_option linter.constructorNameAsVariable false
namespace Go.Proofs.YtchkknkjhiaooaaGreatDoor.Vm
open Go Go.RowKit Go.ChangeShapes Go.WideShapes
theorem liveRead_k6 : (Rows.liveReadRow.stops == []) = true := by kernel_rfl
theorem liveRead_k8 : (Rows.liveReadRow.knobs == []) = true := by kernel_rfl
theorem liveRead_joined : joinedFacts Tryz.pinned.checked.prog 12 Tryz.f12 Rows.liveReadSpec Rows.liveReadRow = true := by
  simp only [joinedFacts, Bool.and_eq_true]
  exact ⟨⟨⟨⟨⟨⟨⟨⟨⟨⟨⟨⟨⟨⟨⟨⟨⟨⟨⟨⟨⟨⟨⟨⟨⟨⟨⟨⟨⟨⟨⟨liveRead_k1, fk2⟩, fk3⟩, liveRead_k4⟩, liveRead_k5⟩, liveRead_k6⟩, fk7⟩, liveRead_k8⟩, fk9⟩, liveRead_k10⟩, liveRead_k11⟩, liveRead_k12⟩, liveRead_k13⟩, liveRead_k14⟩, liveRead_k15⟩, liveRead_k16⟩, liveRead_k17⟩, liveRead_k17b⟩, liveRead_k18⟩, liveRead_k19⟩, liveRead_k20⟩, liveRead_k21⟩, liveRead_k22⟩, liveRead_k23⟩, fk23b⟩, fk24⟩, liveRead_k24b⟩, liveRead_k24c⟩, by kernel_rfl⟩, liveRead_k26⟩, liveRead_k27⟩, liveRead_k28⟩
theorem liveRead_holds : Rows.LiveReadSaid :=
  OpenClaim.holds_of_wide 12 Tryz.f12 rfl rfl rfl rfl rfl rfl rfl ⟨rfl, rfl, rfl, rfl, rfl⟩ rfl rfl rfl rfl rfl liveRead_named fn12 liveRead_joined liveRead_inst liveRead_wrap
    (fun os started H enc _ => liveRead_lifted os started H enc)
end Go.Proofs.YtchkknkjhiaooaaGreatDoor.Vm
