/- A part of the proof: Ij. -/
import Derived.Test.YtchkknkjhiaooaaGreatDoorCards
import Derived.Test.YtchkknkjhiaooaaGreatDoorTie
import Derived.SevenTiedAt
import Derived.Test.YtchkknkjhiaooaaGreatDoorQ33
namespace Go.Proofs.YtchkknkjhiaooaaGreatDoor.Vm
open Go Go.RowKit Go.ChangeShapes Go.WideShapes
set_option linter.constructorNameAsVariable false
theorem liveWay_k6 : (Rows.liveWayRow.stops == []) = true := by kernel_rfl
theorem liveWay_k8 : (Rows.liveWayRow.knobs == []) = true := by kernel_rfl
theorem liveWay_joined : joinedFacts Tryz.pinned.checked.prog 3 Tryz.f3 Rows.liveWaySpec Rows.liveWayRow = true := by
  simp only [joinedFacts, Bool.and_eq_true]
  exact ⟨⟨⟨⟨⟨⟨⟨⟨⟨⟨⟨⟨⟨⟨⟨⟨⟨⟨⟨⟨⟨⟨⟨⟨⟨⟨⟨⟨⟨⟨⟨liveWay_k1, fk2⟩, fk3⟩, liveWay_k4⟩, liveWay_k5⟩, liveWay_k6⟩, fk7⟩, liveWay_k8⟩, fk9⟩, liveWay_k10⟩, liveWay_k11⟩, liveWay_k12⟩, liveWay_k13⟩, liveWay_k14⟩, liveWay_k15⟩, liveWay_k16⟩, liveWay_k17⟩, liveWay_k17b⟩, liveWay_k18⟩, liveWay_k19⟩, liveWay_k20⟩, liveWay_k21⟩, liveWay_k22⟩, liveWay_k23⟩, fk23b⟩, fk24⟩, liveWay_k24b⟩, liveWay_k24c⟩, by kernel_rfl⟩, liveWay_k26⟩, liveWay_k27⟩, liveWay_k28⟩
theorem liveWay_holds : Rows.LiveWaySaid :=
  OpenClaim.holds_of_wide 3 Tryz.f3 rfl rfl rfl rfl rfl rfl rfl ⟨rfl, rfl, rfl, rfl, rfl⟩ rfl rfl rfl rfl rfl liveWay_named fn3 liveWay_joined liveWay_inst liveWay_wrap
    (fun os started H enc _ => liveWay_lifted os started H enc)
end Go.Proofs.YtchkknkjhiaooaaGreatDoor.Vm
