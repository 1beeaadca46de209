/-
  LiveRead: the tied card: whatever the program and the number that come in, the call returns true, and what came in reads as it did; the library's three variables are tied to the program's text.
-/
import Derived.Test.YtchkknkjhiaooaaGreatDoorQg6
set_option linter.unusedVariables false
set_option linter.unusedSimpArgs false
set_option linter.constructorNameAsVariable false
namespace Go.Proofs.YtchkknkjhiaooaaGreatDoor
open Go
theorem Vm.liveRead_stand3 : Tryz.prog.wantsStandIn 3 = false := by kernel_rfl
theorem Vm.liveRead_stand24 : Tryz.prog.wantsStandIn 24 = false := by kernel_rfl
theorem Vm.liveRead_res : Tryz.f12.resultTypes.toList = [4] := by kernel_rfl
theorem liveRead_card_holds : Rows.LiveReadCardSaid :=
  Claim7.holds_tied_plain_at .later [] [.handle, .listed, .data] true (true, "5baea4f5d8c941935c9e774d243bfe95e714a0135eff11ba45757c137dd879c8") true
    Vm.liveRead_holds (fun _ h => by cases h) (by as_aux_lemma => kernel_rfl) (fun _ h => by cases h) liveRead_row_tie rfl ⟨rfl, rfl⟩ (by as_aux_lemma => kernel_rfl) rfl
    (fun f fn hf hfn => by
      obtain rfl : f = 12 := Option.some.inj (Vm.liveRead_named.symm.trans hf) |>.symm
      obtain rfl : fn = Tryz.f12 := (Option.some.inj (Vm.fn12.symm.trans hfn)).symm
      refine ⟨by as_aux_lemma => kernel_rfl, fun j t ht => ?_⟩
      rw [Vm.params12] at ht
      match j, ht with
      | 0, ht =>
        obtain rfl : t = 24 := by simpa using ht.symm
        exact Vm.liveRead_stand24
      | 1, ht =>
        obtain rfl : t = 3 := by simpa using ht.symm
        exact Vm.liveRead_stand3
      | j + 2, ht => simp at ht)
    (by as_aux_lemma => kernel_rfl)
#print axioms liveRead_card_holds
end Go.Proofs.YtchkknkjhiaooaaGreatDoor
