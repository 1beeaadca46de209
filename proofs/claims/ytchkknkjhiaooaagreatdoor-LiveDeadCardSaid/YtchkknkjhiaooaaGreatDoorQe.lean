/-
  LiveDead: the tied card: whatever the program and the number that come in, the call returns true, and what came in reads as it did; the library's three variables are tied to the program's text.
-/
import Derived.Test.YtchkknkjhiaooaaGreatDoorQe6
set_option linter.unusedVariables false
set_option linter.unusedSimpArgs false
set_option linter.constructorNameAsVariable false
namespace Go.Proofs.YtchkknkjhiaooaaGreatDoor
open Go
theorem Vm.liveDead_stand24 : Tryz.prog.wantsStandIn 24 = false := by kernel_rfl
theorem Vm.liveDead_res : Tryz.f10.resultTypes.toList = [4] := by kernel_rfl
theorem liveDead_card_holds : Rows.LiveDeadCardSaid :=
  Claim7.holds_tied_plain_at .later [] [.handle, .listed, .data] true (true, "5baea4f5d8c941935c9e774d243bfe95e714a0135eff11ba45757c137dd879c8") true
    Vm.liveDead_holds (fun _ h => by cases h) (by as_aux_lemma => kernel_rfl) (fun _ h => by cases h) liveDead_row_tie rfl ⟨rfl, rfl⟩ (by as_aux_lemma => kernel_rfl) rfl
    (fun f fn hf hfn => by
      obtain rfl : f = 10 := Option.some.inj (Vm.liveDead_named.symm.trans hf) |>.symm
      obtain rfl : fn = Tryz.f10 := (Option.some.inj (Vm.fn10.symm.trans hfn)).symm
      refine ⟨by as_aux_lemma => kernel_rfl, fun j t ht => ?_⟩
      rw [Vm.params10] at ht
      match j, ht with
      | 0, ht =>
        obtain rfl : t = 24 := by simpa using ht.symm
        exact Vm.liveDead_stand24
      | j + 1, ht => simp at ht)
    (by as_aux_lemma => kernel_rfl)
#print axioms liveDead_card_holds
end Go.Proofs.YtchkknkjhiaooaaGreatDoor
