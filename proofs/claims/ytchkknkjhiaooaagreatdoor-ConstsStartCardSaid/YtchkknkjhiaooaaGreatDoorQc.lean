/-
  ConstsStart: the tied card: whatever the program and the number that come in, the call returns true, and what came in reads as it did; the library's three variables are tied to the program's text.
-/
import Derived.Test.YtchkknkjhiaooaaGreatDoorQc6
set_option linter.unusedVariables false
set_option linter.unusedSimpArgs false
set_option linter.constructorNameAsVariable false
namespace Go.Proofs.YtchkknkjhiaooaaGreatDoor
open Go
theorem Vm.constsStart_stand3 : Tryz.prog.wantsStandIn 3 = false := by kernel_rfl
theorem Vm.constsStart_res : Tryz.f6.resultTypes.toList = [4] := by kernel_rfl
theorem constsStart_card_holds : Rows.ConstsStartCardSaid :=
  Claim7.holds_tied_plain_at .later [] [.handle, .listed, .data] true (true, "5baea4f5d8c941935c9e774d243bfe95e714a0135eff11ba45757c137dd879c8") true
    Vm.constsStart_holds (fun _ h => by cases h) (by as_aux_lemma => kernel_rfl) (fun _ h => by cases h) constsStart_row_tie rfl ⟨rfl, rfl⟩ (by as_aux_lemma => kernel_rfl) rfl
    (fun f fn hf hfn => by
      obtain rfl : f = 6 := Option.some.inj (Vm.constsStart_named.symm.trans hf) |>.symm
      obtain rfl : fn = Tryz.f6 := (Option.some.inj (Vm.fn6.symm.trans hfn)).symm
      refine ⟨by as_aux_lemma => kernel_rfl, fun j t ht => ?_⟩
      rw [Vm.params6] at ht
      match j, ht with
      | 0, ht =>
        obtain rfl : t = 3 := by simpa using ht.symm
        exact Vm.constsStart_stand3
      | 1, ht =>
        obtain rfl : t = 3 := by simpa using ht.symm
        exact Vm.constsStart_stand3
      | j + 2, ht => simp at ht)
    (by as_aux_lemma => kernel_rfl)
#print axioms constsStart_card_holds
end Go.Proofs.YtchkknkjhiaooaaGreatDoor
