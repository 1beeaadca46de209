/-
  LiveWay: the tied card: whatever the program and the number that come in, the call returns true, and what came in reads as it did; the library's three variables are tied to the program's text.
-/
import Derived.Test.YtchkknkjhiaooaaGreatDoorQ34
namespace Go.Proofs.YtchkknkjhiaooaaGreatDoor
open Go
set_option linter.constructorNameAsVariable false
theorem Vm.liveWay_stand : (fun (n : TypeId) => Tryz.prog.wantsStandIn n) 24 = false ∧ Tryz.prog.wantsStandIn 3 = false := ⟨by kernel_rfl, by kernel_rfl⟩
theorem Vm.liveWay_res : Tryz.f3.resultTypes.toList = [4] := by kernel_rfl
theorem liveWay_card_holds : Rows.LiveWayCardSaid :=
  Claim7.holds_tied_plain_at .later [] [.handle, .listed, .data] true (true, "5baea4f5d8c941935c9e774d243bfe95e714a0135eff11ba45757c137dd879c8") true
    Vm.liveWay_holds (fun _ h => by cases h) (by as_aux_lemma => kernel_rfl) (fun _ h => by cases h) liveWay_row_tie rfl ⟨rfl, rfl⟩ (by as_aux_lemma => kernel_rfl) rfl
    (fun f fn hf hfn => by
      obtain rfl : f = 3 := Option.some.inj (Vm.liveWay_named.symm.trans hf) |>.symm
      obtain rfl : fn = Tryz.f3 := (Option.some.inj (Vm.fn3.symm.trans hfn)).symm
      refine ⟨by as_aux_lemma => kernel_rfl, fun j t ht => ?_⟩
      rw [Vm.params3] at ht
      match j, ht with
      | 0, ht =>
        obtain rfl : t = 24 := by simpa using ht.symm
        exact Vm.liveWay_stand.1
      | 1, ht =>
        obtain rfl : t = 3 := by simpa using ht.symm
        exact Vm.liveWay_stand.2
      | j + 2, ht => simp at ht)
    (by as_aux_lemma => kernel_rfl)
#print axioms liveWay_card_holds
end Go.Proofs.YtchkknkjhiaooaaGreatDoor
