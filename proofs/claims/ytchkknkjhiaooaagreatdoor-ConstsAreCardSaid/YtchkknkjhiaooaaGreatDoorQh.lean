/-
  ConstsAre: the tied card: whatever the program and the number that come in, the call returns true, and what came in reads as it did; the library's three variables are tied to the program's text.
-/
import Derived.Test.YtchkknkjhiaooaaGreatDoorQ41
set_option linter.unusedVariables false
set_option linter.unusedSimpArgs false
set_option linter.constructorNameAsVariable false
namespace Go.Proofs.YtchkknkjhiaooaaGreatDoor
open Go
theorem Vm.constsAre_stand3:Tryz.prog.wantsStandIn 3=false:=by kernel_rfl
theorem Vm.constsAre_stand24:Tryz.prog.wantsStandIn 24=false:=by kernel_rfl
theorem Vm.constsAre_res:Tryz.f5.resultTypes.toList=[4]:=by kernel_rfl
theorem constsAre_card_holds:Rows.ConstsAreCardSaid :=
 Claim7.holds_tied_plain_at .later [] [.handle, .listed, .data] true (true, "5baea4f5d8c941935c9e774d243bfe95e714a0135eff11ba45757c137dd879c8") true
  Vm.constsAre_holds (fun _ h=>by cases h) (by as_aux_lemma=>kernel_rfl) (fun _ h=>by cases h) constsAre_row_tie rfl ⟨rfl,rfl⟩ (by as_aux_lemma=>kernel_rfl) rfl
  (fun f fn hf hfn=>by
   obtain rfl:f=5:=Option.some.inj (Vm.constsAre_named.symm.trans hf) |>.symm
   obtain rfl:fn=Tryz.f5:=(Option.some.inj (Vm.fn5.symm.trans hfn)).symm
   refine ⟨by as_aux_lemma=>kernel_rfl,fun j t ht=>?_⟩
   rw [Vm.params5] at ht
   match j,ht with
   | 0,ht =>
    obtain rfl:t=24:=by simpa using ht.symm
    exact Vm.constsAre_stand24
   | 1,ht =>
    obtain rfl:t=3:=by simpa using ht.symm
    exact Vm.constsAre_stand3
   | 2,ht =>
    obtain rfl:t=3:=by simpa using ht.symm
    exact Vm.constsAre_stand3
   | 3,ht =>
    obtain rfl:t=3:=by simpa using ht.symm
    exact Vm.constsAre_stand3
   | 4,ht =>
    obtain rfl:t=3:=by simpa using ht.symm
    exact Vm.constsAre_stand3
   | j + 5,ht=>simp at ht)
  (by as_aux_lemma=>kernel_rfl)
#print axioms constsAre_card_holds
end Go.Proofs.YtchkknkjhiaooaaGreatDoor
