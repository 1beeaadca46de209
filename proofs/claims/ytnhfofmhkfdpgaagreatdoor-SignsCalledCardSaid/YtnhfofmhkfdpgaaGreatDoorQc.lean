/-
  SignsCalled: the tied card: whatever the program and the number that come in, the call returns true, and what came in reads as it did; the variables of the library that are read are tied to the program's text.
-/
import Derived.Test.YtnhfofmhkfdpgaaGreatDoorQc7
set_option linter.unusedVariables false
set_option linter.unusedSimpArgs false
set_option linter.constructorNameAsVariable false
namespace Go.Proofs.YtnhfofmhkfdpgaaGreatDoor
open Go
theorem Vm.signsCalled_stand24:Tryz.prog.wantsStandIn 24=false:=by kernel_rfl
theorem Vm.signsCalled_res:Tryz.f5.resultTypes.toList=[4]:=by kernel_rfl
theorem signsCalled_card_holds:Rows.SignsCalledCardSaid :=
 Claim7.holds_tied_plain_at .later [] [.handle, .listed, .data] true (true, "4defa697eff80580cef024bb1874b0e5e15ca43f30a6288ee79569458aa0ece6") true
  Vm.signsCalled_holds (fun _ h=>by cases h) (by as_aux_lemma=>kernel_rfl) (fun _ h=>by cases h) signsCalled_row_tie rfl ⟨rfl,rfl⟩ (by as_aux_lemma=>kernel_rfl) rfl
  (fun f fn hf hfn=>by
   obtain rfl:f=5:=Option.some.inj (Vm.signsCalled_named.symm.trans hf) |>.symm
   obtain rfl:fn=Tryz.f5:=(Option.some.inj (Vm.fn5.symm.trans hfn)).symm
   refine ⟨by as_aux_lemma=>kernel_rfl,fun j t ht=>?_⟩
   rw [Vm.params5] at ht
   match j,ht with
   | 0,ht =>
    obtain rfl:t=24:=by simpa using ht.symm
    exact Vm.signsCalled_stand24
   | j + 1,ht=>simp at ht)
  (by as_aux_lemma=>kernel_rfl)
#print axioms signsCalled_card_holds
end Go.Proofs.YtnhfofmhkfdpgaaGreatDoor
