/-
  SignsConsts: the tied card: whatever the program and the number that come in, the call returns true, and what came in reads as it did; the variables of the library that are read are tied to the program's text.
-/
import Derived.Test.YtnhfofmhkfdpgaaGreatDoorQd6
set_option linter.unusedVariables false
set_option linter.unusedSimpArgs false
set_option linter.constructorNameAsVariable false
namespace Go.Proofs.YtnhfofmhkfdpgaaGreatDoor
open Go
theorem Vm.signsConsts_stand3:Tryz.prog.wantsStandIn 3=false:=by kernel_rfl
theorem Vm.signsConsts_stand24:Tryz.prog.wantsStandIn 24=false:=by kernel_rfl
theorem Vm.signsConsts_res:Tryz.f6.resultTypes.toList=[4]:=by kernel_rfl
theorem signsConsts_card_holds:Rows.SignsConstsCardSaid :=
 Claim7.holds_tied_plain_at .later [] [.handle, .listed, .data] true (true, "4defa697eff80580cef024bb1874b0e5e15ca43f30a6288ee79569458aa0ece6") true
  Vm.signsConsts_holds (fun _ h=>by cases h) (by as_aux_lemma=>kernel_rfl) (fun _ h=>by cases h) signsConsts_row_tie rfl ⟨rfl,rfl⟩ (by as_aux_lemma=>kernel_rfl) rfl
  (fun f fn hf hfn=>by
   obtain rfl:f=6:=Option.some.inj (Vm.signsConsts_named.symm.trans hf) |>.symm
   obtain rfl:fn=Tryz.f6:=(Option.some.inj (Vm.fn6.symm.trans hfn)).symm
   refine ⟨by as_aux_lemma=>kernel_rfl,fun j t ht=>?_⟩
   rw [Vm.params6] at ht
   match j,ht with
   | 0,ht =>
    obtain rfl:t=24:=by simpa using ht.symm
    exact Vm.signsConsts_stand24
   | 1,ht =>
    obtain rfl:t=3:=by simpa using ht.symm
    exact Vm.signsConsts_stand3
   | 2,ht =>
    obtain rfl:t=3:=by simpa using ht.symm
    exact Vm.signsConsts_stand3
   | 3,ht =>
    obtain rfl:t=3:=by simpa using ht.symm
    exact Vm.signsConsts_stand3
   | j + 4,ht=>simp at ht)
  (by as_aux_lemma=>kernel_rfl)
#print axioms signsConsts_card_holds
end Go.Proofs.YtnhfofmhkfdpgaaGreatDoor
