/-
  SignsEquations: the tied card: whatever the program and the number that come in, the call returns true, and what came in reads as it did; the variables of the library that are read are tied to the program's text.
-/
import Derived.Test.YtnhfofmhkfdpgaaGreatDoorQb6
set_option linter.unusedVariables false
set_option linter.unusedSimpArgs false
set_option linter.constructorNameAsVariable false
namespace Go.Proofs.YtnhfofmhkfdpgaaGreatDoor
open Go
theorem Vm.signsEquations_stand24:Tryz.prog.wantsStandIn 24=false:=by kernel_rfl
theorem Vm.signsEquations_res:Tryz.f4.resultTypes.toList=[4]:=by kernel_rfl
theorem signsEquations_card_holds:Rows.SignsEquationsCardSaid :=
 Claim7.holds_tied_plain_at .later [] [.handle, .listed, .data] true (true, "4defa697eff80580cef024bb1874b0e5e15ca43f30a6288ee79569458aa0ece6") true
  Vm.signsEquations_holds (fun _ h=>by cases h) (by as_aux_lemma=>kernel_rfl) (fun _ h=>by cases h) signsEquations_row_tie rfl ⟨rfl,rfl⟩ (by as_aux_lemma=>kernel_rfl) rfl
  (fun f fn hf hfn=>by
   obtain rfl:f=4:=Option.some.inj (Vm.signsEquations_named.symm.trans hf) |>.symm
   obtain rfl:fn=Tryz.f4:=(Option.some.inj (Vm.fn4.symm.trans hfn)).symm
   refine ⟨by as_aux_lemma=>kernel_rfl,fun j t ht=>?_⟩
   rw [Vm.params4] at ht
   match j,ht with
   | 0,ht =>
    obtain rfl:t=24:=by simpa using ht.symm
    exact Vm.signsEquations_stand24
   | j + 1,ht=>simp at ht)
  (by as_aux_lemma=>kernel_rfl)
#print axioms signsEquations_card_holds
end Go.Proofs.YtnhfofmhkfdpgaaGreatDoor
