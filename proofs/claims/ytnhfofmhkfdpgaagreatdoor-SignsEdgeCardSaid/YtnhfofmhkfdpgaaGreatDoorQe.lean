/-
  SignsEdge: the tied card: whatever the program and the number that come in, the call returns true, and what came in reads as it did; the variables of the library that are read are tied to the program's text.
-/
import Derived.Test.YtnhfofmhkfdpgaaGreatDoorQe7
set_option linter.unusedVariables false
set_option linter.unusedSimpArgs false
set_option linter.constructorNameAsVariable false
namespace Go.Proofs.YtnhfofmhkfdpgaaGreatDoor
open Go
theorem Vm.signsEdge_stand3:Tryz.prog.wantsStandIn 3=false:=by kernel_rfl
theorem Vm.signsEdge_stand24:Tryz.prog.wantsStandIn 24=false:=by kernel_rfl
theorem Vm.signsEdge_res:Tryz.f7.resultTypes.toList=[4]:=by kernel_rfl
theorem signsEdge_card_holds:Rows.SignsEdgeCardSaid :=
 Claim7.holds_tied_plain_at .later [] [.handle, .listed, .data] true (true, "4defa697eff80580cef024bb1874b0e5e15ca43f30a6288ee79569458aa0ece6") true
  Vm.signsEdge_holds (fun _ h=>by cases h) (by as_aux_lemma=>kernel_rfl) (fun _ h=>by cases h) signsEdge_row_tie rfl ⟨rfl,rfl⟩ (by as_aux_lemma=>kernel_rfl) rfl
  (fun f fn hf hfn=>by
   obtain rfl:f=7:=Option.some.inj (Vm.signsEdge_named.symm.trans hf) |>.symm;obtain rfl:fn=Tryz.f7:=(Option.some.inj (Vm.fn7.symm.trans hfn)).symm;refine ⟨by as_aux_lemma=>kernel_rfl,fun j t ht=>?_⟩;rw [Vm.params7] at ht
   match j,ht with
   | 0,ht =>
    obtain rfl:t=24:=by simpa using ht.symm
    exact Vm.signsEdge_stand24
   | 1,ht =>
    obtain rfl:t=3:=by simpa using ht.symm
    exact Vm.signsEdge_stand3
   | 2,ht =>
    obtain rfl:t=3:=by simpa using ht.symm
    exact Vm.signsEdge_stand3
   | 3,ht =>
    obtain rfl:t=3:=by simpa using ht.symm
    exact Vm.signsEdge_stand3
   | j + 4,ht=>simp at ht)
  (by as_aux_lemma=>kernel_rfl)
#print axioms signsEdge_card_holds
end Go.Proofs.YtnhfofmhkfdpgaaGreatDoor
