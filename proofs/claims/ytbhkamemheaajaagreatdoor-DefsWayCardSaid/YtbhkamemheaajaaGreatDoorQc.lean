/-
  DefsWay: the tied card: whatever the program and the number that come in, the call returns true, and what came in reads as it did; the library's variables are tied to the program's text.
-/
import Derived.Test.YtbhkamemheaajaaGreatDoorQc6
set_option linter.unusedVariables false
set_option linter.unusedSimpArgs false
set_option linter.constructorNameAsVariable false
namespace Go.Proofs.YtbhkamemheaajaaGreatDoor
open Go
theorem Vm.defsWay_stand3:Tryz.prog.wantsStandIn 3=false:=by kernel_rfl
theorem Vm.defsWay_stand24:Tryz.prog.wantsStandIn 24=false:=by kernel_rfl
theorem Vm.defsWay_res:Tryz.f3.resultTypes.toList=[4]:=by kernel_rfl
theorem defsWay_card_holds:Rows.DefsWayCardSaid :=
 Claim7.holds_tied_plain_at .later [] [.data, .handle, .listed, .data] true (true, "685a3a304511d219d12953d0ba43172aea3500d3c4a321a080571d6e3d1ef68e") true
  Vm.defsWay_holds (fun _ h=>by cases h) (by as_aux_lemma=>kernel_rfl) (fun _ h=>by cases h) defsWay_row_tie rfl ⟨rfl,rfl⟩ (by as_aux_lemma=>kernel_rfl) rfl
  (fun f fn hf hfn=>by
   obtain rfl:f=3:=Option.some.inj (Vm.defsWay_named.symm.trans hf) |>.symm
   obtain rfl:fn=Tryz.f3:=(Option.some.inj (Vm.fn3.symm.trans hfn)).symm
   refine ⟨by as_aux_lemma=>kernel_rfl,fun j t ht=>?_⟩
   rw [Vm.params3] at ht
   match j,ht with
   | 0,ht =>
    obtain rfl:t=24:=by simpa using ht.symm
    exact Vm.defsWay_stand24
   | 1,ht =>
    obtain rfl:t=3:=by simpa using ht.symm
    exact Vm.defsWay_stand3
   | j + 2,ht=>simp at ht)
  (by as_aux_lemma=>kernel_rfl)
#print axioms defsWay_card_holds
end Go.Proofs.YtbhkamemheaajaaGreatDoor
