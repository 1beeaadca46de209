/-
  DefsOwn: the tied card: whatever the program and the number that come in, the call returns true, and what came in reads as it did; the library's variables are tied to the program's text.
-/
import Derived.Test.YtbhkamemheaajaaGreatDoorQd6
set_option linter.unusedVariables false
set_option linter.unusedSimpArgs false
set_option linter.constructorNameAsVariable false
namespace Go.Proofs.YtbhkamemheaajaaGreatDoor
open Go
theorem Vm.defsOwn_stand3:Tryz.prog.wantsStandIn 3=false:=by kernel_rfl
theorem Vm.defsOwn_stand24:Tryz.prog.wantsStandIn 24=false:=by kernel_rfl
theorem Vm.defsOwn_res:Tryz.f6.resultTypes.toList=[4]:=by kernel_rfl
theorem defsOwn_card_holds:Rows.DefsOwnCardSaid :=
 Claim7.holds_tied_plain_at .later [] [.data, .handle, .listed, .data] true (true, "685a3a304511d219d12953d0ba43172aea3500d3c4a321a080571d6e3d1ef68e") true
  Vm.defsOwn_holds (fun _ h=>by cases h) (by as_aux_lemma=>kernel_rfl) (fun _ h=>by cases h) defsOwn_row_tie rfl ⟨rfl,rfl⟩ (by as_aux_lemma=>kernel_rfl) rfl
  (fun f fn hf hfn=>by
   obtain rfl:f=6:=Option.some.inj (Vm.defsOwn_named.symm.trans hf) |>.symm
   obtain rfl:fn=Tryz.f6:=(Option.some.inj (Vm.fn6.symm.trans hfn)).symm
   refine ⟨by as_aux_lemma=>kernel_rfl,fun j t ht=>?_⟩
   rw [Vm.params6] at ht
   match j,ht with
   | 0,ht =>
    obtain rfl:t=24:=by simpa using ht.symm
    exact Vm.defsOwn_stand24
   | 1,ht =>
    obtain rfl:t=3:=by simpa using ht.symm
    exact Vm.defsOwn_stand3
   | 2,ht =>
    obtain rfl:t=3:=by simpa using ht.symm
    exact Vm.defsOwn_stand3
   | 3,ht =>
    obtain rfl:t=3:=by simpa using ht.symm
    exact Vm.defsOwn_stand3
   | j + 4,ht=>simp at ht)
  (by as_aux_lemma=>kernel_rfl)
#print axioms defsOwn_card_holds
end Go.Proofs.YtbhkamemheaajaaGreatDoor
