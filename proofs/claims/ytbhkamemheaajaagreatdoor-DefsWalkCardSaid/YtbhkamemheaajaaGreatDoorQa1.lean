/- A part of the proof: Iy. -/
import Derived.Test.YtbhkamemheaajaaGreatDoorQa0
set_option linter.unusedVariables false
set_option linter.unusedSimpArgs false
set_option linter.constructorNameAsVariable false
namespace Go.Proofs.YtbhkamemheaajaaGreatDoor.Vm
open Go Go.RowKit Go.ChangeShapes Go.WideShapes
theorem readable33:P.readableRec 33=true:=by kernel_rfl
theorem rows33:33 < P.types.size:=of_decide_eq_true (by kernel_rfl)
set_option maxRecDepth 100000 in
theorem open_row {H:Type} {enc:TypeId × Value→H} {W:World} {base:Nat} {v:Value} {d:DataW H} {ps:List MemPlace} (hval:Value.okWide P W .any base 33 v) (h:DataW.Trod enc P W 0 (fun _=>true) true 33 v d ps):∃ (l:List Int) (x:AV),FSl intc 1 x l∧VR (C0 W) v x:=by
 obtain ⟨a,len,cap,rfl⟩:=okWide_slice u33 hval
 obtain ⟨fuel,hf⟩:=h
 have hf2:DataW.trod enc P W 0 (fun _=>true) true fuel 33 [.slice a len cap]=some (d,ps):=hf
 have hs:(0:Nat) < 1:=Nat.one_pos
 obtain ⟨⟨z,l⟩,hl,_⟩:=opens_slice (e:=intc) u33 z3 hs (fun _=>rfl) (opens_int u3) fuel [.slice a len cap] (d,ps) hf2
 exact ⟨l,encN z intc 1 l,encN_sl,one_VRs hl⟩
end Go.Proofs.YtbhkamemheaajaaGreatDoor.Vm
