/- A part of the proof: Iy. -/
import Derived.Test.YtnhfofmhkfdpgaaGreatDoorQa1
set_option linter.unusedVariables false
set_option linter.unusedSimpArgs false
set_option linter.constructorNameAsVariable false
namespace Go.Proofs.YtnhfofmhkfdpgaaGreatDoor.Vm
open Go Go.RowKit Go.ChangeShapes Go.WideShapes
theorem readable25:P.readableRec 25=true:=by kernel_rfl
theorem rows25:25 < P.types.size:=of_decide_eq_true (by kernel_rfl)
set_option maxRecDepth 100000 in
theorem xPw {H:Type} {enc:TypeId × Value→H} {W:World} {base:Nat} {v:Value} {d:DataW H} {ps:List MemPlace} (hval:Value.okWide P W .any base 25 v) (h:DataW.Trod enc P W 0 (fun _=>true) true 25 v d ps):∃ (l:List Int) (x:AV),FSl intc 1 x l∧VR (C0 W) v x:=by
 obtain ⟨a,len,cap,rfl⟩:=okWide_slice u25 hval
 obtain ⟨fuel,hf⟩:=h
 have hf2:DataW.trod enc P W 0 (fun _=>true) true fuel 25 [.slice a len cap]=some (d,ps):=hf
 have hs:(0:Nat) < 1:=Nat.one_pos
 obtain ⟨⟨z,l⟩,hl,_⟩:=xB5 (e:=intc) u25 z3 hs (fun _=>rfl) (xJd u3) fuel [.slice a len cap] (d,ps) hf2
 exact ⟨l,encN z intc 1 l,xEx,xHV hl⟩
end Go.Proofs.YtnhfofmhkfdpgaaGreatDoor.Vm
