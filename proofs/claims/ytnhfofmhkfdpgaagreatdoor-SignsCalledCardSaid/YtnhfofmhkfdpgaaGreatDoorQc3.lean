/- A part of the proof: Em. -/
import Derived.Test.YtnhfofmhkfdpgaaGreatDoorQc2
set_option linter.unusedVariables false
set_option linter.unusedSimpArgs false
set_option linter.constructorNameAsVariable false
namespace Go.Proofs.YtnhfofmhkfdpgaaGreatDoor.Vm
open Go Go.RowKit Go.ChangeShapes Go.WideShapes
theorem fn5:P.funcs[5]?=some Tryz.f5:=by kernel_rfl
theorem params5:Tryz.f5.params=#[24]:=by kernel_rfl
theorem results5:Tryz.f5.resultTypes=#[4]:=by kernel_rfl
set_option maxRecDepth 100000 in
theorem signsCalled_lifted (os:Os) (started:os.Started) (H:Type) (enc:TypeId × Value→H) :
  ReturnsInHanded {} Tryz.checked os 5 .any (fun w args=>(Rows.signsCalledSpec.pre enc P Tryz.f5 [] false w args∧laidMetH P laidL w)∧sizedMet enc P Tryz.f5 (OpenSpec.ofChange Rows.signsCalledSpec) false w args)
   (Rows.signsCalledSpec.post enc P Tryz.f5 false true false false):=by
 refine returnsInHanded_of_change_and (C:=Tryz.checked) (X:=fun w _=>laidMetH P laidL w) (fun _ _ _ hh h=>h.of_heap hh) own0 started (by kernel_rfl) fn5
  (ChangeSpec.witness_shaped (enc:=enc) (C:=Tryz.checked) (os:=os) (X:=fun w _=>laidMetH P laidL w) false (laidWorld os) #[.agg #[.slice none 0 0]] 8 rfl (World.shaped_of_RefB (by kernel_rfl) (by kernel_rfl)) (by kernel_rfl) (by kernel_rfl) (by kernel_rfl) (xEi os _)) ?_
 intro W base args ds gs before hval0 hW _ _ hL _
 have hval:∀(j:Nat) t v,Tryz.f5.params[j]?=some t→args[j]?=some v→Value.okWide P W .any base t v:=hval0
 have hW':=hW
 obtain ⟨p,q,hA0,hV0,rfl,hfz,hnd⟩:=hW
 have hA:DataW.TrodAll enc P W 0 (fun _=>true) true Tryz.f5.params.toList args.toList ds p:=hA0
 have hV:DataW.TrodVars enc P W (fun _=>true) [] gs q:=hV0
 rw [params5] at hA hval
 obtain ⟨v0,d0,rfl,rfl,h0⟩:=trodAll_one hA
 obtain ⟨rfl,rfl⟩:=trodVars_none hV
 obtain ⟨pr0,hpr0⟩:=xJe (hval 0 24 v0 rfl rfl) h0
 have hg:=xOg hL
 have hc:=(xWB (N:=W.heap.size) pr0).law hg (.cons _ _ _ _ hpr0 .nil)
 have e1:Rows.signsCalledSpec.fn H ([d0] ++ [])={ results:=[.lit (.bool true)],args:=[d0] }:=by simp [Rows.signsCalledSpec]
 have hlt0:∀x ∈ p,x.block < W.heap.size:=fun x hx=>by simpa using hW'.lt x (by simp [hx])
 refine hc.mono fun e W' ⟨he,hb⟩=>?_
 subst he
 refine ⟨_,rfl,xEj (pa:=p) (pv:=[]) hW' (fun _ _ _=>?_) (fun sp hsp=>?_) (fun sp hsp=>?_) (by simp) hb (ok_one results5 rfl ?_)⟩
 ·rw [e1]
  exact trodAll_mk1 (shut_bool u4 true)
 ·rw [e1]
  exact trodAll_mk1 (WideElems.Trod_stays laidOut0 readable24 rows24 h0 (fun x hx=>hb.same (hlt0 x hx)) (fun x hx=>hsp x (by simp [hx])))
 ·exact rfl
 ·exact okWide_bool_mk u4 true
end Go.Proofs.YtnhfofmhkfdpgaaGreatDoor.Vm
