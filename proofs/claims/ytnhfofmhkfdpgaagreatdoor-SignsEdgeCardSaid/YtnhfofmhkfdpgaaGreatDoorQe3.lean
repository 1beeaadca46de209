/- A part of the proof: EA. -/
import Derived.Test.YtnhfofmhkfdpgaaGreatDoorQe2
set_option linter.unusedVariables false
set_option linter.unusedSimpArgs false
set_option linter.constructorNameAsVariable false
namespace Go.Proofs.YtnhfofmhkfdpgaaGreatDoor.Vm
open Go Go.RowKit Go.ChangeShapes Go.WideShapes
theorem fn7:P.funcs[7]?=some Tryz.f7:=by kernel_rfl
theorem params7:Tryz.f7.params=#[24,3,3,3]:=by kernel_rfl
theorem results7:Tryz.f7.resultTypes=#[4]:=by kernel_rfl
set_option maxRecDepth 100000 in
theorem signsEdge_lifted (os:Os) (started:os.Started) (H:Type) (enc:TypeId × Value->H) :
  ReturnsInHanded {} Tryz.checked os 7 .any (fun w args=>(Rows.signsEdgeSpec.pre enc P Tryz.f7 [] false w args/\laidMetH P laidL w)/\sizedMet enc P Tryz.f7 (OpenSpec.ofChange Rows.signsEdgeSpec) false w args)
   (Rows.signsEdgeSpec.post enc P Tryz.f7 false true false false):=by
 refine returnsInHanded_of_change_and (C:=Tryz.checked) (X:=fun w _=>laidMetH P laidL w) (fun _ _ _ hh h=>h.of_heap hh) own0 started (by kernel_rfl) fn7
  (ChangeSpec.witness_shaped (enc:=enc) (C:=Tryz.checked) (os:=os) (X:=fun w _=>laidMetH P laidL w) false (laidWorld os) #[.agg #[.slice none 0 0],.int .i64 0,.int .i64 0,.int .i64 0] 8 rfl (World.shaped_of_RefB (by kernel_rfl) (by kernel_rfl)) (by kernel_rfl) (by kernel_rfl) (by kernel_rfl) (xEz os _)) ?_
 intro W base args ds gs before hval0 hW _ _ hL _;have hval:∀(j:Nat) t v,Tryz.f7.params[j]?=some t->args[j]?=some v->Value.okWide P W .any base t v:=hval0;have hW':=hW;obtain ⟨p,q,hA0,hV0,rfl,hfz,hnd⟩:=hW;have hA:DataW.TrodAll enc P W 0 (fun _=>true) true Tryz.f7.params.toList args.toList ds p:=hA0;have hV:DataW.TrodVars enc P W (fun _=>true) [] gs q:=hV0;rw [params7] at hA hval;obtain ⟨v0,v1,v2,v3,d0,d1,d2,d3,p0,p1,p2,p3,rfl,rfl,rfl,h0,h1,h2,h3⟩:=trodAll_four hA;obtain ⟨rfl,rfl⟩:=trodVars_none hV;obtain ⟨n1,rfl,rfl,rfl,hw1⟩:=open_int u3 (hval 1 3 v1 rfl rfl) h1;obtain ⟨n2,rfl,rfl,rfl,hw2⟩:=open_int u3 (hval 2 3 v2 rfl rfl) h2;obtain ⟨n3,rfl,rfl,rfl,hw3⟩:=open_int u3 (hval 3 3 v3 rfl rfl) h3;obtain ⟨pr0,hpr0⟩:=xKr (hval 0 24 v0 rfl rfl) h0;have hg:=xQj hL;have hc:=(xIT (N:=W.heap.size) pr0 n1 n2 n3).law hg (.cons _ _ _ _ hpr0 (.cons _ _ _ _ (.int _ _) (.cons _ _ _ _ (.int _ _) (.cons _ _ _ _ (.int _ _) .nil))))
 have e1:Rows.signsEdgeSpec.fn H ([d0,.lit (.int .i64 n1),.lit (.int .i64 n2),.lit (.int .i64 n3)] ++ [])={ results:=[.lit (.bool true)],args:=[d0,.lit (.int .i64 n1),.lit (.int .i64 n2),.lit (.int .i64 n3)] }:=by simp [Rows.signsEdgeSpec]
 have hlt0:∀x ∈ p0,x.block < W.heap.size:=fun x hx=>by simpa using hW'.lt x (by simp [hx])
 refine hc.mono fun e W' ⟨he,hb⟩=>?_
 subst he;refine ⟨_,rfl,xEA (pa:=p0 ++ ([] ++ ([] ++ []))) (pv:=[]) hW' (fun _ _ _=>?_) (fun sp hsp=>?_) (fun sp hsp=>?_) (by simp) hb (ok_one results7 rfl ?_)⟩
 .rw [e1];exact trodAll_mk1 (shut_bool u4 true)
 .rw [e1];exact trodAll_mk4 (WideElems.Trod_stays laidOut0 readable24 rows24 h0 (fun x hx=>hb.same (hlt0 x hx)) (fun x hx=>hsp x (by simp [hx]))) (shut_int u3 hw1) (shut_int u3 hw2) (shut_int u3 hw3)
 .exact rfl
 .exact okWide_bool_mk u4 true
end Go.Proofs.YtnhfofmhkfdpgaaGreatDoor.Vm
