/- A part of the proof: Id. -/
import Derived.Test.YtnhfofmhkfdpgaaGreatDoorChecked
import Derived.Test.YtnhfofmhkfdpgaaGreatDoorQ37
set_option linter.unusedVariables false
set_option linter.unusedSimpArgs false
set_option linter.constructorNameAsVariable false
namespace Go.Proofs.YtnhfofmhkfdpgaaGreatDoor.Vm
open Go Go.RowKit Go.ChangeShapes Go.WideShapes
theorem xIU {S:St} {m:Nat} {v:AV} {b:Bool} (h:pict S [] m v=some (.bool b)):v=.bool b:=by
 cases m with
 | zero=>cases v <;> simp [pict] at h
 | succ m =>
  cases v <;> simp [pict] at h
  ·exact congrArg _ h
  all_goals
   split at h
   ·first
    | cases h;done
    | (rw [Option.map_eq_some_iff] at h;obtain ⟨_,_,h⟩:=h;cases h)
   ·cases h
theorem Ret.law {f:Nat} {xs:List AV} {W:World} {vs:List Value} (h:Ret P (gl W.heap.size) false f xs (.bool true)) (hg:(gl W.heap.size).G W) (hv:VRs (C0 W) vs xs) :
  Calls P f vs.toArray W fun e w'=>e=.returned (.bool true)/\Below W.heap.size W w':=by
 refine Calls.mono (h.con W (fun _=>False) vs xs hg hv rfl) ?_
 rintro e w' ⟨v,res,objs,μ,rfl,⟨⟨m,hm⟩,_⟩,hb,_,hr⟩
 obtain rfl:=xIU hm
 cases hr
 exact ⟨rfl,hb⟩
section
variable {H:Type} {enc:TypeId × Value->H} {Q:Program}
theorem xEA {f:Func} {s:ChangeSpec} {apart fresh handsOn again:Bool} {W W':World} {args:Array Value} {v:Value} {ds gs:List (DataW H)} {before pa pv:List MemPlace}
  (hW:DataW.Whole enc Q f.params.toList s.vars apart W args.toList ds gs before)
  (hres:∀(b:Nat) (sp:Nat->Bool) (hd:Bool),DataW.TrodAll enc Q W' b sp hd f.resultTypes.toList (v.resultList f.resultTypes.size) (s.fn H (ds ++ gs)).results [])
  (hargs:∀sp:Nat->Bool,(∀p ∈ before,sp p.block=true)->DataW.TrodAll enc Q W' 0 sp true f.params.toList args.toList (s.fn H (ds ++ gs)).args pa)
  (hvars:∀sp:Nat->Bool,(∀p ∈ before,sp p.block=true)->DataW.TrodVars enc Q W' sp s.vars (s.fn H (ds ++ gs)).vars pv)
  (hps:before=pa ++ pv) (hb:Below W.heap.size W W')
  (hok:∀(j:Nat) (t:TypeId) (r:Value),f.resultTypes[j]?=some t->(v.resultList f.resultTypes.size)[j]?=some r->Value.okWide Q W' .any 0 t r) :
  s.post enc Q f apart fresh handsOn again W args v W':=by
 have hold:∀p ∈ before,(fun b=>decide (b < W.heap.size)) p.block=true:=fun p hp=>by simpa using hW.lt p hp
 have hlt:=hW.lt
 refine ⟨ds,gs,before,[],pa,pv,hW,hres _ _ _,hargs _ hold,hvars _ hold,hb.frame _,fun _=>?_⟩
 obtain ⟨_,_,_,_,_,hz,hn⟩:=hW
 refine ⟨hok,_,_,([] ++ pa) ++ pv,⟨[] ++ pa,pv,trodAll_append (hargs _ (fun _ _=>rfl)) (hres _ _ _),hvars _ (fun _ _=>rfl),rfl,?_,?_⟩,?_⟩
 ·intro b off hp
  have hp':MemPlace.cell b off ∈ before:=by rw [hps];simpa using hp
  rw [hb.frozen (p:=⟨b,off,none⟩) (hlt _ hp')]
  exact hz b off hp'
 ·intro ha
  have:=hn ha
  rw [hps] at this
  simpa using this
 ·intro p hp _
  rw [hps]
  simpa using hp
end
theorem u4':P.underlying 4=some .bool:=u4
theorem readable24:P.readableRec 24=true:=by kernel_rfl
theorem rows24:24 < P.types.size:=of_decide_eq_true (by kernel_rfl)
theorem xKr {H:Type} {enc:TypeId × Value->H} {W:World} {base:Nat} {v:Value} {d:DataW H} {ps:List MemPlace} (hval:Value.okWide P W .any base 24 v) (h:DataW.Trod enc P W 0 (fun _=>true) true 24 v d ps):∃ p:Prg,VR (C0 W) v (encP p):=by
 unfold Value.okWide at hval
 rw [u24] at hval
 obtain ⟨cs,rfl,_,_⟩:=hval
 obtain ⟨fuel,hf⟩:=h
 obtain ⟨p,hp,_⟩:=xNO fuel cs.toList _ hf
 refine ⟨p,?_⟩
 have:=VR.agg cs.toList _ hp
 simpa using this
end Go.Proofs.YtnhfofmhkfdpgaaGreatDoor.Vm
