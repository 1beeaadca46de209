/- A part of the proof: Vq Vr. -/
import Derived.Test.YtnhfofmhkfdpgaaGreatDoorQ06
set_option linter.unusedVariables false
set_option linter.unusedSimpArgs false
set_option linter.constructorNameAsVariable false
namespace Go.Proofs.YtnhfofmhkfdpgaaGreatDoor.Vm
open Go Go.RowKit
section
variable {P:Program} {g:Glob}
theorem xAQ {n:Nat} {code:Code}:(compCode P n code=some .skip->code=.skip)/\(compCode P n code=some .ret->code=.ret)/\(compCode P n code=some .label->∃ l,code=.label l)/\(∀id,compCode P n code=some (.exit id)->code=.exit id):=by
 refine ⟨fun h=>?_,fun h=>?_,fun h=>?_,fun id h=>?_⟩
 all_goals
  cases code <;> simp only [compCode,Option.bind_eq_bind,xoB,xoI,reduceCtorEq,Option.map_eq_some_iff,and_false,exists_const,exists_false,VCode.exit.injEq] at h
 all_goals first | rfl | exact ⟨_,rfl⟩ | (subst h;rfl) | (obtain ⟨_,_,h⟩:=h;split at h <;> cases h) | skip
theorem VR.undef {C:Ctx}:VR C Go.undef (.tuple []):=.tuple [] [] .nil
theorem xI7 {C:Ctx} (hR:Rel C) {t:TypeId} {sz:Nat} {gg:Bool} (hs:sizeT P t=some sz) (hg:aggT P t=some gg) {u:Value} {x:AV} (h1:VR C u x) {y:AV} {S':St} (hy:sk (.load gg sz) [x] C.S=some (y,S')) :
  S'=C.S/\∃ b q,u=.pointer (some ⟨b,q,none⟩)/\∃ v,(loadVar t ⟨b,q,none⟩).run P C.w=.ok v C.w/\VR C v y:=by
 simp only [sk] at hy
 split at hy
 ·rename_i p i off e
  simp only [List.cons.injEq,and_true] at e
  rw [e] at h1
  split at hy
  ·rename_i sz' es hobj
   split at hy
   ·rename_i el hel
    simp only [Option.map_eq_some_iff,Prod.mk.injEq] at hy
    obtain ⟨y',hy',rfl,rfl⟩:=hy
    obtain ⟨l,c,ty,vs,k1,k2,k3,k4,k5,k6,k7,k8,k9,k10,k11,k12⟩:=xBy hR hobj hel
    cases h1
    rename_i l' hl'
    rw [k1] at hl';cases hl'
    rw [k2]
    exact ⟨rfl,_,_,rfl,xBQ hg hs k9 k10 hy'⟩
   ·cases hy
  ·cases hy
 ·rename_i cs off e
  simp only [List.cons.injEq,and_true] at e
  rw [e] at h1
  simp only [Option.map_eq_some_iff,Prod.mk.injEq] at hy
  obtain ⟨y',hy',rfl,rfl⟩:=hy
  cases h1
  rename_i b q vs hc hb hl hvs hso
  exact ⟨rfl,_,_,rfl,xBQ hg hs hc hvs hy'⟩
 ·cases hy
def resOf (tmps:Array Value):ResultVar->Sem Value
 | .tmp t=>pure (tmps.getD t Go.undef)
 | .cell ad t=>do loadVar t (<- asAddr (tmps.getD ad Go.undef))
theorem xMK {C:Ctx} (hR:Rel C) {F:AFrame} {a:Act} (hF:FrameOK C F a) {r:ResultVar} {vr:VRes} (hc:compRes P r=some vr) {y:AV} (hy:res1 F C.S vr=some y) :
  ∃ v,(resOf a.tmps r).run P C.w=.ok v C.w/\VR C v y:=by
 cases r with
 | tmp t =>
  simp only [compRes,xoI] at hc;subst hc
  simp only [res1,xoI] at hy;subst hy
  exact ⟨_,rfl,hF t⟩
 | cell t ty =>
  simp only [compRes,Option.bind_eq_bind,xoB,xoI] at hc
  obtain ⟨s,hs,gg,hg,rfl⟩:=hc
  simp only [res1,Option.map_eq_some_iff] at hy
  obtain ⟨⟨y',S'⟩,hsk,rfl⟩:=hy
  obtain ⟨_,b,q,hu,v,hv,hvy⟩:=xI7 (P:=P) hR hs hg (hF t) hsk
  exact ⟨v,by simp only [resOf,hu,asAddr,Sem.run_bind,Sem.run_pure,Result.andThen_ok,hv],hvy⟩
theorem xEI {C:Ctx} (hR:Rel C) {F:AFrame} {a:Act} (hF:FrameOK C F a):∀{l:List ResultVar} {rs:List VRes} {ys:List AV},mapOpt (compRes P) l=some rs->mapOpt (res1 F C.S) rs=some ys ->
  ∃ vs,(l.mapM (resOf a.tmps)).run P C.w=.ok vs C.w/\VRs C vs ys
 | [],rs,ys,h,k=>by
  simp only [mapOpt,xoI] at h;subst h
  simp only [mapOpt,xoI] at k;subst k
  exact ⟨[],by simp,.nil⟩
 | r :: l,rs,ys,h,k=>by
  rcases xAs h with ⟨h1,_⟩ | ⟨r',l',v,rs',h1,rfl,h2,h3⟩
  ·cases h1
  ·cases h1
   rcases xAs k with ⟨k1,_⟩ | ⟨v',rs2,y,ys',k1,rfl,k2,k3⟩
   ·cases k1
   ·cases k1
    obtain ⟨u,u1,u2⟩:=xMK (P:=P) hR hF h2 k2
    obtain ⟨us,us1,us2⟩:=xEI hR hF h3 k3
    exact ⟨u :: us,by simp only [List.mapM_cons,Sem.run_bind,u1,us1,Result.andThen_ok,Sem.run_pure],.cons _ _ _ _ u2 us2⟩
theorem xD7 {C:Ctx} (hR:Rel C) {F:AFrame} {a:Act} (hF:FrameOK C F a) {fn:Func} {rs:List VRes} (hc:mapOpt (compRes P) fn.results.toList=some rs) {y:AV} (hy:resV rs F C.S=some y) :
  ∃ v,(results fn a.tmps).run P C.w=.ok v C.w/\VR C v y:=by
 unfold resV at hy
 have e:results fn a.tmps=(do let vs <- fn.results.mapM (resOf a.tmps);pure (if h:vs.size=1 then vs[0] else .tuple vs)):=by
  unfold results
  congr 2
 rw [e,Array.mapM_eq_mapM_toList]
 split at hy
 ·rename_i v hv
  simp only [xoI] at hy;subst hy
  obtain ⟨us,h1,h2⟩:=xEI (P:=P) hR hF hc hv
  match us,h1,h2 with
  | [u],h1,.cons _ _ _ _ h2 .nil=>exact ⟨u,by simp [Sem.run_bind,h1],h2⟩
 ·rename_i vs hn hv
  simp only [xoI] at hy;subst hy
  obtain ⟨us,h1,h2⟩:=xEI (P:=P) hR hF hc hv
  refine ⟨.tuple us.toArray,?_,.tuple _ _ h2⟩
  have hl:us.length ≠ 1:=by
   intro hl
   have:=h2.length
   rw [hl] at this
   match vs,this with
   | [v],_=>exact hn v rfl
  simp [Sem.run_bind,h1,hl]
 ·cases hy
theorem xHk {C:Ctx} {vs:List Value} {args:List AV} (h:VRs C vs args) (m:Nat):FrameOK C (entry args) { tmps:=vs.toArray ++ Array.replicate m Go.undef,defers:=[] }:=by
 intro t
 simp only [entry]
 by_cases ht:t < args.length
 ·have e:args[t]?=some args[t]:=xgG ht
  obtain ⟨v,h1,h2⟩:=h.get e
  have hl:t < vs.length:=by rw [h.length];exact ht
  have e1:(vs.toArray ++ Array.replicate m Go.undef).getD t Go.undef=v:=by
   rw [Array.getD_eq_getD_getElem?,Array.getElem?_append_left (by simpa using hl)]
   simp [h1]
  rw [e1]
  have e2:args.getD t .none=args[t]:=by simp [List.getD_eq_getElem?_getD,e]
  rw [e2];exact h2
 ·have e1:(vs.toArray ++ Array.replicate m Go.undef).getD t Go.undef=Go.undef:=by
   rw [Array.getD_eq_getD_getElem?,Array.getElem?_append_right (by simp [h.length];omega)]
   simp only [Array.getElem?_replicate]
   split <;> rfl
  have e2:args.getD t .none=.none:=by simp [List.getD_eq_getElem?_getD,List.getElem?_eq_none (Nat.le_of_not_lt ht)]
  rw [e1,e2];exact VR.undef
theorem xQz {op:BinOp} {n:Bool} (h:negOf op=some n):op=if n then .neq else .eql:=by
 cases op <;> simp only [negOf,xoI,reduceCtorEq] at h <;> subst h <;> rfl
theorem xN9 {y:Operand} (h:isNilS y=true):y=.const (.slice none 0 0):=by
 unfold isNilS at h
 split at h
 ·rfl
 ·cases h
theorem xFk {op:Op} {neg:Bool} {vx:VX} (hc:compOp P op=some (.eqNil neg vx)):∃ t x t' e,op=.binOp (if neg then .neq else .eql) t x (.const (.slice none 0 0)) t'/\P.underlying t=some (.slice e)/\cx x=some vx:=by
 cases op
 case call c =>
  exfalso
  simp only [compOp] at hc
  split at hc
  ·unfold compBuiltin at hc
   split at hc <;> simp only [Option.bind_eq_bind,xoB,xoI,reduceCtorEq] at hc
   ·obtain ⟨_,_,h⟩:=hc;split at h <;> simp only [xoI,reduceCtorEq] at h
   ·obtain ⟨_,_,_,_,h⟩:=hc;split at h <;> simp only [reduceCtorEq,xoB] at h;obtain ⟨_,_,_,_,h⟩:=h;split at h <;> simp only [xoI,reduceCtorEq] at h
   ·obtain ⟨_,_,_,_,h⟩:=hc;split at h <;> simp only [reduceCtorEq,xoB] at h;obtain ⟨_,_,h⟩:=h;split at h <;> simp only [xoI,reduceCtorEq] at h
   ·obtain ⟨_,_,h⟩:=hc;split at h <;> simp only [reduceCtorEq,xoB] at h;obtain ⟨_,_,h⟩:=h;split at h <;> simp only [xoI,reduceCtorEq] at h
   ·obtain ⟨_,_,h⟩:=hc;cases h
   ·obtain ⟨_,_,h⟩:=hc;cases h
  all_goals
   simp only [Option.bind_eq_bind,xoB,xoI,reduceCtorEq,and_false,exists_const,exists_false] at hc
 case makeMap t r=>exfalso;cases r <;> simp only [compOp,xoI,reduceCtorEq] at hc
 case binOp op t x y t' =>
  simp only [compOp] at hc
  unfold compBin at hc
  split at hc <;> simp only [Option.bind_eq_bind,xoB,xoI,reduceCtorEq] at hc
  ·obtain ⟨_,_,_,_,h⟩:=hc;cases h
  ·obtain ⟨_,_,_,_,_,_,h⟩:=hc;cases h
  ·obtain ⟨_,_,_,_,h⟩:=hc;cases h
  ·obtain ⟨_,_,h⟩:=hc;split at h <;> simp only [xoB,xoI,reduceCtorEq] at h;obtain ⟨_,_,h⟩:=h;cases h
  ·obtain ⟨_,_,h⟩:=hc;split at h <;> simp only [xoB,xoI,reduceCtorEq] at h;obtain ⟨_,_,h⟩:=h;cases h
  ·rename_i e het
   obtain ⟨n,hn,h⟩:=hc
   split at h
   ·rename_i hy
    simp only [xoB,xoI] at h
    obtain ⟨vx',hx,h⟩:=h
    cases h
    exact ⟨t,x,t',e,by rw [xQz hn,xN9 hy],het,hx⟩
   ·cases h
  ·exfalso;obtain ⟨_,_,_,_,_,_,_,_,h⟩:=hc;split at h <;> simp only [xoI,reduceCtorEq] at h
  ·exfalso;obtain ⟨_,_,_,_,_,_,_,_,h⟩:=hc;split at h <;> simp only [xoI,reduceCtorEq] at h
 all_goals exfalso
 all_goals (simp only [compOp,Option.bind_eq_bind,xoB,xoI,reduceCtorEq,and_false,exists_const,exists_false] at hc)
 case alloc t=>obtain ⟨_,_,h⟩:=hc;split at h <;> simp only [xoI,reduceCtorEq] at h
 case buildSlice t len parts=>split at hc <;> simp only [xoB,reduceCtorEq] at hc;obtain ⟨_,_,_,_,_,_,h⟩:=hc;split at h <;> simp only [xoI,reduceCtorEq] at h
 case convert s d x=>split at hc <;> simp only [xoB,xoI,reduceCtorEq,and_false,exists_const,exists_false] at hc
 case makeInterface t x=>split at hc <;> simp only [xoB,xoI,reduceCtorEq,and_false,exists_const,exists_false] at hc
 case makeSlice t l c=>split at hc <;> simp only [xoB,reduceCtorEq] at hc;obtain ⟨_,_,_,_,_,_,_,_,h⟩:=hc;split at h <;> simp only [xoI,reduceCtorEq] at h
 case slice t x lo hi mx =>
  obtain ⟨_,_,_,_,h⟩:=hc
  split at h <;> (try simp only [xoB,reduceCtorEq] at h)
  ·obtain ⟨_,_,h⟩:=h;split at h <;> simp only [xoI,reduceCtorEq] at h
  ·split at h <;> simp only [xoI,reduceCtorEq] at h
  ·obtain ⟨_,_,h⟩:=h;split at h <;> simp only [xoI,reduceCtorEq] at h
 case fieldAddr t x i=>obtain ⟨_,_,_,_,h⟩:=hc;split at h <;> simp only [xoB,xoI,reduceCtorEq,and_false,exists_const,exists_false] at h
 case indexAddr t x i =>
  split at hc <;> simp only [xoB,reduceCtorEq] at hc
  all_goals (obtain ⟨_,_,h⟩:=hc;split at h <;> simp only [xoB,xoI,reduceCtorEq,and_false,exists_const,exists_false] at h)
 case index t x i=>split at hc <;> simp only [xoB,xoI,reduceCtorEq,and_false,exists_const,exists_false] at hc
 case typeAssert x xt t ok=>obtain ⟨_,_,h⟩:=hc;split at h <;> simp only [xoB,xoI,reduceCtorEq,and_false,exists_const,exists_false] at h
theorem xD8 (w:World) (d:Nat) {t e:TypeId} (q:Option Addr) (m k:Nat) (h:P.underlying t=some (.slice e)):(Op.equalIn (d + 1) t (.slice q m k) (.slice none 0 0)).run P w=.ok q.isNone w:=by
 cases q <;> simp [Op.equalIn,xAb h]
theorem xCX (w:World) {t e:TypeId} (q:Option Addr) (m k:Nat) (h:P.underlying t=some (.slice e)):(Op.equal t (.slice q m k) (.slice none 0 0)).run P w=.ok q.isNone w:=xD8 w 9999 q m k h
theorem xI8 {C:Ctx} {v:Value} {x:AV} {n:Nat} (hv:VR C v x) (hx:lenV x=some n):∃ q m k,v=.slice q m k/\(q.isNone=true->n=0):=by
 cases hv <;> simp only [lenV,xoI,reduceCtorEq] at hx <;> subst hx <;> exact ⟨_,_,_,rfl,by simp⟩
theorem xF7 {f:Nat} {args:List AV} {n:Nat} {xs:List AV} {c:RCon} {C:Ctx} (hc:ConOK P g f c) (hx:mapOpt (pict C.S [] n) args=some xs) (hp:c.pre xs)
  (hq:∀res objs,c.post xs res objs->solids args=true \/ (res.young=true/\youngo objs)) (hR:Rel C) {vs:List Value} (hvs:VRs C vs args) (hG:g.G C.w) :
  Calls P f vs.toArray C.w fun e w'=>∃ v res objs,e=.returned v/\c.post xs res objs /\
   (∀id nx,Free C id objs.next nx->∃ C',C'.S=⟨nx,fun q=>if id<=q/\q < id + objs.next then (objs.obj (q - id)).bind (AObj.shift id) else C.S.obj q⟩/\(∀q,¬ (id<=q/\q < id + objs.next)->C'.μ q=C.μ q)/\C'.w=w'/\Le C C'/\Rel C'/\VR C' v (res.shift id)) /\
   (∀m y,pict (objs) [] m res=some y->∃ C',C'.S=C.S/\C'.μ=C.μ/\C'.w=w'/\Le C C'/\Rel C'/\VR C' v y):=by
 have hbadlt:∀b,C.bad b->b < C.w.heap.size:=by
  rintro b (⟨h1,_⟩ | ⟨o,l,x,h1,h2,h3⟩)
  ·have:=hR.basele;omega
  ·rw [<- h3];exact hR.blk_lt h1 h2
 have noown:∀(av:Nat->Prop) b,(⟨C.w,C.w.heap.size,av,fun _=>none,St.empty⟩:Ctx).bad b->av b:=by
  rintro av b (⟨_,h⟩ | ⟨o,l,x,h1,h2,_⟩)
  ·exact h
  ·cases h2
 have main:∀(av:Nat->Prop),((solids args=true/\av=C.bad) \/ (solids args=false/\av=fun _=>False))->VRs ⟨C.w,C.w.heap.size,av,fun _=>none,St.empty⟩ vs xs:=by
  rintro av (⟨h1,rfl⟩ | ⟨h1,rfl⟩)
  ·refine (xB3 (p:=fun x=>x ∈ args) (pict C.S [] n) (fun x y v hx h1' h2=>xH0 (D:=⟨C.w,C.w.heap.size,_,fun _=>none,St.empty⟩) hR rfl n x y v (.inl fun b _ h h'=>h (noown _ b h')) (.inr (xA0.1 h1 x hx)) h1' h2) hvs (fun _ h=>h) hx).1
  ·refine (xB3 (p:=fun x=>x ∈ args) (pict C.S [] n) (fun x y v hx h1' h2=>xH0 (D:=⟨C.w,C.w.heap.size,_,fun _=>none,St.empty⟩) hR rfl n x y v (.inl fun b _ h h'=>noown _ b h') (.inl fun b _ h'=>noown _ b h') h1' h2) hvs (fun _ h=>h) hx).1
 obtain ⟨av,hav⟩:∃ av:Nat->Prop,((solids args=true/\av=C.bad) \/ (solids args=false/\av=fun _=>False)):=by
  cases h:solids args
  ·exact ⟨_,.inr ⟨rfl,rfl⟩⟩
  ·exact ⟨_,.inl ⟨rfl,rfl⟩⟩
 refine Calls.mono (hc C.w av vs xs hG (main av hav) hp) ?_
 rintro e w' ⟨v,res,objs,μ,rfl,hpost,hB,hE,hv⟩
 have hsol:=hq res objs hpost
 have hE:Rel (Ctx.end C.w w' av μ objs):=hE
 have hv:VR (Ctx.end C.w w' av μ objs) v res:=hv
 have hy:(∀b,b < C.w.heap.size->¬ av b->¬ C.bad b) \/ (res.young=true/\youngo objs):=by
  rcases hav with ⟨h1,rfl⟩ | ⟨h1,rfl⟩
  ·exact .inl fun _ _ h=>h
  ·rw [h1] at hsol
   exact .inr (hsol.resolve_left (by simp))
 refine ⟨v,res,objs,rfl,hpost,?_,?_⟩
 ·intro id nx hfree
  exact ⟨C.retAt id nx w' μ objs,rfl,fun q hq=>by simp only [Ctx.retAt,if_neg hq],rfl,xRO hR hB hE hfree,xSl hR hB hE (hy.imp (fun h=>h) fun h=>h.2) hfree,xF5 hR hE hv (hy.imp (fun h=>h) fun h=>h.1)⟩
 ·intro m y hy1
  refine ⟨C.at w',rfl,rfl,rfl,xMI hR hB,xI6 hR hB,?_⟩
  refine (xH0 (D:=C.at w') hE rfl m res y v ?_ (.inl ?_) hy1 hv).1
  ·rcases hy with hy | ⟨hy1,hy2⟩
   ·refine .inl ?_
    intro b hb hnb hbad
    have hbad:C.bad b:=hbad
    exact hnb (.inl ⟨hbadlt b hbad,Classical.byContradiction fun h=>hy b (hbadlt b hbad) h hbad⟩)
   ·refine .inr ⟨hy1,?_⟩
    intro o x ho
    exact xHi hy2 ho
  ·rintro b ⟨o,l,x,h1,h2,h3⟩ hbad
   have hbad:C.bad b:=hbad
   have:=hbadlt b hbad
   have h4:C.w.heap.size<=l.blk:=hE.low o x l h1 h2
   omega
theorem xUr (S E:St):(⟨S.next + E.next,fun q=>if S.next<=q/\q < S.next + E.next then (E.obj (q - S.next)).bind (AObj.shift S.next) else S.obj q⟩:St)=S.add E:=rfl
theorem W.con {f:Nat} {args:List AV} {n:Nat} {xs:List AV} {c:RCon} {Q:Res->Prop} {S:St} (hc:ConOK P g f c) (hx:mapOpt (pict S [] n) args=some xs) (hp:c.pre xs)
  (hq:∀res objs,c.post xs res objs->(solids args=true \/ (res.young=true/\youngo objs))/\(Q (.val (res.shift S.next) (S.add objs)) \/ ∃ m y,pict (objs) [] m res=some y/\Q (.val y S))):W P g (.call f args S) Q:=by
 intro vs C hS hR hvs hN hG
 subst hS
 refine Calls.mono (xF7 hc hx hp (fun res objs h=>(hq res objs h).1) hR hvs hG) ?_
 rintro e w' ⟨v,res,objs,rfl,hpost,h1,h2⟩
 rcases (hq res objs hpost).2 with hres | ⟨m,y,hy1,hres⟩
 ·obtain ⟨C',k1,_,k2,k3,k4,k5⟩:=h1 _ _ (hR.free objs.next)
  exact ⟨v,_,C',rfl,by rw [k1,xUr];exact hres,k2,k3,k4,k5⟩
 ·obtain ⟨C',k1,_,k2,k3,k4,k5⟩:=h2 m y hy1
  exact ⟨v,_,C',rfl,by rw [k1];exact hres,k2,k3,k4,k5⟩
theorem AtC.post {C:Ctx} {F:AFrame} {n B:Nat} {ro:Option Nat} {a:Act} {Q:Res->Prop} {e:Exit} {ve:VExit} (hA:AtC g C F n B ro a) (he:exitRel e ve) (h:Q (.code ve F C.S)):PostC C n B Q e a C.w :=
 ⟨ve,F,C,he,h,rfl,Le.refl C,hA.rel,hA.fr,hA.size,hA.marks⟩
theorem AtC.then {C C':Ctx} {F F':AFrame} {n B:Nat} {ro:Option Nat} {a a':Act} (hA:AtC g C F n B ro a) (hL:Le C C') (hR:Rel C') (hF:FrameOK C' F' a') (hs:a'.tmps.size=n) (hm:Marks B C' a'.defers):AtC g C' F' n B ro a' :=
 have h:=g.stays hA.lo hA.glob hL
 ⟨hs,hm,Nat.le_trans hA.le hL.size,hA.round.mono hL,hR,hF,h.1,h.2⟩
theorem W.skip {F S} {Q:Res->Prop} (h:Q (.code .normal F S)):W P g (.code .skip F S) Q:=by
 intro code n B ro a C hc hS hA
 have:=xAQ.1 hc;subst this;subst hS
 exact wpIn_skip (hA.post (ve:=.normal) trivial h)
theorem W.label {F S} {Q:Res->Prop} (h:Q (.code .normal F S)):W P g (.code .label F S) Q:=by
 intro code n B ro a C hc hS hA
 obtain ⟨l,rfl⟩:=xAQ.2.2.1 hc;subst hS
 exact wpIn_label (hA.post (ve:=.normal) trivial h)
theorem W.exit {id F S} {Q:Res->Prop} (h:Q (.code (.exit id) F S)):W P g (.code (.exit id) F S) Q:=by
 intro code n B ro a C hc hS hA
 have:=xAQ.2.2.2 _ hc;subst this;subst hS
 exact wpIn_exit (hA.post (ve:=.exit id) rfl h)
theorem W.ret {F S} {Q:Res->Prop} (h:Q (.code .ret F S)):W P g (.code .ret F S) Q:=by
 intro code n B ro a C hc hS hA
 have:=xAQ.2.1 hc;subst this;subst hS
 exact wpIn_ret (hA.post (ve:=.ret) trivial h)
def thenQ (K:AFrame->St->Prop) (Q:Res->Prop):Res->Prop
 | .code .normal F S=>K F S
 | r=>Q r
theorem xSn {C:Ctx} {n B:Nat} {R Q:Res->Prop} {K:Act->World->Prop} {e:Exit} {a:Act} {w:World}
  (hn:∀a' C' F',R (.code .normal F' C'.S)->Le C C'->Rel C'->FrameOK C' F' a'->a'.tmps.size=n->Marks B C' a'.defers->K a' C'.w)
  (hx:∀e F1 S1,e ≠ .normal->R (.code e F1 S1)->Q (.code e F1 S1)) (h:PostC C n B R e a w):Exit.then K (PostC C n B Q) e a w:=by
 obtain ⟨ve,F',C',h1,h2,h3,h4,h5,h6,h7,h8⟩:=h
 subst h3
 cases e <;> cases ve <;> simp only [exitRel] at h1
 ·exact hn a C' F' h2 h4 h5 h6 h7 h8
 ·subst h1;exact ⟨.exit _,F',C',rfl,hx _ _ _ (by simp) h2,rfl,h4,h5,h6,h7,h8⟩
 ·exact ⟨.ret,F',C',trivial,hx _ _ _ (by simp) h2,rfl,h4,h5,h6,h7,h8⟩
theorem W.seqR {a b F S} {R Q:Res->Prop} (h:W P g (.code a F S) R) (hn:∀F1 S1,R (.code .normal F1 S1)->W P g (.code b F1 S1) Q) (hx:∀e F1 S1,e ≠ .normal->R (.code e F1 S1)->Q (.code e F1 S1)):W P g (.code (.seq a b) F S) Q:=by
 intro code n B ro ac C hc hS hA
 obtain ⟨c1,c2,rfl,hc1,hc2⟩:=xCW hc
 refine wpIn_seq (wpIn_mono (h c1 n B ro ac C hc1 hS hA).wp fun e a' w' hp=>xSn ?_ hx hp)
 intro a1 C1 F1 hr hL hR1 hF1 hs1 hd1
 exact wpIn_mono (hn F1 C1.S hr c2 n B ro a1 C1 hc2 rfl (hA.then hL hR1 hF1 hs1 hd1)).wp fun e a' w' hp=>PostC.from hL hp
theorem W.seq {a b F S} {Q:Res->Prop} (h:W P g (.code a F S) (thenQ (fun F1 S1=>W P g (.code b F1 S1) Q) Q)):W P g (.code (.seq a b) F S) Q :=
 W.seqR h (fun _ _ h=>h) (fun e F1 S1 he h=>by cases e <;> first | exact absurd rfl he | exact h)
theorem W.cond {x a b t F S} {Q:Res->Prop} (hx:x.eval F=.bool t) (h:W P g (.code (if t then a else b) F S) Q):W P g (.code (.cond x a b) F S) Q:=by
 intro code n B ro ac C hc hS hA
 obtain ⟨k,c1,c2,rfl,hk,hc1,hc2⟩:=xEG hc
 have hv:=xAf hA.fr hk
 rw [hx] at hv
 have hv:=hv.bool_inv
 refine wpIn_cond hv ?_
 cases t
 ·exact (h c2 n B ro ac C hc2 hS hA).wp
 ·exact (h c1 n B ro ac C hc1 hS hA).wp
theorem W.mono {cfg} {Q Q':Res->Prop} (h:W P g cfg Q) (hq:∀r,Q r->Q' r):W P g cfg Q':=by
 cases cfg with
 | code c F S =>
  intro code n B ro a C hc hS hA
  have k:=h code n B ro a C hc hS hA
  have m:∀e a' w',PostC C n B Q e a' w'->PostC C n B Q' e a' w':=fun e a' w' ⟨ve,F',C',h1,h2,h3⟩=>⟨ve,F',C',h1,hq _ h2,h3⟩
  cases code with
  | loop body =>
   intro b kk cs hb
   obtain ⟨e,a',w',hq,harr⟩:=k b kk cs hb
   exact ⟨e,a',w',m _ _ _ hq,harr⟩
  | _=>exact wpIn_mono k m
 | ops l F S =>
  intro ops idx n B ro a C Q2 hQ hO hS hA
  exact h ops idx n B ro a C Q2 (fun e a' w' ⟨ve,F',C',h1,h2,h3⟩=>hQ _ _ _ ⟨ve,F',C',h1,hq _ h2,h3⟩) hO hS hA
 | call f args S =>
  intro vs C hS hR hvs hN hG
  exact Calls.mono (h vs C hS hR hvs hN hG) (fun e w' ⟨v,av,C',h1,h2,h3⟩=>⟨v,av,C',h1,hq _ h2,h3⟩)
def blockQ (id:Nat) (Q:Res->Prop):Res->Prop
 | .code (.exit i) F S=>if i=id then Q (.code .normal F S) else Q (.code (.exit i) F S)
 | r=>Q r
theorem W.block {id c F S} {Q:Res->Prop} (h:W P g (.code c F S) (blockQ id Q)):W P g (.code (.block id c) F S) Q:=by
 intro code n B ro a C hc hS hA
 obtain ⟨c1,rfl,hc1⟩:=xD5 hc
 refine wpIn_block (wpIn_mono (h c1 n B ro a C hc1 hS hA).wp ?_)
 rintro e a' w' ⟨ve,F',C',h1,h2,h3,h4⟩
 cases e <;> cases ve <;> simp only [exitRel] at h1
 ·exact ⟨.normal,F',C',trivial,h2,h3,h4⟩
 ·subst h1
  simp only [Exit.inBlock]
  simp only [blockQ] at h2
  split
  ·rename_i h;rw [if_pos h] at h2;exact ⟨.normal,F',C',trivial,h2,h3,h4⟩
  ·rename_i h;rw [if_neg h] at h2;exact ⟨.exit _,F',C',rfl,h2,h3,h4⟩
 ·exact ⟨.ret,F',C',trivial,h2,h3,h4⟩
theorem W.scope {c F S} {Q:Res->Prop} (h:W P g (.code c F S) Q):W P g (.code (.scope c) F S) Q:=by
 intro code n B ro a C hc hS hA
 obtain ⟨c1,rfl,hc1⟩:=xD6 hc
 intro b k cs hro hb hr
 have s1:∀(w:World),step P (lone (b.atR a (.code (.scope c1) :: k)) cs w)=.next (lone (b.atR a (.code c1 :: .inScope c1 :: k)) cs w):=fun w=>step_lone_go (by simp [stepG,stepG.exec,Frame.atR])
 have s2:∀(a:Act) (w:World),step P (lone (b.atR a (.inScope c1 :: k)) cs w)=.next (lone (b.atR a k) cs w):=fun a w=>step_lone_go (by simp [stepG,stepG.exec,Frame.atR])
 obtain ⟨e,a₁,w₁,hq,harr⟩:=(h c1 n B ro a C hc1 hS hA).wp b (.inScope c1 :: k) cs hro hb hr
 have hq':=hq
 obtain ⟨ve,F',C',h1,h2⟩:=hq'
 cases e <;> cases ve <;> simp only [exitRel] at h1
 ·exact ⟨.normal,a₁,w₁,hq,.head xBq (s1 _) (StepsIn.trans harr (.one xBq (s2 _ _)))⟩
 ·subst h1
  refine ⟨.exit _,a₁,w₁,hq,fun k' hk=>.head xBq (s1 _) (harr.1 k' (by simpa [exitTo] using hk)),fun hr' hk=>?_⟩
  obtain ⟨k₁,e1,e2⟩:=harr.2 hr' (by simpa [exitTo] using hk)
  exact ⟨k₁,e1,.head xBq (s1 _) e2⟩
 ·exact ⟨_,a₁,w₁,hq,.of_steps (.one xBq (s1 _)) harr⟩
theorem W.loopR {c F S} {R Q:Res->Prop} (h:W P g (.code c F S) R) (hn:∀F1 S1,R (.code .normal F1 S1)->W P g (.code (.loop c) F1 S1) Q) (hx:∀e F1 S1,e ≠ .normal->R (.code e F1 S1)->Q (.code e F1 S1)):W P g (.code (.loop c) F S) Q:=by
 intro code n B ro a C hc hS hA
 obtain ⟨c1,rfl,hc1⟩:=xEH hc
 intro b k cs hb
 have h1:=(h c1 n B ro a C hc1 hS hA).wp
 obtain ⟨e,a1,w1,hq,harr⟩:=h1 b (.inLoop c1 :: k) cs (by simpa using hb) (xCK _ _) (xMJ _ _)
 obtain ⟨ve,F1,C1,k1,k2,k3,k4,k5,k6,k7,k8⟩:=hq
 subst k3
 cases e <;> cases ve <;> simp only [exitRel] at k1
 ·obtain ⟨e2,a2,w2,hq2,harr2⟩:=hn F1 C1.S k2 (.loop c1) n B ro a1 C1 hc rfl (hA.then k4 k5 k6 k7 k8) b k cs hb
  exact ⟨e2,a2,w2,PostC.from k4 hq2,.of_steps (StepsIn.trans harr (.one xBq stepR_inLoop)) harr2⟩
 ·subst k1
  exact ⟨.exit _,a1,_,⟨.exit _,F1,C1,rfl,hx _ _ _ (by simp) k2,rfl,k4,k5,k6,k7,k8⟩,.pass (x:=.inLoop c1) rfl (fun _ _=>.inl (by simp)) harr⟩
 ·exact ⟨.ret,a1,_,⟨.ret,F1,C1,trivial,hx _ _ _ (by simp) k2,rfl,k4,k5,k6,k7,k8⟩,.pass (x:=.inLoop c1) rfl (fun _ _=>.inl (by simp)) harr⟩
theorem W.loop {c F S} {Q:Res->Prop} (h:W P g (.code c F S) (thenQ (fun F1 S1=>W P g (.code (.loop c) F1 S1) Q) Q)):W P g (.code (.loop c) F S) Q :=
 W.loopR h (fun _ _ h=>h) (fun e F1 S1 he h=>by cases e <;> first | exact absurd rfl he | exact h)
theorem W.region {l af F S} {Q:Res->Prop} (h:W P g (.ops l F S) Q):W P g (.code (.region false l af) F S) Q:=by
 intro code n B ro a C hc hS hA
 obtain ⟨id,ops,rfl,hm,_⟩:=xA9 hc
 exact wpIn_region (h ops _ n B ro a C _ (fun _ _ _ h=>h) (xF6 hm) hS hA)
theorem W.nil {F S} {Q:Res->Prop} (h:Q (.code .normal F S)):W P g (.ops [] F S) Q:=by
 intro ops idx n B ro a C Q' hQ hO hS hA
 cases hO;subst hS
 exact hQ _ _ _ (hA.post (ve:=.normal) trivial h)
theorem AtC.next {C C':Ctx} {F:AFrame} {n B:Nat} {ro:Option Nat} {a:Act} {v:Value} {y:AV} {d:Option Nat} (hA:AtC g C F n B ro a) (hL:Le C C') (hR:Rel C') (hv:VR C' v y) (hd:∀t,d=some t->t < n):AtC g C' (put F d y) n B ro (a.put d v) :=
 hA.then hL hR ((hA.fr.mono hL).put hv (by rw [hA.size];exact hd)) (by rw [xQy];exact hA.size) (by rw [xEF];exact hA.marks.mono hL)
theorem W.cons {o l F S} {R:AV->St->Prop} {Q:Res->Prop} (h:WOp P g o F S R) (hn:∀v S',R v S'->W P g (.ops l (put F o.dst v) S') Q):W P g (.ops (o :: l) F S) Q:=by
 intro ops idx n B ro a C Q' hQ hO hS hA
 cases hO
 rename_i i oper idx hi hc ht
 rw [wpOpsIn_cons]
 obtain ⟨h1,h2,h3⟩:=xA8 hc
 refine h ops i n B ro a C oper _ Q' hi hc hS hA ?_
 intro v y C' hr hL hR hv
 exact hn y C'.S hr ops idx n B ro _ C' Q' (fun e a' w' hp=>hQ _ _ _ (PostC.from hL hp)) ht rfl (hA.next hL hR hv h3)
theorem WOp.off {o F S} {R:AV->St->Prop} (hg:wantedV F o.guard=false) (h:R .none S):WOp P g o F S R:=by
 intro ops i n B ro a C oper K Q' hi hc hS hA hK
 obtain ⟨h1,h2,h3⟩:=xA8 hc
 have hw:=xD4 hc hA.fr
 rw [hg] at hw
 subst hS
 simp only [wpOpIn,hi,hw,Bool.false_eq_true,if_false,h2]
 exact ⟨fun f _=>xCK _ _,hK undef .none C h (Le.refl C) hA.rel VR.undef⟩
theorem xHl {op:Op} {v:VOp} (hc:compOp P op=some v) (c:Call):op ≠ .defer c:=by
 rintro rfl
 simp [compOp] at hc
theorem xOa {op:Op} {v:VOp} (h:(compOp P op).getD .bad=v) (hb:v ≠ .bad):compOp P op=some v:=by
 cases e:compOp P op with
 | none=>rw [e] at h;exact absurd h.symm hb
 | some u=>rw [e] at h;simp at h;rw [h]
theorem WOp.on {o F S} {R:AV->St->Prop} (hb:o.op ≠ .bad) (hg:wantedV F o.guard=true)
  (h:∀(n B:Nat) (ro:Option Nat) (a:Act) (C:Ctx) (oper:Oper) (K:Act->World->Prop) (Q':Exit->Act->World->Prop),compOp P oper.op=some o.op->oper.dst=o.dst->C.S=S->AtC g C F n B ro a ->
   (∀v y C',R y C'.S->Le C C'->Rel C'->VR C' v y->K (a.put oper.dst v) C'.w)->oper.uponIn (fence ro) 0 P a K Q' ((execOp a.eval oper).run P C.w)):WOp P g o F S R:=by
 intro ops i n B ro a C oper K Q' hi hc hS hA hK
 obtain ⟨h1,h2,h3⟩:=xA8 hc
 have hw:=xD4 hc hA.fr
 rw [hg] at hw
 simp only [wpOpIn,hi,hw,if_true,Oper.wpIn]
 refine ⟨fun f _=>xCK _ _,?_⟩
 have h1:=xOa h1 hb
 rw [Oper.semAt_eq _ _ _ (xHl h1)]
 exact h n B ro a C oper K Q' h1 h2 hS hA (fun v y C' k1 k2 k3 k4=>by rw [h2];exact hK v y C' k1 k2 k3 k4)
theorem WOp.op {o F S v S'} {R:AV->St->Prop} (hg:wantedV F o.guard=true) (ho:aop o.op F S=some (v,S')) (h:R v S'):WOp P g o F S R:=by
 refine WOp.on (by intro e;rw [e] at ho;cases ho) hg ?_
 intro n B ro a C oper K Q' h1 h2 hS hA hK
 subst hS
 have key:DoesM P C a oper v S':=by
  unfold aop at ho
  split at ho
  ·rename_i k xs hk
   simp only [Option.map_eq_some_iff,Prod.mk.injEq] at ho
   obtain ⟨v',hv',rfl,rfl⟩:=ho
   rw [hk] at h1
   obtain ⟨u,u1,u2⟩:=xLz hA.fr h1 hv'
   exact ⟨_,u,C,u1,.inl rfl,rfl,Le.refl C,hA.rel,u2⟩
  ·rename_i k xs hk
   rw [hk] at h1
   exact xQw hA.rel hA.fr h1 ho
  ·cases ho
 obtain ⟨nx,u,C',r1,r2,r3,r4,r5,r6⟩:=key
 rw [r1]
 have:=hK u v C' (by rw [r3];exact h) r4 r5 r6
 rcases r2 with rfl | ⟨rfl,rfl⟩ <;> exact this
theorem WOp.eqNil {o F S neg x m} {R:AV->St->Prop} (hg:wantedV F o.guard=true) (ho:o.op=.eqNil neg x) (hx:lenV (x.eval F)=some m) (hR1:R (.bool neg) S) (hR2:m=0->R (.bool !neg) S):WOp P g o F S R:=by
 refine WOp.on (by rw [ho];simp) hg ?_
 intro n B ro a C oper K Q' h1 h2 hS hA hK
 subst hS
 rw [ho] at h1
 obtain ⟨t,y,t',e,hop,het,hcx⟩:=xFk h1
 have hv:=xAf hA.fr hcx
 obtain ⟨q,len,cap,hq,hnil⟩:=xI8 hv hx
 have hcn:a.eval (.const (.slice none 0 0))=.slice none 0 0:=rfl
 have hrun:(execOp a.eval oper).run P C.w=.ok (.value (.bool (if q.isNone then !neg else neg))) C.w:=by
  cases neg <;> cases q <;> simp [execOp,hop,hq,hcn,eqGuard,binOp,xCX C.w _ _ _ het]
 rw [hrun,Oper.uponIn_value]
 have fin:∀bb,R (.bool bb) C.S->K (a.put oper.dst (.bool bb)) C.w:=fun bb ih=>hK _ _ C ih (Le.refl C) hA.rel (.bool bb)
 cases hqn:q.isNone
 ·exact fin neg hR1
 ·exact fin (!neg) (hR2 (hnil hqn))
def retR (R:AV->St->Prop):Res->Prop
 | .val v S=>R v S
 | .code _ _ _=>False
theorem WOp.call {o F S f args} {R:AV->St->Prop} (hg:wantedV F o.guard=true) (hc:callee o.op F=some (f,args)) (hf:callable P f=true) (h:W P g (.call f args S) (retR R)):WOp P g o F S R:=by
 refine WOp.on (by intro e;rw [e] at hc;cases hc) hg ?_
 intro n B ro a C oper K Q' h1 h2 hS hA hK
 obtain ⟨vs,r1,r2⟩:=xBI hA.fr h1 hc hf
 rw [r1,Oper.uponIn_enter]
 refine ⟨by simp,xAz (Calls.mono (h vs C hS hA.rel r2 hA.lo hA.glob) ?_)⟩
 rintro e w' ⟨v,av,C',rfl,hr,rfl,hL,hR',hv⟩
 exact hK v av C' hr hL hR' hv
theorem WOp.callI {o F S x name xs t p i q f} {R:AV->St->Prop} (hg:wantedV F o.guard=true) (ho:o.op=.callI x name xs) (hx:x.eval F=.iface t (.ptr p i q))
  (hm:∀a w,(method (P.types.size + Made.depth) t (.pointer (some a)) name).run P w=.ok (f,.pointer (some a)) w) (hf:callable P f=true) (h:W P g (.call f (.ptr p i q :: xs.map (VX.eval F)) S) (retR R)):WOp P g o F S R:=by
 refine WOp.on (by rw [ho];simp) hg ?_
 intro n B ro a C oper K Q' h1 h2 hS hA hK
 rw [ho] at h1
 obtain ⟨vs,r1,r2⟩:=xH2 hA.fr h1 hx hm hf
 rw [r1,Oper.uponIn_enter]
 refine ⟨by simp,xAz (Calls.mono (h vs C hS hA.rel r2 hA.lo hA.glob) ?_)⟩
 rintro e w' ⟨v,av,C',rfl,hr,rfl,hL,hR',hv⟩
 exact hK v av C' hr hL hR' hv
theorem WOp.callIV {o F S x name xs t p i q f} {R:AV->St->Prop} {te:TypeId} {sz:Nat} {gg:Bool} {y:AV} (hg:wantedV F o.guard=true) (ho:o.op=.callI x name xs) (hx:x.eval F=.iface t (.ptr p i q)) (hs:sizeT P te=some sz) (hgg:aggT P te=some gg)
  (hm:∀a w,(method (P.types.size + Made.depth) t (.pointer (some a)) name).run P w=((loadVar te a).run P w).andThen fun v w=>.ok (f,v) w) (hl:sk (.load gg sz) [.ptr p i q] S=some (y,S)) (hf:callable P f=true) (h:W P g (.call f (y :: xs.map (VX.eval F)) S) (retR R)):WOp P g o F S R:=by
 refine WOp.on (by rw [ho];simp) hg ?_
 intro n B ro a C oper K Q' h1 h2 hS hA hK
 rw [ho] at h1
 have r:∃ vs,(execOp a.eval oper).run P C.w=.ok (.enter f (vs:List Value).toArray) C.w/\VRs C vs (y :: xs.map (VX.eval F)):=by
  obtain ⟨c,hop,⟨f2,xs2,k1,_⟩ | ⟨x',vx,xs2,k1,_⟩ | ⟨x',vx,nm,xs2,k1,hcl,hcx,hxs⟩⟩:=xBr h1 rfl
  ·cases k1
  ·cases k1
  ·cases k1
   have hv:=xAI hA.fr hxs
   have hfv:=xAf hA.fr hcx
   rw [hx] at hfv
   generalize hv':a.eval x'=v at hfv
   cases hfv
   rename_i u hu
   subst hS
   obtain ⟨_,b,qq,rfl,v,e1,e2⟩:=xI7 hA.rel hs hgg hu hl
   refine ⟨v :: c.args.toList.map a.eval,?_,.cons _ _ _ _ e2 hv⟩
   have e3:c.args.map a.eval=(c.args.toList.map a.eval).toArray:=by apply Array.ext';simp
   simp only [execOp,hop,resolve,hcl,Sem.run_bind,hv',Sem.run_pure,Result.andThen_ok,invoke,e3]
   simp [callMethod,hm,e1,xBe hf]
   rw [List.take_of_length_le (by simp)]
 obtain ⟨vs,r1,r2⟩:=r
 rw [r1,Oper.uponIn_enter]
 refine ⟨by simp,xAz (Calls.mono (h vs C hS hA.rel r2 hA.lo hA.glob) ?_)⟩
 rintro e w' ⟨v,av,C',rfl,hr,rfl,hL,hR',hv⟩
 exact hK v av C' hr hL hR' hv
theorem WOp.callIA {o F S x name xs t cs f} {R:AV->St->Prop} (hg:wantedV F o.guard=true) (ho:o.op=.callI x name xs) (hx:x.eval F=.iface t (.agg cs))
  (hm:∀v w,(method (P.types.size + Made.depth) t v name).run P w=.ok (f,v) w) (hf:callable P f=true) (h:W P g (.call f (.agg cs :: xs.map (VX.eval F)) S) (retR R)):WOp P g o F S R:=by
 refine WOp.on (by rw [ho];simp) hg ?_
 intro n B ro a C oper K Q' h1 h2 hS hA hK
 rw [ho] at h1
 have r:∃ vs,(execOp a.eval oper).run P C.w=.ok (.enter f (vs:List Value).toArray) C.w/\VRs C vs (.agg cs :: xs.map (VX.eval F)):=by
  obtain ⟨c,hop,⟨f2,xs2,k1,_⟩ | ⟨x',vx,xs2,k1,_⟩ | ⟨x',vx,nm,xs2,k1,hcl,hcx,hxs⟩⟩:=xBr h1 rfl
  ·cases k1
  ·cases k1
  ·cases k1
   have hv:=xAI hA.fr hxs
   have hfv:=xAf hA.fr hcx
   rw [hx] at hfv
   generalize hv':a.eval x'=v at hfv
   cases hfv
   rename_i u hu
   refine ⟨u :: c.args.toList.map a.eval,?_,.cons _ _ _ _ hu hv⟩
   have e3:c.args.map a.eval=(c.args.toList.map a.eval).toArray:=by apply Array.ext';simp
   simp only [execOp,hop,resolve,hcl,Sem.run_bind,hv',Sem.run_pure,Result.andThen_ok,invoke,e3]
   simp [callMethod,hm,xBe hf]
   rw [List.take_of_length_le (by simp)]
 obtain ⟨vs,r1,r2⟩:=r
 rw [r1,Oper.uponIn_enter]
 refine ⟨by simp,xAz (Calls.mono (h vs C hS hA.rel r2 hA.lo hA.glob) ?_)⟩
 rintro e w' ⟨v,av,C',rfl,hr,rfl,hL,hR',hv⟩
 exact hK v av C' hr hL hR' hv
end
section
variable {P:Program} {g:Glob}
theorem unmark {C0 C:Ctx} {B b:Nat} (hL:Le C0 C) (hB:C0.w.heap.size<=b) (hR:Rel C) (hnb:¬ C.bad b) (hh:C.w.heap[b]?=some (.deferred (some []))) (hbase:C0.base<=C0.w.heap.size) :
  let C1:Ctx:={ C with w:=C.w.putObj b (.deferred none) }
  Le C0 C1/\Rel C1/\Le0 C C1:=by
 intro C1
 have hlt:=(Array.getElem?_eq_some_iff.1 hh).1
 have other:∀k,k ≠ b->C1.w.heap[k]?=C.w.heap[k]?:=fun k hk=>World.putObj_heap_other hk
 have hsz:C1.w.heap.size=C.w.heap.size:=World.putObj_size
 have h0:Le0 C C1:=by
  refine ⟨fun _ _ h=>h,by rw [hsz];exact Nat.le_refl _,?_,?_⟩
  ·intro k c e f hk
   have:k ≠ b:=by rintro rfl;rw [hh] at hk;cases hk
   exact ⟨c,f,(other k this).trans hk,rfl⟩
  ·intro k hk hkb
   refine ⟨?_,hkb⟩
   by_cases e:k=b
   ·subst e;exact .inr ⟨_,hh⟩
   ·exact .inl (other k e)
 refine ⟨?_,?_,h0⟩
 ·refine ⟨hL.base,hL.av,hL.μ,by rw [hsz];exact hL.size,?_,?_,?_,?_⟩
  ·intro k c e f hk
   obtain ⟨c',f',h1,h2⟩:=hL.cells k c e f hk
   exact ⟨c',f',by rw [other k (by have:=(Array.getElem?_eq_some_iff.1 hk).1;omega)];exact h1,h2⟩
  ·intro k hk hkb
   obtain ⟨h1,h2⟩:=hL.keep k hk hkb
   exact ⟨(other k (by omega)).trans h1,h2⟩
  ·refine ⟨hL.below.os,hL.below.tape,hL.below.output,by rw [hsz];exact hL.below.size,fun k hk=>(other k ?_).trans (hL.below.block k hk)⟩
   omega
  ·intro k r hk
   obtain ⟨r',h1⟩:=hL.loops k r hk
   exact ⟨r',(other k (by have:=(Array.getElem?_eq_some_iff.1 hk).1;omega)).trans h1⟩
 ·refine ⟨fun o x ho=>?_,hR.inj,hR.lt,hR.fresh,hR.low,by rw [hsz];exact hR.basele⟩
  refine (hR.obj o x ho).mono0 h0 (fun h=>h) (fun l hl=>other _ ?_)
  intro e
  exact hnb (.inr ⟨o,l,x,ho,hl,e⟩)
theorem xI9 {C0:Ctx} {B:Nat} (hB:C0.w.heap.size<=B) (hbase:C0.base<=C0.w.heap.size) {fn:Func} {rs:List VRes} (hrs:mapOpt (compRes P) fn.results.toList=some rs) {Q:Res->Prop} {F:AFrame} {a:Act} :
  ∀(ds:List Deferred) (C:Ctx),Marks B C ds->Le C0 C->Rel C->FrameOK C F a->(∃ y,resV rs F C.S=some y/\Q (.val y C.S)) ->
   LeavesInM Fence.wide 0 P fn a.tmps (fun e w'=>∃ v av C',e=.returned v/\Q (.val av C'.S)/\C'.w=w'/\Le C0 C'/\Rel C'/\VR C' v av) ds .returning C.w:=by
 intro ds
 induction ds with
 | nil =>
  intro C hm hL hR hF ⟨y,hy,hq⟩
  obtain ⟨u,u1,u2⟩:=xD7 (P:=P) hR hF hrs hy
  exact ⟨u,u1,u,y,C,rfl,hq,rfl,hL,hR,u2⟩
 | cons d ds ih =>
  intro C hm hL hR hF hy
  cases hm
  rename_i b hb hnb hh hd hm
  have hlt:=(Array.getElem?_eq_some_iff.1 hh).1
  obtain ⟨k1,k2,k3⟩:=unmark (B:=B) hL (Nat.le_trans hB hb) hR hnb hh hbase
  refine ⟨by simp,.inl ⟨b,_,rfl,run_takeDeferred hh,?_⟩⟩
  refine ih _ ?_ k1 k2 (fun t=>(hF t).mono0 k3) hy
  clear ih
  induction hm with
  | nil=>exact .nil
  | cons b' ds hb' hnb' hh' hd' h' ih' =>
   have hne:b' ≠ b:=hd b' (by simp)
   exact .cons b' ds hb' hnb' ((World.putObj_heap_other hne).trans hh') hd' (ih' (fun b'' h''=>hd b'' (by simp [h''])))
def bodyQ (rs:List VRes) (Q:Res->Prop):Res->Prop
 | .code .normal F S=>∃ v,resV rs F S=some v/\Q (.val v S)
 | .code .ret F S=>∃ v,resV rs F S=some v/\Q (.val v S)
 | _=>False
theorem W.inl {f args S fn vf} {Q:Res->Prop} (hf:P.funcs[f]?=some fn) (hv:compFunc P fn=some vf) (hn:args.length<=vf.ntmps) (h:W P g (.code vf.code (entry args) S) (bodyQ vf.results Q)):W P g (.call f args S) Q:=by
 intro vs C hS hR hvs hN hG
 unfold compFunc at hv
 split at hv
 ·cases hv
 ·rename_i c hb
  simp only [Option.bind_eq_bind,xoB,xoI] at hv
  obtain ⟨rs,hrs,k,hk,rfl⟩:=hv
  refine (callsIn_wide (n:=0)).1 (callsIn_of_wp_marks hf hb trivial ?_)
  have hA:AtC g C (entry args) fn.ntmps C.w.heap.size none { tmps:=vs.toArray ++ Array.replicate (fn.ntmps - vs.toArray.size) Go.undef,defers:=[] }:=by
   refine ⟨?_,.nil,Nat.le_refl _,trivial,hR,xHk hvs _,hN,hG⟩
   have:=hvs.length;simp at hn ⊢;omega
  refine wpIn_mono (h c fn.ntmps _ none _ C hk hS hA).wp ?_
  rintro e a' w' ⟨ve,F',C',h1,h2,h3,h4,h5,h6,h7,h8⟩
  subst h3
  have fin:(∃ y,resV rs F' C'.S=some y/\Q (.val y C'.S))->LeavesInM Fence.wide 0 P fn a'.tmps (fun e w'=>∃ v av C',e=.returned v/\Q (.val av C'.S)/\C'.w=w'/\Le C C'/\Rel C'/\VR C' v av) a'.defers .returning C'.w:=fun hy =>
   xI9 (Nat.le_refl _) hR.basele hrs a'.defers C' h8 h4 h5 h6 hy
  cases e <;> cases ve <;> simp only [exitRel] at h1
  ·exact fin h2
  ·exact absurd h2 (by simp [bodyQ])
  ·exact fin h2
def jumpQ (Q:Res->Prop) (F:AFrame) (q n:Nat) (ps:Array Nat) (asg body:Code):Res->Prop
 | .val _ S=>∃ st,S.obj q=some (.loop n ps F asg body st)/\(match st with
  | .ready=>Q (.code .normal F (S.drop q))
  | .done .ret=>Q (.code .ret F (S.drop q))
  | .done (.exit id)=>Q (.code (.exit id) F (S.drop q))
  | _=>False)
 | .code _ _ _=>False
theorem xD9 {n:Nat} {code:Code} {m:Nat} {x:VX} {ps:Array Nat} {asg body:Code} (h:compCode P n code=some (.rangeFunc m x ps asg body)):∃ gf,code=.rangeFunc gf ps asg body/\m=n/\cx gf=some x/\ps.all (· < n)=true:=by
 cases code <;> simp only [compCode,Option.bind_eq_bind,xoB,xoI,reduceCtorEq,Option.map_eq_some_iff,and_false,exists_const,exists_false] at h
 obtain ⟨x',hx,h⟩:=h
 split at h
 ·rename_i hp;cases h;exact ⟨_,rfl,rfl,hx,hp⟩
 ·cases h
theorem made2 {C:Ctx} (h:Rel C) (o:Obj):Le C { C with w:=C.w.alloc o }/\Rel { C with w:=C.w.alloc o }:=by
 have hB:Below C.w.heap.size C.w (C.w.alloc o):=(Below.refl _ _).alloc (Nat.le_refl _) o
 exact ⟨xMI h hB,xI6 h hB⟩
theorem xOb {C:Ctx} {F:AFrame} {n B:Nat} {ro:Option Nat} {a:Act} (hA:AtC g C F n B ro a) (fn:FuncId) (ps:Array Nat) (asg body:Code) :
  ∃ l ds w1,(Instr.enterLoop fn a.tmps ps asg body ro).run P C.w=.ok (l,ds) w1/\∃ C1:Ctx,C1.w=w1/\C1.S=C.S.new (.loop n ps F asg body .ready)/\C1.μ C.S.next=some ⟨l,0,0⟩/\Le C C1/\Rel C1/\Marks B C1 (ds ++ a.defers):=by
 have fin:∀(C0:Ctx) (d:Nat) (ds:List Deferred),Le C C0->Rel C0->C0.S=C.S->Marks B C0 (ds ++ a.defers) ->
   ∃ C1:Ctx,C1.w=C0.w.alloc (.loop { state:=.ready,pending:=none,fn,tmps:=a.tmps,params:=ps,assign:=asg,body,defers:=d })/\C1.S=C.S.new (.loop n ps F asg body .ready)/\C1.μ C.S.next=some ⟨C0.w.heap.size,0,0⟩/\Le C C1/\Rel C1/\Marks B C1 (ds ++ a.defers):=by
  intro C0 d ds hL hR hS hm
  let ob:Obj:=.loop { state:=.ready,pending:=none,fn,tmps:=a.tmps,params:=ps,assign:=asg,body,defers:=d }
  have hle:=xKs hR ob (.loop n ps F asg body .ready) 0
  refine ⟨C0.made ob (.loop n ps F asg body .ready) 0,rfl,by rw [<- hS];rfl,by rw [<- hS];simp [Ctx.made,Ctx.madeAt],hL.trans hle,xFF hR _ _ _ ?_,hm.mono hle⟩
  refine ⟨⟨C0.w.heap.size,0,0⟩,{ state:=.ready,pending:=none,fn,tmps:=a.tmps,params:=ps,assign:=asg,body,defers:=d },by simp [Ctx.made,Ctx.madeAt],?_,rfl,rfl,rfl,hA.size,fun t=>((hA.fr t).mono hL).mono hle,rfl,rfl⟩
  show (C0.w.heap.push ob)[C0.w.heap.size]?=_
  simp [ob]
 cases ro with
 | none =>
  obtain ⟨k1,k2⟩:=made2 hA.rel (.deferred (some []))
  have hm:Marks B { C with w:=C.w.alloc (.deferred (some [])) } ([mark C.w.heap.size] ++ a.defers):=by
   have hold:=hA.marks.mono k1
   refine .cons _ _ hA.le ?_ (World.alloc_heap_new C.w _) ?_ hold
   ·rintro (⟨h1,_⟩ | ⟨q,l,x,h1,h2,h3⟩)
    ·have:=hA.rel.basele
     have h1:C.w.heap.size < C.base:=h1
     omega
    ·have:=hA.rel.blk_lt h1 h2
     omega
   ·intro b' hb' e
    have:∀ds,Marks B C ds->mark b' ∈ ds->b' < C.w.heap.size:=by
     intro ds hds
     induction hds with
     | nil=>intro h;cases h
     | cons b ds hB hnb hh hd h ih =>
      intro h
      rcases List.mem_cons.1 h with h | h
      ·simp only [mark,Deferred.mk.injEq,Target.collected.injEq,and_true] at h
       rw [h];exact (Array.getElem?_eq_some_iff.1 hh).1
      ·exact ih h
    have:=this _ hA.marks hb'
    omega
  obtain ⟨C1,c1,c2,c3,c4,c5,c6⟩:=fin _ C.w.heap.size [mark C.w.heap.size] k1 k2 rfl hm
  refine ⟨_,_,_,run_enterLoop_outer fn a.tmps ps asg body,C1,c1,c2,?_,c4,c5,c6⟩
  rw [c3];simp
 | some l₀ =>
  obtain ⟨r₀,hr⟩:=hA.round
  obtain ⟨C1,c1,c2,c3,c4,c5,c6⟩:=fin C r₀.defers [] (Le.refl C) hA.rel rfl (by simpa using hA.marks)
  exact ⟨_,_,_,run_enterLoop_inner hr fn a.tmps ps asg body,C1,c1,c2,c3,c4,c5,c6⟩
def jumpE (Q:Res->Prop) (F:AFrame) (q:Nat):Res->Prop
 | .val _ S=>∃ n ps LF asg body st,S.obj q=some (.loop n ps LF asg body st)/\(match st with
  | .ready=>Q (.code .normal F (S.drop q))
  | .done .ret=>Q (.code .ret F (S.drop q))
  | .done (.exit id)=>Q (.code (.exit id) F (S.drop q))
  | _=>False)
 | .code _ _ _=>False
theorem W.rangeE {n x ps asg body F S f first captured} {Q:Res->Prop} (hx:x.eval F=.func (.func f) first captured) (hf:callable P f=true)
  (h:W P g (.call f (first ++ [.yield S.next] ++ captured) (S.new (.loop n ps F asg body .ready))) (jumpE Q F S.next)):W P g (.code (.rangeFunc n x ps asg body) F S) Q:=by
 intro code n' B ro a C hc hS hA
 obtain ⟨gf,rfl,rfl,hcx,hps⟩:=xD9 hc
 subst hS
 refine wpIn_rangeFunc ?_
 intro fn hfn
 obtain ⟨l,ds,w1,h1,C1,rfl,hS1,hμ,hL,hR,hm⟩:=xOb hA fn ps asg body (P:=P)
 have hv:=(xAf hA.fr hcx).mono hL
 rw [hx] at hv
 generalize hval:a.eval gf=v at hv
 cases hv
 rename_i va vc ha hcp
 obtain ⟨hN1,hG1⟩:=g.stays hA.lo hA.glob hL
 have hyv:VR C1 (.func (.yield l) #[] #[]) (.yield C.S.next):=.yield _ _ hμ
 have hcall:=h (va ++ [.func (.yield l) #[] #[]] ++ vc) C1 hS1 hR ((ha.append (VRs.one hyv)).append hcp) hN1 hG1
 refine ⟨l,ds,C1.w,{ target:=.fn (.func f) vc.toArray,args:=va.toArray ++ #[Value.func (.yield l) #[] #[]] },C1.w,f,(va ++ [Value.func (.yield l) #[] #[]] ++ vc).toArray,C1.w,by simpa using h1,?_,fun f' _=>xCK _ _,?_,by simp,?_⟩
 ·have hev:∀u:Value,a.eval (.const u)=u:=fun _=>rfl
  simp [resolve,rangeCall,hval,Deferred.ofValue,Sem.run_bind,hev]
 ·simp only [invoke]
  rw [xBe hf]
  simp
 ·refine xAz (Calls.mono hcall ?_)
  rintro e w' ⟨v,av,C2,rfl,hq,rfl,hL2,hR2,_⟩
  obtain ⟨n2,ps2,F2,asg2,body2,st,hobj,hst⟩:=hq
  obtain ⟨l2,r,k1,k2,k3,k4,k5,k6,k7,k8⟩:=hR2.obj _ _ hobj
  have hμ2:=hL2.μ _ _ hμ
  rw [hμ2] at k1;cases k1
  let ob:Obj:=.loop { r with state:=.exhausted }
  have hle:Le C2 (C2.wrote C.S.next l ob (.loop n2 ps2 F2 asg2 body2 .over)):=xCa hR2 hobj hμ2 k2 _ (by intro c e f h;cases h) _ (by intro r h;exact ⟨_,rfl⟩)
  have hR3:Rel (C2.wrote C.S.next l ob (.loop n2 ps2 F2 asg2 body2 .over)):=xBF hR2 hobj hμ2 hle ⟨_,_,hμ2,xAm _ (Array.getElem?_eq_some_iff.1 k2).1,k3,k4,k5,k6,fun t=>(k7 t).mono hle,trivial⟩
  have hR4:=xFU hR3 C.S.next
  have hL4:=(hL.trans hL2).trans (hle.trans (xCs _ C.S.next))
  have hS4:((C2.wrote C.S.next l ob (.loop n2 ps2 F2 asg2 body2 .over)).dropped C.S.next).S=C2.S.drop C.S.next:=by
   simp only [Ctx.dropped,Ctx.wrote,St.drop,St.set]
   congr 1
   funext q
   split <;> rfl
  have hm4:=(hm.mono hL2).mono (hle.trans (xCs _ C.S.next))
  have fin:∀(e:Exit) (ve:VExit),exitRel e ve->Q (.code ve F (C2.S.drop C.S.next))->PostC C n B Q e { a with defers:=ds ++ a.defers } (C2.w.putObj l ob):=fun e ve he hq =>
   ⟨ve,F,_,he,by rw [hS4];exact hq,rfl,hL4,hR4,hA.fr.mono hL4,hA.size,hm4⟩
  have hend:r.state ≠ .busy->(Instr.endLoop l).run P C2.w=.ok r.pending (C2.w.putObj l ob):=fun hb=>run_endLoop k2 hb
  cases st with
  | ready =>
   obtain ⟨s1,s2⟩:=k8
   rw [s1,s2] at hend
   exact ⟨_,_,hend (by simp),fin .normal .normal trivial hst⟩
  | busy=>exact hst.elim
  | over=>exact hst.elim
  | done e =>
   cases e with
   | normal=>exact hst.elim
   | ret =>
    obtain ⟨s1,s2⟩:=k8
    rw [s1,s2] at hend
    exact ⟨_,_,hend (by simp),wpIn_ret (fin .ret .ret trivial hst)⟩
   | exit id =>
    obtain ⟨s1,s2⟩:=k8
    rw [s1,s2] at hend
    exact ⟨_,_,hend (by simp),wpIn_exit (fin (.exit id) (.exit id) rfl hst)⟩
theorem W.rangeFunc {n x ps asg body F S f first captured} {Q:Res->Prop} (hx:x.eval F=.func (.func f) first captured) (hf:callable P f=true)
  (h:W P g (.call f (first ++ [.yield S.next] ++ captured) (S.new (.loop n ps F asg body .ready))) (jumpQ Q F S.next n ps asg body)):W P g (.code (.rangeFunc n x ps asg body) F S) Q :=
 W.rangeE hx hf (W.mono h fun r hr=>by cases r with
  | code=>exact hr
  | val v S=>obtain ⟨st,h1,h2⟩:=hr;exact ⟨_,_,_,_,_,st,h1,h2⟩)
def puts (F:AFrame):List Nat->List AV->AFrame
 | p :: ps,v :: vs=>puts (upd F p v) ps vs
 | _,_=>F
theorem xHm {C:Ctx} {n:Nat}:∀(ps:List Nat) (vs:List Value) (xs:List AV) (F:AFrame) (tmps:Array Value),(∀t,VR C (tmps.getD t undef) (F t))->VRs C vs xs->(∀p ∈ ps,p < n)->tmps.size=n ->
  (∀t,VR C (((ps.zip vs).foldl (fun tmps (x:Nat × Value)=>tmps.setIfInBounds x.1 x.2) tmps).getD t undef) (puts F ps xs t))/\((ps.zip vs).foldl (fun tmps (x:Nat × Value)=>tmps.setIfInBounds x.1 x.2) tmps).size=n
 | [],vs,xs,F,tmps,hF,hv,hp,hs=>by simp only [List.zip_nil_left,List.foldl_nil,puts];exact ⟨hF,hs⟩
 | p :: ps,_,_,F,tmps,hF,.nil,hp,hs=>by simp only [List.zip_nil_right,List.foldl_nil,puts];exact ⟨hF,hs⟩
 | p :: ps,_,_,F,tmps,hF,.cons v x vs xs h hv,hp,hs=>by
  simp only [List.zip_cons_cons,List.foldl_cons,puts]
  refine xHm ps vs xs _ _ ?_ hv (fun q hq=>hp q (by simp [hq])) (by simp [hs])
  have:=FrameOK.put (C:=C) (F:=F) (a:=⟨tmps,[]⟩) (fun t=>hF t) h (d:=some p) (by intro t ht;cases ht;rw [hs];exact hp p (by simp))
  exact this
def VExit.isNormal:VExit->Bool
 | .normal=>true
 | _=>false
def lstOf:VExit->LSt
 | .normal=>.ready
 | e=>.done e
def roundQ (R:AV->St->Prop) (q n:Nat) (ps:Array Nat) (LF:AFrame) (asg body:Code):Res->Prop
 | .code e _ S=>S.obj q=some (.loop n ps LF asg body .busy)/\R (.bool e.isNormal) (S.set q (.loop n ps LF asg body (lstOf e)))
 | .val _ _=>False
def asgQ (P:Program) (g:Glob) (R:AV->St->Prop) (q n:Nat) (ps:Array Nat) (LF:AFrame) (asg body:Code) (cb:VCode):Res->Prop
 | .code .normal F S=>S.obj q=some (.loop n ps LF asg body .ready)/\W P g (.code cb F (S.set q (.loop n ps LF asg body .busy))) (roundQ R q n ps LF asg body)
 | _=>False
def roundE (R:AV->St->Prop) (q:Nat):Res->Prop
 | .code e _ S=>∃ n ps LF asg body,S.obj q=some (.loop n ps LF asg body .busy)/\R (.bool e.isNormal) (S.set q (.loop n ps LF asg body (lstOf e)))
 | .val _ _=>False
def asgE (P:Program) (g:Glob) (R:AV->St->Prop) (q:Nat) (cb:VCode):Res->Prop
 | .code .normal F S=>∃ n ps LF asg body,S.obj q=some (.loop n ps LF asg body .ready)/\W P g (.code cb F (S.set q (.loop n ps LF asg body .busy))) (roundE R q)
 | _=>False
theorem xH3 (ro:Option Nat) (l:Nat):(fence ro).inRound l=fence (some l):=by cases ro <;> rfl
theorem WOp.yieldE {o F S x xs q n ps LF asg body ca cb} {R:AV->St->Prop} (hg:wantedV F o.guard=true) (ho:o.op=.callV x xs) (hx:x.eval F=.yield q) (hq:S.obj q=some (.loop n ps LF asg body .ready)) (hl:xs.length=ps.size) (hps:ps.all (· < n)=true)
  (hca:compCode P n asg=some ca) (hcb:compCode P n body=some cb) (h:W P g (.code ca (puts LF ps.toList (xs.map (VX.eval F))) S) (asgE P g R q cb)):WOp P g o F S R:=by
 refine WOp.on (by rw [ho];simp) hg ?_
 intro m B ro a C oper K Q' h1 h2 hS hA hK
 subst hS
 rw [ho] at h1
 obtain ⟨c,hop,⟨f2,xs2,h1,_⟩ | ⟨x',vx,xs2,h1,hcl,hcx,hxs⟩ | ⟨x',vx,nm,xs2,h1,_⟩⟩:=xBr h1 rfl
 ·cases h1
 ·cases h1
  have hv:=xAI hA.fr hxs
  have hfv:=xAf hA.fr hcx
  rw [hx] at hfv
  generalize hv':a.eval x'=v at hfv
  cases hfv
  rename_i lo hlo
  obtain ⟨l',r,k1,k2,k3,k4,k5,k6,k7,k8⟩:=hA.rel.obj _ _ hq
  rw [hlo] at k1;cases k1
  have hlen:c.args.size=r.params.size:=by
   have:=hv.length
   simp only [List.length_map,Array.length_toList] at this
   rw [k3,<- hl,this]
  have e1:c.args.map a.eval=(c.args.toList.map a.eval).toArray:=by apply Array.ext';simp
  have hrun:(execOp a.eval oper).run P C.w=.ok (.round lo.blk r.fn ((r.params.zip (c.args.map a.eval)).foldl (fun tmps (t,a)=>tmps.setIfInBounds t a) r.tmps) r.assign r.body) C.w:=by
   rw [<- run_yield (P:=P) (args:=c.args.map a.eval) k2 (by simpa using hlen)]
   simp [execOp,hop,resolve,hcl,Sem.run_bind,hv',Deferred.ofValue,invoke]
  rw [hrun,Oper.uponIn_round]
  refine ⟨by simp,roundIn_of_wpIn (xCK _ _) ?_⟩
  rw [xH3,k4,k5]
  obtain ⟨hfr,hsz⟩:=xHm (C:=C) (n:=n) ps.toList (c.args.toList.map a.eval) (xs.map (VX.eval F)) LF r.tmps k7 hv (by
   intro p hp
   rw [Array.all_eq_true_iff_forall_mem] at hps
   simpa using hps p (by simpa using hp)) k6
  have e2:(r.params.zip (c.args.map a.eval)).foldl (fun tmps (t,a)=>tmps.setIfInBounds t a) r.tmps=((ps.toList.zip (c.args.toList.map a.eval)).foldl (fun tmps (x:Nat × Value)=>tmps.setIfInBounds x.1 x.2) r.tmps):=by
   rw [<- Array.foldl_toList,Array.toList_zip,k3]
   simp
  rw [e2]
  generalize ((ps.toList.zip (c.args.toList.map a.eval)).foldl (fun tmps (x:Nat × Value)=>tmps.setIfInBounds x.1 x.2) r.tmps)=tm at hfr hsz
  have hA0:AtC g C (puts LF ps.toList (xs.map (VX.eval F))) n B (some lo.blk) ⟨tm,[]⟩:=⟨hsz,.nil,hA.le,⟨r,k2⟩,hA.rel,hfr,hA.lo,hA.glob⟩
  refine wpIn_mono (h asg n B (some lo.blk) ⟨tm,[]⟩ C hca rfl hA0).wp ?_
  rintro e a1 w1 ⟨ve,F1,C1,j1,j2,j3,j4,j5,j6,j7,j8⟩
  subst j3
  cases ve <;> simp only [asgE] at j2
  cases e <;> simp only [exitRel] at j1
  obtain ⟨n1,ps1,LF1,asg1,body1,hq1,hb⟩:=j2
  obtain ⟨l1,r1,p1,p2,p3,p4,p5,p6,p7,p8,p9⟩:=j5.obj _ _ hq1
  rw [j4.μ _ _ hlo] at p1;cases p1
  let ob1:Obj:=.loop { r1 with state:=.busy }
  have hle1:Le C1 (C1.wrote q lo.blk ob1 (.loop n1 ps1 LF1 asg1 body1 .busy)):=xCa j5 hq1 (j4.μ _ _ hlo) p2 _ (by intro c e f h;cases h) _ (by intro r h;exact ⟨_,rfl⟩)
  have hR1:Rel (C1.wrote q lo.blk ob1 (.loop n1 ps1 LF1 asg1 body1 .busy)):=xBF j5 hq1 (j4.μ _ _ hlo) hle1 ⟨_,_,j4.μ _ _ hlo,xAm _ (Array.getElem?_eq_some_iff.1 p2).1,p3,p4,p5,p6,fun t=>(p7 t).mono hle1,rfl,p9⟩
  refine ⟨_,run_beginRound p2 p8,?_⟩
  have hA1:AtC g (C1.wrote q lo.blk ob1 (.loop n1 ps1 LF1 asg1 body1 .busy)) F1 n B (some lo.blk) a1:=hA0.then (j4.trans hle1) hR1 (j6.mono hle1) j7 (j8.mono hle1)
  refine wpIn_mono (hb body n B (some lo.blk) a1 (C1.wrote q lo.blk ob1 (.loop n1 ps1 LF1 asg1 body1 .busy)) hcb rfl hA1).wp ?_
  rintro e a2 w2 ⟨ve,F2,C2,i1,i2,i3,i4,i5,i6,i7,i8⟩
  subst i3
  simp only [roundE] at i2
  obtain ⟨n2,ps2,LF2,asg2,body2,hq2,hr⟩:=i2
  have hL2:=(j4.trans hle1).trans i4
  have hμ2:=hL2.μ _ _ hlo
  obtain ⟨l2,r2,t1,t2,t3,t4,t5,t6,t7,t8,t9⟩:=i5.obj _ _ hq2
  rw [hμ2] at t1;cases t1
  have fin:∀(jump:Option Code) (st:LSt),stOK { r2 with state:=if jump.isNone then .ready else .done,pending:=jump } st->R (.bool jump.isNone) (C2.S.set q (.loop n2 ps2 LF2 asg2 body2 st)) ->
    ∃ v w',(Instr.endRound lo.blk jump).run P C2.w=.ok v w'/\K (a.put oper.dst v) w':=by
   intro jump st hst hr
   let ob2:Obj:=.loop { r2 with state:=if jump.isNone then .ready else .done,pending:=jump }
   have hle2:Le C2 (C2.wrote q lo.blk ob2 (.loop n2 ps2 LF2 asg2 body2 st)):=xCa i5 hq2 hμ2 t2 _ (by intro c e f h;cases h) _ (by intro r h;exact ⟨_,rfl⟩)
   have hR2:Rel (C2.wrote q lo.blk ob2 (.loop n2 ps2 LF2 asg2 body2 st)):=xBF i5 hq2 hμ2 hle2 ⟨_,_,hμ2,xAm _ (Array.getElem?_eq_some_iff.1 t2).1,t3,t4,t5,t6,fun t=>(t7 t).mono hle2,hst⟩
   exact ⟨_,_,run_endRound jump t2,hK _ _ _ hr (hL2.trans hle2) hR2 (.bool _)⟩
  cases e <;> cases ve <;> simp only [exitRel] at i1
  ·exact fin none .ready ⟨rfl,rfl⟩ hr
  ·subst i1
   exact fin (some (.exit _)) (.done (.exit _)) ⟨rfl,rfl⟩ hr
  ·exact fin (some .ret) (.done .ret) ⟨rfl,rfl⟩ hr
 ·cases h1
theorem WOp.yield {o F S x xs q n ps LF asg body ca cb} {R:AV->St->Prop} (hg:wantedV F o.guard=true) (ho:o.op=.callV x xs) (hx:x.eval F=.yield q) (hq:S.obj q=some (.loop n ps LF asg body .ready)) (hl:xs.length=ps.size) (hps:ps.all (· < n)=true)
  (hca:compCode P n asg=some ca) (hcb:compCode P n body=some cb) (h:W P g (.code ca (puts LF ps.toList (xs.map (VX.eval F))) S) (asgQ P g R q n ps LF asg body cb)):WOp P g o F S R:=by
 refine WOp.yieldE hg ho hx hq hl hps hca hcb (W.mono h ?_)
 rintro (⟨e,F1,S1⟩ | ⟨v,S1⟩) hr
 ·cases e <;> simp only [asgQ] at hr
  refine ⟨_,_,_,_,_,hr.1,W.mono hr.2 ?_⟩
  rintro (⟨e2,F2,S2⟩ | ⟨v,S2⟩) h2
  ·exact ⟨_,_,_,_,_,h2⟩
  ·exact h2
 ·exact hr
end
end Go.Proofs.YtnhfofmhkfdpgaaGreatDoor.Vm
