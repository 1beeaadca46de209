/- A part of the proof: Wa Wb Wf Wc Wd Fa Fb Fc. -/
import Derived.ChangeKeysEq
import Derived.KernelRfl
import Derived.Lib.AppendIntMem
import Derived.Test.YtnhfofmhkfdpgaaGreatDoorQ13
set_option linter.unusedVariables false
set_option linter.unusedSimpArgs false
set_option linter.constructorNameAsVariable false
namespace Go.Proofs.YtnhfofmhkfdpgaaGreatDoor.Vm
open Go Go.RowKit
theorem VR.empty {C:Ctx} {v:Value} {x:AV} (h:VR C v x) (hl:lenV x=some 0) (sz:Nat):VR C v (.fsl sz []):=by
 cases h <;> simp only [lenV,xoI,reduceCtorEq] at hl
 ·exact .fnil _ _ _
 ·rename_i es _ _ _ _ _ _
  rw [hl]
  exact .fnil _ _ _
 ·exact .fnil _ _ _
 ·subst hl;exact .fnil _ _ _
 ·exact .fnil _ _ _
 ·subst hl;exact .fnil _ _ _
 ·exact .fnil _ _ _
def Wv (x y:AV):Prop:=(∃ k n,x=.int k n/\y=.anyi k) \/ (lenV x=some 0/\∃ sz,y=.fsl sz [])
theorem Wv.vr {C:Ctx} {v:Value} {x y:AV} (h:VR C v x) (hw:Wv x y):VR C v y:=by
 rcases hw with ⟨k,n,rfl,rfl⟩ | ⟨hl,sz,rfl⟩
 ·rw [h.int_inv];exact .anyi _ _
 ·exact h.empty hl sz
def Wk (S S':St):Prop:=S'.next=S.next/\∀q,S'.obj q=none \/ S'.obj q=S.obj q \/ ∃ sz es k,S.obj q=some (.row sz es)/\S'.obj q=some (.row sz (es.take k))
theorem Wk.refl (S:St):Wk S S:=⟨rfl,fun q=>.inr (.inl rfl)⟩
theorem Wk.cut {S:St} {o sz:Nat} {es:List (List AV)} (k:Nat) (h:S.obj o=some (.row sz es)):Wk S (S.set o (.row sz (es.take k))):=by
 refine ⟨rfl,fun q=>?_⟩
 by_cases hq:q=o
 ·subst hq;exact .inr (.inr ⟨sz,es,k,h,by show (if q=q then _ else _)=_;rw [if_pos rfl]⟩)
 ·exact .inr (.inl (by show (if q=o then _ else _)=_;rw [if_neg hq]))
theorem Wk.get {S S':St} (h:Wk S S') {q:Nat} {x:AObj} (hx:S'.obj q=some x):S.obj q=some x \/ ∃ sz es k,S.obj q=some (.row sz es)/\x=.row sz (es.take k):=by
 rcases h.2 q with h1 | h1 | ⟨sz,es,k,h1,h2⟩
 ·rw [h1] at hx;cases hx
 ·exact .inl (h1 ▸ hx)
 ·rw [h2] at hx;cases hx;exact .inr ⟨sz,es,k,h1,rfl⟩
theorem Wk.any {S S':St} (h:Wk S S') {q:Nat} {x:AObj} (hx:S'.obj q=some x):∃ y,S.obj q=some y:=by
 rcases h.get hx with h1 | ⟨_,_,_,h1,_⟩ <;> exact ⟨_,h1⟩
theorem xOt {C:Ctx} {S':St} (h:Wk C.S S'):Le C { C with S:=S' } :=
 ⟨rfl,rfl,fun _ _ h=>h,Nat.le_refl _,fun b c e f h=>⟨c,f,h,rfl⟩,fun b _ hn=>⟨rfl,fun hb=>hn (by
  rcases hb with hb | ⟨q,l,y,h1,h2,h3⟩
  ·exact .inl hb
  ·obtain ⟨z,hz⟩:=h.any h1
   exact .inr ⟨q,l,z,hz,h2,h3⟩)⟩,Below.refl _ _,fun b r h=>⟨r,h⟩⟩
theorem xOu {C:Ctx} {S':St} (h:Rel C) (hw:Wk C.S S'):Rel { C with S:=S' } where
 obj q x hq:=by
  rcases hw.get hq with h1 | ⟨sz,es,k,h1,rfl⟩
  ·exact (h.obj q x h1).mono (xOt hw) (fun h=>h) (fun _ _=>rfl)
  ·have:=(h.obj q _ h1).mono (xOt hw) (fun h=>h) (fun _ _=>rfl)
   rcases this with ⟨rfl,hn⟩ | ⟨l,c,e,vs,h2,h3,h4,h5,h6,h7,h8,h9⟩
   ·exact .inl ⟨by simp,hn⟩
   ·refine .inr ⟨l,c,e,vs.take (k * sz),h2,h3,h4,h5,?_,fun x hx=>h7 x (List.mem_of_mem_take hx),fun j v hj=>?_,?_⟩
    ·have:(es.take k).length * sz<=es.length * sz:=Nat.mul_le_mul_right _ (by simp;omega)
     omega
    ·rw [List.getElem?_take] at hj
     split at hj
     ·exact h8 j v hj
     ·cases hj
    ·rw [xBi k h7];exact h9.take _
 inj q q' l l' x x' hq hq':=by
  obtain ⟨y,hy⟩:=hw.any hq
  obtain ⟨y',hy'⟩:=hw.any hq'
  exact h.inj q q' l l' y y' hy hy'
 lt q x hq:=by
  obtain ⟨y,hy⟩:=hw.any hq
  have:=h.lt q y hy
  show q < S'.next
  rw [hw.1];exact this
 fresh q l hq:=by
  show q < S'.next
  rw [hw.1];exact h.fresh q l hq
 low q x l hq:=by
  obtain ⟨y,hy⟩:=hw.any hq
  exact h.low q y l hy
 basele:=h.basele
section
variable {P:Program} {g:Glob}
theorem Cal.post {f args S K} (h:Cal P g f args S fun v S1=>∃ v2 S2,(v2=v \/ Wv v v2)/\Wk S1 S2/\K v2 S2):Cal P g f args S K:=by
 refine ⟨h.1,?_⟩
 intro vs C hS hR hvs hN hG
 refine Calls.mono (h.2 vs C hS hR hvs hN hG) ?_
 rintro e w' ⟨v,av,C',rfl,hq,h1,h2,h3,h4⟩
 obtain ⟨v2,S2,hv,hw,hk⟩:∃ v2 S2,(v2=av \/ Wv av v2)/\Wk C'.S S2/\K v2 S2:=hq
 have hL:=xOt hw
 refine ⟨v,v2,{ C' with S:=S2 },rfl,hk,h1,h2.trans hL,xOu h3 hw,VR.mono hL ?_⟩
 rcases hv with rfl | hv
 ·exact h4
 ·exact Wv.vr h4 hv
theorem Cal.less {f args S K} (h:Cal P g f args S fun v S1=>∃ S2,Wk S1 S2/\K v S2):Cal P g f args S K :=
 Cal.post (h.mono fun v S1 ⟨S2,h1,h2⟩=>⟨v,S2,.inl rfl,h1,h2⟩)
theorem Cal.pre {f args S S' K} (hw:Wk S S') (h:Cal P g f args S' K):Cal P g f args S K:=by
 refine ⟨h.1,?_⟩
 intro vs C hS hR hvs hN hG
 subst hS
 have hL:=xOt hw
 refine Calls.mono (h.2 vs { C with S:=S' } rfl (xOu hR hw) (hvs.mono hL) hN hG) ?_
 rintro e w' ⟨v,av,C',rfl,hq,h1,h2,h3,h4⟩
 exact ⟨v,av,C',rfl,hq,h1,hL.trans h2,h3,h4⟩
theorem W.wk {c F S S'} {Q:Res->Prop} (hw:Wk S S') (h:W P g (.code c F S') Q):W P g (.code c F S) Q:=by
 intro code n B ro a C hc hS hA
 subst hS
 have hL:=xOt hw
 have k:=h code n B ro a { C with S:=S' } hc rfl (hA.then hL (xOu hA.rel hw) (hA.fr.mono hL) hA.size (hA.marks.mono hL))
 cases code with
 | loop body =>
  intro b kk cs hb
  obtain ⟨e,a',w',hq,harr⟩:=k b kk cs hb
  exact ⟨e,a',w',PostC.from hL hq,harr⟩
 | _=>exact wpIn_mono k fun e a' w' hp=>PostC.from hL hp
theorem W.whileF {α:Type} {c:VCode} {Q:Res->Prop} (I:α->AFrame->St->Prop) (m:α->Nat) (h:∀a F S,I a F S->vc P g c F S (KRound (fun a F S=>∃ S',Wk S S'/\I a F S') m a Q)):∀a F S,I a F S->W P g (.code (.loop c) F S) Q:=by
 intro a
 induction hm:m a using Nat.strongRecOn generalizing a with
 | ind n ih =>
  intro F S hI
  refine W.loopR (xA1 (h a F S hI)) ?_ ?_
  ·rintro F1 S1 ⟨a',h1,S',hw,h2⟩
   exact W.wk hw (ih (m a') (by omega) a' rfl F1 S' h2)
  ·intro e F1 S1 he k
   cases e <;> first | exact absurd rfl he | exact k
def St.news (S:St):St:=⟨S.next,fun q=>(S.obj q).filter AObj.young⟩
@[simp] theorem xBS {S:St} {q:Nat}:S.news.obj q=(S.obj q).filter AObj.young:=_root_.id rfl
theorem Wk.news (S:St):Wk S S.news:=by
 refine ⟨rfl,fun q=>?_⟩
 rw [xBS]
 cases h:S.obj q with
 | none=>exact .inl rfl
 | some x =>
  by_cases hx:x.young=true
  ·exact .inr (.inl (by simp [Option.filter,hx]))
  ·exact .inl (by simp [Option.filter,hx])
def RP (y:AV) (v:AV) (S:St):Prop:=v.young=true/\∃ m,pict S.news [] m v=some y
theorem Ret.inP {f n rs c xs y} (h:Fun' P f n rs c) (hn:decide (xs.length<=n)=true) (hv:vc P g c (entry xs) St.empty (KBody rs (RP y))):Ret P g true f xs y:=by
 refine Ret.of h.call (Cal.less ((h.in (by simpa using hn) hv).mono ?_))
 rintro v S ⟨hy,m,hm⟩
 refine ⟨S.news,Wk.news S,⟨m,hm⟩,fun _=>⟨hy,?_⟩⟩
 intro o x ho
 rw [xBS,Option.filter_eq_some_iff] at ho
 exact ho.2
structure RetE (P:Program) (g:Glob) (b:Bool) (f:Nat) (xs:List AV) (Q:AV->Prop):Prop where
 call:callable P f=true
 con:ConOK P g f ⟨fun zs=>zs=xs,fun _ res E=>(∃ y,Q y/\∃ m,pict E [] m res=some y)/\(b=true->res.young=true/\youngo E)⟩
theorem RetE.use {b f args S K n xs Q} (h:RetE P g b f xs Q) (hx:mapOpt (pict S [] n) args=some xs) (hs:(b || solids args)=true) (hk:∀y,Q y->K y S):Cal P g f args S K:=by
 refine ⟨h.call,W.con h.con hx rfl ?_⟩
 rintro res E ⟨⟨y,hy,m,hm⟩,hb⟩
 refine ⟨?_,.inr ⟨m,y,hm,hk y hy⟩⟩
 cases hb':b
 ·simp [hb'] at hs;exact .inl hs
 ·exact .inr (hb hb')
theorem RetE.in {f n rs c xs Q} (h:Fun' P f n rs c) (hn:decide (xs.length<=n)=true) (hv:vc P g c (entry xs) St.empty (KBody rs (fun v S=>∃ y,Q y/\∃ m,pict S [] m v=some y))):RetE P g false f xs Q :=
 ⟨h.call,ConOK.of fun zs hz=>by subst hz;exact (h.in (by simpa using hn) hv).mono fun v S hk=>⟨hk,fun h=>by cases h⟩⟩
def RPE (Q:AV->Prop) (v:AV) (S:St):Prop:=v.young=true/\∃ y,Q y/\∃ m,pict S.news [] m v=some y
theorem RetE.inP {f n rs c xs Q} (h:Fun' P f n rs c) (hn:decide (xs.length<=n)=true) (hv:vc P g c (entry xs) St.empty (KBody rs (RPE Q))):RetE P g true f xs Q:=by
 refine ⟨h.call,ConOK.of fun zs hz=>?_⟩
 subst hz
 refine Cal.less ((h.in (by simpa using hn) hv).mono ?_)
 rintro v S ⟨hy,hq⟩
 refine ⟨S.news,Wk.news S,hq,fun _=>⟨hy,?_⟩⟩
 intro o x ho
 rw [xBS,Option.filter_eq_some_iff] at ho
 exact ho.2
theorem Ret.e {b f xs y} {Q:AV->Prop} (h:Ret P g b f xs y) (hq:Q y):RetE P g b f xs Q :=
 ⟨h.call,fun w av vs zs hG hvs hz=>Calls.mono (h.con w av vs zs hG hvs hz) fun e w' ⟨v,res,E,μ,h1,⟨h2,h3⟩,h4⟩=>⟨v,res,E,μ,h1,⟨⟨y,hq,h2⟩,h3⟩,h4⟩⟩
theorem RetE.mono {b f xs} {Q Q':AV->Prop} (h:RetE P g b f xs Q) (hq:∀y,Q y->Q' y):RetE P g b f xs Q' :=
 ⟨h.call,fun w av vs zs hG hvs hz=>Calls.mono (h.con w av vs zs hG hvs hz) fun e w' ⟨v,res,E,μ,h1,⟨⟨y,h2,h2'⟩,h3⟩,h4⟩=>⟨v,res,E,μ,h1,⟨⟨y,hq y h2,h2'⟩,h3⟩,h4⟩⟩
end
section
variable {α:Type} {e:α->List AV} {sz:Nat} {l:List α} {v:AV}
def Rw {α:Type} (e:α->List AV) (sz:Nat) (S:St) (v:AV) (l:List α):Prop:=(v=.nilsl/\l=[]) \/ ∃ o,v=.sl sz o 0 l.length/\o < S.next/\S.obj o=some (.row sz (els e l))
theorem Rw.len {S:St} (h:Rw e sz S v l):lenV v=some l.length:=by
 rcases h with ⟨rfl,rfl⟩ | ⟨o,rfl,_,_⟩ <;> simp
theorem Rw.elems {S:St} (h:Rw e sz S v l):Vm.elems S v=some (els e l):=by
 rcases h with ⟨rfl,rfl⟩ | ⟨o,rfl,_,ho⟩
 ·simp [Vm.elems,els]
 ·rw [xCN ho (by simp),List.drop_zero,List.take_of_length_le (by simp)]
end
def FrV (S:St) (o:Nat) (x y:AV):Prop:=y=x \/ ∃ sz off len es,x=.sl sz o off len/\S.obj o=some (.row sz es)/\off + len<=es.length/\y=.fsl sz ((es.drop off).take len)
def FrVs (S:St) (o:Nat):List AV->List AV->Prop
 | [],[]=>True
 | x :: xs,y :: ys=>FrV S o x y/\FrVs S o xs ys
 | _,_=>False
def FrVss (S:St) (o:Nat):List (List AV)->List (List AV)->Prop
 | [],[]=>True
 | x :: xs,y :: ys=>FrVs S o x y/\FrVss S o xs ys
 | _,_=>False
theorem FrVs.refl (S:St) (o:Nat):∀xs,FrVs S o xs xs
 | []=>trivial
 | x :: xs=>⟨.inl rfl,FrVs.refl S o xs⟩
theorem FrVss.refl (S:St) (o:Nat):∀xs,FrVss S o xs xs
 | []=>trivial
 | x :: xs=>⟨FrVs.refl S o x,FrVss.refl S o xs⟩
theorem FrVss.snoc {S:St} {o:Nat} {x y:List AV} (h:FrVs S o x y):∀xs,FrVss S o (xs ++ [x]) (xs ++ [y])
 | []=>⟨h,trivial⟩
 | z :: xs=>⟨FrVs.refl S o z,FrVss.snoc h xs⟩
theorem FrVs.len {S:St} {o:Nat}:∀{xs ys:List AV},FrVs S o xs ys->ys.length=xs.length
 | [],[],_=>rfl
 | [],_ :: _,h=>h.elim
 | _ :: _,[],h=>h.elim
 | _ :: _,_ :: _,h=>by simp [FrVs.len h.2]
theorem FrVs.app {S:St} {o:Nat}:∀{xs ys us vs:List AV},FrVs S o xs ys->FrVs S o us vs->FrVs S o (xs ++ us) (ys ++ vs)
 | [],[],_,_,_,h=>h
 | [],_ :: _,_,_,h,_=>h.elim
 | _ :: _,[],_,_,h,_=>h.elim
 | _ :: _,_ :: _,_,_,h,h'=>⟨h.1,FrVs.app h.2 h'⟩
theorem FrVss.flat {S:St} {o:Nat}:∀{xs ys:List (List AV)},FrVss S o xs ys->FrVs S o xs.flatten ys.flatten
 | [],[],_=>trivial
 | [],_ :: _,h=>h.elim
 | _ :: _,[],h=>h.elim
 | _ :: _,_ :: _,h=>FrVs.app h.1 (FrVss.flat h.2)
theorem FrVss.lens {S:St} {o sz:Nat}:∀{xs ys:List (List AV)},FrVss S o xs ys->(∀x ∈ xs,x.length=sz)->ys.length=xs.length/\∀y ∈ ys,y.length=sz
 | [],[],_,_=>⟨rfl,by simp⟩
 | [],_ :: _,h,_=>h.elim
 | _ :: _,[],h,_=>h.elim
 | x :: xs,y :: ys,h,hs=>by
  obtain ⟨h1,h2⟩:=FrVss.lens h.2 fun z hz=>hs z (by simp [hz])
  refine ⟨by simp [h1],fun z hz=>?_⟩
  rcases List.mem_cons.1 hz with rfl | hz
  ·rw [h.1.len];exact hs x (by simp)
  ·exact h2 z hz
structure Fzn (S S':St) (o:Nat):Prop where
 next:S'.next=S.next
 gone:S'.obj o=none
 solid:∀sz es,S.obj o=some (.row sz es)->∀z ∈ es.flatten,z.solid=true
 other:∀q,q ≠ o->S'.obj q=none \/ S'.obj q=S.obj q \/ ∃ sz es es',S.obj q=some (.row sz es)/\S'.obj q=some (.row sz es')/\FrVss S o es es'
theorem Fzn.get {S S':St} {o q:Nat} (h:Fzn S S' o) {x:AObj} (hx:S'.obj q=some x):q ≠ o/\∃ y,S.obj q=some y:=by
 have hq:q ≠ o:=fun e=>by rw [e,h.gone] at hx;cases hx
 refine ⟨hq,?_⟩
 rcases h.other q hq with h1 | h1 | ⟨sz,es,es',h1,h2,_⟩
 ·rw [h1] at hx;cases hx
 ·exact ⟨x,by rw [<- h1];exact hx⟩
 ·exact ⟨_,h1⟩
theorem Fzn.bad {C:Ctx} {S':St} {o:Nat} (h:Fzn C.S S' o) {b:Nat} (hb:Ctx.bad { C with S:=S' } b):C.bad b:=by
 rcases hb with hb | ⟨q,l,y,h1,h2,h3⟩
 ·exact .inl hb
 ·obtain ⟨_,z,hz⟩:=h.get h1
  exact .inr ⟨q,l,z,hz,h2,h3⟩
theorem xLM {C:Ctx} {S':St} {o:Nat} (h:Fzn C.S S' o):Le C { C with S:=S' } :=
 ⟨rfl,rfl,fun _ _ h=>h,Nat.le_refl _,fun b c e f h=>⟨c,f,h,rfl⟩,fun b _ hn=>⟨rfl,fun hb=>hn (h.bad hb)⟩,Below.refl _ _,fun b r h=>⟨r,h⟩⟩
theorem FrV.vr {C:Ctx} {S':St} {o:Nat} (hR:Rel C) (hF:Fzn C.S S' o) {v:Value} {x y:AV} (h:VR C v x) (hf:FrV C.S o x y):VR { C with S:=S' } v y:=by
 have hL:=xLM hF
 rcases hf with rfl | ⟨sz,off,len,es,rfl,ho,hle,rfl⟩
 ·exact VR.mono hL h
 ·cases h with
  | sl _ _ _ _ cap l c e f h hz hh hm hcap =>
   have hnb:¬ Ctx.bad { C with S:=S' } l.blk:=by
    rintro (⟨h1,_⟩ | ⟨q,l',y,h1,h2,h3⟩)
    ·have h1:l.blk < C.base:=h1
     have:=hR.low o _ l ho h
     omega
    ·obtain ⟨hq,z,hz'⟩:=hF.get h1
     exact hq (hR.inj q o l' l _ _ hz' ho h2 h h3)
   by_cases hlen:len=0
   ·subst hlen
    simp
    exact .fnil _ _ _
   ·have hlt:off < es.length:=by omega
    obtain ⟨l',c',ty,vs,k1,k2,k3,k4,k5,k6,k7,k8,_⟩:=xBy hR ho (xgG hlt)
    rw [h] at k1;cases k1
    have hrel:VRs C ((vs.drop (off * sz)).take (len * sz)) ((es.drop off).take len).flatten:=by
     rw [xBi _ (fun x hx=>k6 x (List.mem_of_mem_drop hx)),xBE _ k6]
     exact (k8.drop _).take _
    have hs:∀e ∈ (es.drop off).take len,e.length=sz:=fun x hx=>k6 x (List.mem_of_mem_drop (List.mem_of_mem_take hx))
    have hso:∀z ∈ ((es.drop off).take len).flatten,z.solid=true:=by
     intro z hz'
     obtain ⟨m,hm1,hm2⟩:=List.mem_flatten.1 hz'
     exact hF.solid sz es ho z (List.mem_flatten.2 ⟨m,List.mem_of_mem_drop (List.mem_of_mem_take hm1),hm2⟩)
    have hc:Cells C.w l.blk (l.off + off * sz) ((vs.drop (off * sz)).take (len * sz)):=by
     have:Cells C.w l.blk l.off vs:=by
      intro j v hj
      rw [cell_of_row C.w l.blk _ c' ty (0,0) k4]
      exact k7 j v hj
     exact (this.drop _).take _
    have hlen':((es.drop off).take len).length=len:=by simp;omega
    have:=VR.fsl (C:={ C with S:=S' }) l.blk (l.off + off * sz) cap sz _ ((es.drop off).take len) hc hs (VRs.mono hL hrel) hso hnb (Array.getElem?_eq_some_iff.1 k4).1 (by omega)
    rwa [hlen'] at this
  | slnil a _ _ _=>simp;exact .fnil _ _ _
theorem FrVs.vrs {C:Ctx} {S':St} {o:Nat} (hR:Rel C) (hF:Fzn C.S S' o):∀{vs:List Value} {xs ys:List AV},VRs C vs xs->FrVs C.S o xs ys->VRs { C with S:=S' } vs ys
 | _,_,[],.nil,_=>.nil
 | _,_,_ :: _,.nil,h=>h.elim
 | _,_,[],.cons _ _ _ _ _ _,h=>h.elim
 | _,_,_ :: _,.cons v x vs xs hv hs,h=>.cons _ _ _ _ (FrV.vr hR hF hv h.1) (FrVs.vrs hR hF hs h.2)
theorem xOv {C:Ctx} {S':St} {o:Nat} (h:Rel C) (hF:Fzn C.S S' o):Rel { C with S:=S' } where
 obj q x hq:=by
  obtain ⟨hne,_⟩:=hF.get hq
  rcases hF.other q hne with h1 | h1 | ⟨sz,es,es',h1,h2,h3⟩
  ·rw [h1] at hq;cases hq
  ·exact (h.obj q x (by rw [<- h1];exact hq)).mono (xLM hF) (fun h=>h) (fun _ _=>rfl)
  ·rw [h2] at hq;cases hq
   have:=h.obj q _ h1
   rcases this with ⟨rfl,hn⟩ | ⟨l,c,e,vs,h4,h5,h6,h7,h8,h9,h10,h11⟩
   ·have:es'=[]:=by
     cases es' with
     | nil=>rfl
     | cons _ _=>exact h3.elim
    exact .inl ⟨this,hn⟩
   ·obtain ⟨a1,a2⟩:=h3.lens h9
    exact .inr ⟨l,c,e,vs,h4,h5,h6,h7,by rw [a1];exact h8,a2,h10,FrVs.vrs h hF h11 h3.flat⟩
 inj q q' l l' x x' hq hq':=by
  obtain ⟨_,y,hy⟩:=hF.get hq
  obtain ⟨_,y',hy'⟩:=hF.get hq'
  exact h.inj q q' l l' y y' hy hy'
 lt q x hq:=by
  obtain ⟨_,y,hy⟩:=hF.get hq
  have:=h.lt q y hy
  show q < S'.next
  rw [hF.next];exact this
 fresh q l hq:=by
  show q < S'.next
  rw [hF.next];exact h.fresh q l hq
 low q x l hq:=by
  obtain ⟨_,y,hy⟩:=hF.get hq
  exact h.low q y l hy
 basele:=h.basele
section
variable {P:Program} {g:Glob}
theorem Cal.freeze {f args S K} (h:Cal P g f args S fun v S1=>K v S1 \/ ∃ o v2 S2,FrV S1 o v v2/\Fzn S1 S2 o/\K v2 S2):Cal P g f args S K:=by
 refine ⟨h.1,?_⟩
 intro vs C hS hR hvs hN hG
 refine Calls.mono (h.2 vs C hS hR hvs hN hG) ?_
 rintro e w' ⟨v,av,C',rfl,hq,h1,h2,h3,h4⟩
 have hq:K av C'.S \/ ∃ o v2 S2,FrV C'.S o av v2/\Fzn C'.S S2 o/\K v2 S2:=hq
 rcases hq with hk | ⟨o,v2,S2,hv,hF,hk⟩
 ·exact ⟨v,av,C',rfl,hk,h1,h2,h3,h4⟩
 ·exact ⟨v,v2,{ C' with S:=S2 },rfl,hk,h1,h2.trans (xLM hF),xOv h3 hF,FrV.vr h3 hF h4 hv⟩
theorem Fun'.inW {f n rs c args S K} (h:Fun' P f n rs c) (hn:args.length<=n) (hv:W P g (.code c (entry args) S) (KBody rs K)):Cal P g f args S K:=by
 refine ⟨h.call,?_⟩
 have hc:=h.code
 cases hf:P.funcs[f]? with
 | none=>rw [hf] at hc;cases hc
 | some fn =>
  rw [hf] at hc
  refine W.inl hf hc hn (W.mono hv ?_)
  intro r hr
  cases r with
  | val v S=>exact hr.elim
  | code e F S =>
   cases e with
   | exit id=>exact hr.elim
   | normal=>exact hr.out
   | ret=>exact hr.out
def onlyR (R:AFrame->St->Prop):Res->Prop
 | .code .normal F S=>R F S
 | _=>False
@[simp] theorem xR1 {R F S}:onlyR R (.code .normal F S)=R F S:=_root_.id rfl
theorem W.split {a b F S} {Q:Res->Prop} (R:AFrame->St->Prop) (h1:vc P g a F S (onlyR R)) (h2:∀F S,R F S->vc P g b F S Q):W P g (.code (.seq a b) F S) Q :=
 W.seqR (R:=onlyR R) (xA1 h1) (fun F1 S1 h=>xA1 (h2 F1 S1 h)) (fun e F1 S1 he h=>by cases e <;> first | exact absurd rfl he | exact h.elim)
end
def fO (P:Program) (f:Nat):VFunc:=((P.funcs[f]?).bind (compFunc P)).getD ⟨0,[],.bad⟩
def okF (P:Program) (f k:Nat):Bool:=callable P f && ((P.funcs[f]?).bind (compFunc P)).isSome && decide (k<=(fO P f).ntmps)
section
variable {P:Program} {g:Glob} {f k:Nat}
theorem cF (h:okF P f k=true):Fun' P f (fO P f).ntmps (fO P f).results (fO P f).code:=by
 unfold okF fO at *
 simp only [Bool.and_eq_true] at h
 refine ⟨h.1.1,?_⟩
 cases e:(P.funcs[f]?).bind (compFunc P) with
 | none=>rw [e] at h;exact absurd h.1.2 (by simp)
 | some v=>rfl
theorem cF0 (h:okF P f 0=true):Fun' P f (fO P f).ntmps (fO P f).results (fO P f).code:=cF h
theorem nF (h:okF P f k=true):decide (k<=(fO P f).ntmps)=true:=by
 unfold okF at h
 simp only [Bool.and_eq_true] at h
 exact h.2
def vcF (P:Program) (g:Glob) (v:VFunc) (xs:List AV) (S:St) (K:AV->St->Prop):Prop:=vc P g v.code (entry xs) S (KBody v.results K)
@[simp] theorem xYG {n rs c xs S K}:vcF P g ⟨n,rs,c⟩ xs S K=vc P g c (entry xs) S (KBody rs K):=_root_.id rfl
theorem vO {xs S K} (h:vcF P g (fO P f) xs S K):vc P g (fO P f).code (entry xs) S (KBody (fO P f).results K):=h
theorem Ret.inF {xs y} (h:okF P f xs.length=true) (hv:vcF P g (fO P f) xs St.empty (RK y)):Ret P g false f xs y:=Ret.in (cF h) (nF h) hv
theorem Cal.inF {args S K} (h:okF P f args.length=true) (hv:vcF P g (fO P f) args S K):Cal P g f args S K:=(cF h).in (of_decide_eq_true (nF h)) hv
end
def mrow (P:Program) (t:TypeId) (name:String):Option (Nat × Option (FuncId × Bool)):=(P.info? t).bind fun i=>(i.methods.find? (·.name == name)).map fun m=>(m.path.size,m.func)
def ptrTo (P:Program) (t:TypeId):Option TypeId:=match P.underlying t with
 | some (.pointer e)=>some e
 | _=>none
section
variable {P:Program} {g:Glob}
theorem xGg {t:TypeId} {name:String} {r:Option (FuncId × Bool)} (h:mrow P t name=some (0,r)):∃ i m,P.info? t=some i/\i.methods.find? (·.name == name)=some m/\m.path=#[]/\m.func=r:=by
 unfold mrow at h
 cases hi:P.info? t with
 | none=>simp [hi] at h
 | some i =>
  simp only [hi,Option.bind_some,Option.map_eq_some_iff] at h
  obtain ⟨m,h1,h2⟩:=h
  simp only [Prod.mk.injEq] at h2
  exact ⟨i,m,rfl,h1,Array.eq_empty_of_size_eq_zero h2.1,h2.2⟩
theorem xHs {t e:TypeId} (h:ptrTo P t=some e):P.underlying t=some (.pointer e):=by
 unfold ptrTo at h
 split at h
 ·rename_i e' he;cases h;exact he
 ·cases h
theorem xMN {t e:TypeId} {name:String} {f:FuncId} (h:mrow P t name=some (0,some (f,true))) (hp:ptrTo P t=some e) (a:Addr) (w:World):(method (P.types.size + Made.depth) t (.pointer (some a)) name).run P w=.ok (f,.pointer (some a)) w:=by
 obtain ⟨i,m,h1,h2,h3,h4⟩:=xGg h
 rw [show P.types.size + Made.depth=(P.types.size + 99) + 1 from rfl]
 generalize P.types.size + 99=k
 unfold method
 simp [xAW h1,h2,h3,h4,follow,receiverAt,xAb (xHs hp),Place.get]
theorem xMO {t e:TypeId} {name:String} {f:FuncId} (h:mrow P t name=some (0,some (f,false))) (hp:ptrTo P t=some e) (a:Addr) (w:World):(method (P.types.size + Made.depth) t (.pointer (some a)) name).run P w=((loadVar e a).run P w).andThen fun v w=>.ok (f,v) w:=by
 obtain ⟨i,m,h1,h2,h3,h4⟩:=xGg h
 rw [show P.types.size + Made.depth=(P.types.size + 99) + 1 from rfl]
 generalize P.types.size + 99=k
 unfold method
 simp [xAW h1,h2,h3,h4,follow,receiverAt,xAb (xHs hp),Place.get]
 have hw:∀b1 b2:ByteArray,(Builtin.ssaWrapNilChk_ #[t] t #[.pointer (some a),.string b1,.string b2]).run P w=.ok (.pointer (some a)) w:=fun _ _=>rfl
 rw [show strVal "" = Value.string "".toUTF8 from rfl, show strVal ((name.splitOn ".").getLast?.getD name) = Value.string ((name.splitOn ".").getLast?.getD name).toUTF8 from rfl, hw]
 have ha:(asAddr (.pointer (some a))).run P w=.ok a w:=rfl
 simp [ha]
theorem CalI.p {t e:TypeId} {name:String} {f p i q:Nat} {xs:List AV} {S:St} {K:AV->St->Prop} (h:mrow P t name=some (0,some (f,true))) (hp:ptrTo P t=some e) (hk:Cal P g f (.ptr p i q :: xs) S K):CalI P g (.iface t (.ptr p i q)) name xs S K :=
 .inl ⟨f,xMN h hp,hk⟩
theorem CalI.v {t e:TypeId} {name:String} {f p i q sz:Nat} {gg:Bool} {y:AV} {xs:List AV} {S:St} {K:AV->St->Prop} (h:mrow P t name=some (0,some (f,false))) (hp:ptrTo P t=some e) (hs:sizeT P e=some sz) (hg:aggT P e=some gg) (hl:sk (.load gg sz) [.ptr p i q] S=some (y,S)) (hk:Cal P g f (y :: xs) S K):CalI P g (.iface t (.ptr p i q)) name xs S K :=
 .inr ⟨f,e,sz,gg,y,hs,hg,xMO h hp,hl,hk⟩
theorem xMP {t:TypeId} {name:String} {f:FuncId} {fs:Array Field} (h:mrow P t name=some (0,some (f,false))) (hu:P.underlying t=some (.struct fs)) (v:Value) (w:World):(method (P.types.size + Made.depth) t v name).run P w=.ok (f,v) w:=by
 obtain ⟨i,m,h1,h2,h3,h4⟩:=xGg h
 rw [show P.types.size + Made.depth=(P.types.size + 99) + 1 from rfl]
 generalize P.types.size + 99=k
 unfold method
 simp [xAW h1,h2,h3,h4,follow,receiverAt,xAb hu,Place.get]
theorem CalI.a {t:TypeId} {name:String} {f:Nat} {cs xs:List AV} {S:St} {K:AV->St->Prop} {fs:Array Field} (h:mrow P t name=some (0,some (f,false))) (hu:P.underlying t=some (.struct fs)) (hk:Cal P g f (.agg cs :: xs) S K):CalI P g (.iface t (.agg cs)) name xs S K :=
 ⟨f,xMP h hu,hk⟩
end
section
variable {P:Program} {g:Glob}
theorem Ok.mono {α:Type} {o:Option α} {K K':α->Prop} (h:Ok o K) (hk:∀x,K x->K' x):Ok o K':=by
 cases o with
 | none=>exact h
 | some x=>exact hk x h
theorem xOw {K K':AV->St->Prop} (hk:∀v S,K v S->K' v S) {q n ps LF asg body cb}:∀r,asgQ P g K q n ps LF asg body cb r->asgQ P g K' q n ps LF asg body cb r:=by
 have hr:∀r,roundQ K q n ps LF asg body r->roundQ K' q n ps LF asg body r:=by
  intro r h
  unfold roundQ at h ⊢
  split at h
  all_goals first
   | exact h
   | exact ⟨h.1,hk _ _ h.2⟩
   | (obtain ⟨F',h1,h2⟩:=h;exact ⟨F',h1,hk _ _ h2⟩)
 intro r h
 cases r with
 | val v S=>exact h
 | code e F S =>
  cases e with
  | normal=>exact ⟨h.1,W.mono h.2 hr⟩
  | exit id=>exact h
  | ret=>exact h
theorem CalV.mono {v xs S} {K K':AV->St->Prop} (hk:∀v S,K v S->K' v S) (h:CalV P g v xs S K):CalV P g v xs S K':=by
 unfold CalV at h ⊢
 split at h
 ·exact Cal.mono h hk
 ·obtain ⟨n,ps,LF,asg,body,ca,cb,h1,h2,h3,h4,h5,h6⟩:=h
  exact ⟨n,ps,LF,asg,body,ca,cb,h1,h2,h3,h4,h5,W.mono h6 (xOw hk)⟩
 ·exact h
theorem CalI.mono {v name xs S} {K K':AV->St->Prop} (hk:∀v S,K v S->K' v S) (h:CalI P g v name xs S K):CalI P g v name xs S K':=by
 unfold CalI at h ⊢
 split at h
 ·rcases h with ⟨f,h1,h2⟩ | ⟨f,te,sz,gg,y,h1,h2,h3,h4,h5⟩
  ·exact .inl ⟨f,h1,Cal.mono h2 hk⟩
  ·exact .inr ⟨f,te,sz,gg,y,h1,h2,h3,h4,Cal.mono h5 hk⟩
 ·obtain ⟨f,h1,h2⟩:=h
  exact ⟨f,h1,Cal.mono h2 hk⟩
 ·exact h
theorem xKL {o F S} {K K':AV->St->Prop} (hk:∀v S,K v S->K' v S) (h:stepOp P g o F S K):stepOp P g o F S K':=by
 unfold stepOp at h ⊢
 split at h
 ·exact hk _ _ h
 ·split at h
  ·exact h.mono fun v=>hk v S
  ·exact h.mono fun r=>hk r.1 r.2
  ·exact Cal.mono h hk
  ·exact CalV.mono hk h
  ·exact CalI.mono hk h
  ·exact h.mono fun m hm=>⟨hk _ _ hm.1,fun h0=>hk _ _ (hm.2 h0)⟩
  ·exact h
theorem xHt {Q Q':Res->Prop} (hq:∀r,Q r->Q' r):∀{l F S},vcOps P g l F S Q->vcOps P g l F S Q'
 | [],F,S,h=>hq _ h
 | o :: l,F,S,h=>xKL (fun v S'=>xHt hq) h
theorem xCO:∀{c F S} {Q Q':Res->Prop},(∀r,Q r->Q' r)->vc P g c F S Q->vc P g c F S Q'
 | .skip,F,S,Q,Q',hq,h=>hq _ h
 | .label,F,S,Q,Q',hq,h=>hq _ h
 | .exit id,F,S,Q,Q',hq,h=>hq _ h
 | .ret,F,S,Q,Q',hq,h=>hq _ h
 | .region false l af,F,S,Q,Q',hq,h=>xHt hq h
 | .region true l af,F,S,Q,Q',hq,h=>W.mono h hq
 | .seq a b,F,S,Q,Q',hq,h=>xCO (c:=a) (fun r hr=>by
   cases r with
   | val v S=>exact hq _ hr
   | code e F S =>
    cases e with
    | normal=>exact xCO (c:=b) hq hr
    | exit id=>exact hq _ hr
    | ret=>exact hq _ hr) h
 | .cond x a b,F,S,Q,Q',hq,h=>by
  unfold vc at h ⊢
  split at h
  ·exact xCO (c:=a) hq h
  ·exact xCO (c:=b) hq h
  ·exact h
 | .block id c,F,S,Q,Q',hq,h=>xCO (c:=c) (fun r hr=>by
   cases r with
   | val v S=>exact hq _ hr
   | code e F S =>
    cases e with
    | normal=>exact hq _ hr
    | exit i =>
     have hr':if i=id then Q (.code .normal F S) else Q (.code (.exit i) F S):=hr
     show if i=id then Q' (.code .normal F S) else Q' (.code (.exit i) F S)
     by_cases hi:i=id
     ·rw [if_pos hi] at hr' ⊢;exact hq _ hr'
     ·rw [if_neg hi] at hr' ⊢;exact hq _ hr'
    | ret=>exact hq _ hr) h
 | .loop c,F,S,Q,Q',hq,h=>W.mono h hq
 | .rangeFunc n x ps a b,F,S,Q,Q',hq,h=>W.mono h hq
 | .scope c,F,S,Q,Q',hq,h=>xCO (c:=c) hq h
 | .bad,F,S,Q,Q',hq,h=>h
theorem Bra.cut {v a b F S} {Q:Res->Prop} (R:AFrame->St->Prop) (h:Bra P g v a b F S (onlyR R)) (hR:∀F S,R F S->Q (.code .normal F S)):Bra P g v a b F S Q:=by
 have hq:∀r,onlyR R r->Q r:=fun r hr=>by
  cases r with
  | val v S=>exact hr.elim
  | code e F S=>cases e <;> first | exact hR F S hr | exact hr.elim
 unfold Bra at h ⊢
 split at h
 ·exact xCO hq h
 ·exact xCO hq h
 ·exact h
end
end Go.Proofs.YtnhfofmhkfdpgaaGreatDoor.Vm
namespace Go.Proofs.YtnhfofmhkfdpgaaGreatDoor.Vm
set_option maxRecDepth 100000
open Go Go.RowKit
variable {g:Glob}
def wrap32 (n:Int):Int:=IntKind.i32.wrap n
theorem xBJ (n:Int):-2147483648<=wrap32 n/\wrap32 n<=2147483647:=by
 unfold wrap32;rw [IntKind.wrap_i32];omega
theorem xOx (n:Int):Ret P g false 245 [.int .i64 n] (.int .i64 (wrap32 n)):=by
 refine Ret.inF (by kernel_rfl) ?_
 have:=xBJ n
 have e:IntKind.i64.wrap (IntKind.i32.wrap n)=wrap32 n:=xAa (by unfold wrap32 at this;omega)
 conv=>arg 3;reduce
 simp [e]
 exact RK.stab rfl
structure Val where
 k:Int
 c:Int
 deriving DecidableEq
@[simp] def encV (v:Val):AV:=.agg [.int .i64 v.k,.int .i64 v.c]
theorem xIb (n:Int):Ret P g false 203 [.int .i64 n] (encV ⟨1,wrap32 n⟩):=by
 refine Ret.inF (by kernel_rfl) ?_
 conv=>arg 3;reduce
 simp
 refine (xOx n).use (n:=1) ?_ rfl ?_ <;> simp
 exact RK.agg (by simp [AV.stab])
def Val.ok (v:Val):Bool:=if v.k=1 then decide (-2147483648<=v.c/\v.c<=2147483647) else if v.k=0 \/ v.k=2 then decide (v.c=0) else false
theorem xOy (v:Val):Ret P g false 243 [encV v] (.bool v.ok):=by
 refine Ret.inF (by kernel_rfl) ?_
 conv=>arg 3;reduce
 simp
 refine xAj (fun h1=>?_) (fun h1=>?_) <;> simp [h1]
 ·refine xCM (fun h2=>?_) (fun h2=>?_) <;> simp [h2] <;> exact RK.eq (by simp [Val.ok,h1,h2]) rfl
 ·refine xAj (fun h2=>?_) (fun h2=>?_) <;> simp [h2]
  ·exact RK.eq (by simp [Val.ok,h1,h2]) rfl
  ·refine xAj (fun h3=>?_) (fun h3=>?_) <;> simp [h3]
   ·exact RK.eq (by simp [Val.ok,h1,h2,h3]) rfl
   ·exact RK.eq (by simp [Val.ok,h1,h2,h3]) rfl
def Val.sane (v:Val):Val:=if v.ok then v else ⟨2,0⟩
theorem xC8 (v:Val):Ret P g false 201 [encV v] (encV v.sane):=by
 refine Ret.inF (by kernel_rfl) ?_
 conv=>arg 3;reduce
 simp
 refine (xOy v).use (n:=2) ?_ rfl ?_ <;> simp
 refine xOm (fun h1=>?_) (fun h1=>?_) <;> simp [h1]
 ·exact RK.aggEq (by simp [Val.sane,h1]) rfl
 ·exact RK.aggEq (by simp [Val.sane,h1]) rfl
theorem Val.beq_eq (x y:Val):(x.k == y.k && x.c == y.c)=decide (x=y):=by
 cases x;cases y
 rw [Bool.eq_iff_iff];simp
def Val.join (a b:Val):Val:=if a.sane.k=0 \/ a.sane=b.sane then b.sane else if b.sane.k=0 then a.sane else ⟨2,0⟩
theorem xGh (a b:Val):Ret P g false 140 [encV a,encV b] (encV (a.join b)):=by
 refine Ret.in c140 (by simp) ?_
 simp [k140]
 refine Dra.auto [] mix ?_ ?_
 ·kernel_rfl
 simp [classes]
 refine (xC8 a).b (n:=2) ?_ rfl ?_ <;> simp
 refine (xC8 b).b (n:=2) ?_ rfl ?_ <;> simp
 refine xAP (fun h1=>?_) (fun h1=>?_) <;> simp [h1,Val.beq_eq]
 ·refine xAj (fun h2=>?_) (fun h2=>?_) <;> simp [h2]
  ·exact RK.aggEq (by simp [Val.join,h2]) rfl
  ·refine xAj (fun h4=>?_) (fun h4=>?_) <;> simp [h4]
   ·exact RK.aggEq (by simp [Val.join,h1,h2,h4]) rfl
   ·exact RK.aggEq (by simp [Val.join,h1,h2,h4]) rfl
 ·exact RK.aggEq (by simp [Val.join,h1]) rfl
def Val.leq (a b:Val):Bool:=decide (a.join b=b.sane)
def Val.each (op:Int->Int->Int) (a b:Val):Val:=if a.sane.k=0 \/ b.sane.k=0 then ⟨0,0⟩ else if a.sane.k=2 \/ b.sane.k=2 then ⟨2,0⟩ else ⟨1,wrap32 (op a.sane.c b.sane.c)⟩
theorem xGi (f:Nat) (op:Int->Int->Int) (hf:∀x y,Ret P g false f [.int .i64 x,.int .i64 y] (.int .i64 (op x y))) (a b:Val):Ret P g false 246 [encV a,encV b,.func (.func f) [] []] (encV (a.each op b)):=by
 refine Ret.inF (by kernel_rfl) ?_
 conv=>arg 3;reduce
 simp
 refine Dra.auto [] mix ?_ ?_
 ·kernel_rfl
 simp [classes]
 refine (xC8 a).b (n:=2) ?_ rfl ?_ <;> simp
 refine (xC8 b).b (n:=2) ?_ rfl ?_ <;> simp
 have main:a.sane.k=0 \/ b.sane.k=0 \/ (¬ a.sane.k=0/\¬ b.sane.k=0):=by omega
 rcases main with h | h | ⟨h1,h2⟩
 ·simp [h]
  exact RK.aggEq (by simp [Val.each,h]) rfl
 ·simp [h]
  refine xAP (fun h1=>?_) (fun h1=>?_) <;> simp [h,h1] <;> exact RK.aggEq (by simp [Val.each,h]) rfl
 ·simp [h1,h2]
  refine xAP (fun h3=>?_) (fun h3=>?_) <;> simp [h1,h2,h3]
  ·refine xAj (fun h4=>?_) (fun h4=>?_) <;> simp [h1,h2,h3,h4]
   ·exact RK.aggEq (by simp [Val.each,h1,h2,h3,h4]) rfl
   ·refine (hf a.sane.c b.sane.c).use (n:=2) ?_ rfl ?_ <;> simp
    refine (xIb (op a.sane.c b.sane.c)).use (n:=2) ?_ rfl ?_ <;> simp
    exact RK.aggEq (by simp [Val.each,h1,h2,h3,h4]) rfl
  ·exact RK.aggEq (by simp [Val.each,h1,h2,h3]) rfl
def i64add (x y:Int):Int:=IntKind.i64.wrap (x + y)
def i64sub (x y:Int):Int:=IntKind.i64.wrap (x - y)
def i64mul (x y:Int):Int:=IntKind.i64.wrap (x * y)
theorem xOz (x y:Int):Ret P g false 247 [.int .i64 x,.int .i64 y] (.int .i64 (i64add x y)):=by
 refine Ret.inF (by kernel_rfl) ?_
 conv=>arg 3;reduce
 simp
 exact RK.stab rfl
theorem xOA (x y:Int):Ret P g false 248 [.int .i64 x,.int .i64 y] (.int .i64 (i64sub x y)):=by
 refine Ret.inF (by kernel_rfl) ?_
 conv=>arg 3;reduce
 simp
 exact RK.stab rfl
theorem xOB (x y:Int):Ret P g false 249 [.int .i64 x,.int .i64 y] (.int .i64 (i64mul x y)):=by
 refine Ret.inF (by kernel_rfl) ?_
 conv=>arg 3;reduce
 simp
 exact RK.stab rfl
theorem xQL (a b:Val):Ret P g false 205 [encV a,encV b] (encV (a.each i64add b)):=by
 refine Ret.inF (by kernel_rfl) ?_
 conv=>arg 3;reduce
 simp
 refine (xGi _ _ xOz a b).use (n:=2) ?_ rfl ?_ <;> simp [xB5]
 exact RK.aggEq rfl rfl
theorem xLN (a b:Val):Ret P g false 206 [encV a,encV b] (encV (a.each i64sub b)):=by
 refine Ret.inF (by kernel_rfl) ?_
 conv=>arg 3;reduce
 simp
 refine (xGi _ _ xOA a b).use (n:=2) ?_ rfl ?_ <;> simp [xB5]
 exact RK.aggEq rfl rfl
theorem xQM (a b:Val):Ret P g false 207 [encV a,encV b] (encV (a.each i64mul b)):=by
 refine Ret.inF (by kernel_rfl) ?_
 conv=>arg 3;reduce
 simp
 refine (xGi _ _ xOB a b).use (n:=2) ?_ rfl ?_ <;> simp [xB5]
 exact RK.aggEq rfl rfl
theorem xQN (a:Val):Ret P g false 204 [encV a] (encV (Val.each i64sub ⟨1,wrap32 0⟩ a)):=by
 refine Ret.inF (by kernel_rfl) ?_
 conv=>arg 3;reduce
 simp
 refine Dra.auto [] mix ?_ ?_
 ·kernel_rfl
 simp [classes]
 refine (xIb 0).b (n:=2) ?_ rfl ?_ <;> simp
 refine (xLN ⟨1,wrap32 0⟩ a).b (n:=2) ?_ rfl ?_ <;> simp
 exact RK.aggEq rfl rfl
end Go.Proofs.YtnhfofmhkfdpgaaGreatDoor.Vm
namespace Go.Proofs.YtnhfofmhkfdpgaaGreatDoor.Vm
open Go Go.RowKit
variable {g:Glob}
structure BSet where
 n:Nat
 ws:List Nat
 deriving DecidableEq
def nw (n:Nat):Nat:=(n + 63) / 64
@[simp] def encB (s:BSet):AV:=.agg [.int .i64 (s.n:Int),.fsl 1 (els u64c s.ws)]
def BSet.new (n:Nat):BSet:=⟨n,List.replicate (nw n) 0⟩
structure BSet.OK (s:BSet):Prop where
 n:s.n<=1024
 len:s.ws.length=nw s.n
 lt:∀w ∈ s.ws,w < 2 ^ 64
 top:s.n % 64=0 \/ ∀w,s.ws.getLast?=some w->w < 2 ^ (s.n % 64)
theorem u64shift (w k:Nat) (hw:w < 2 ^ 64) (hk:k < 64):ishift .shr .u64 (w:Int) (k:Int)=some (.int .u64 ((w >>> k:Nat):Int)):=by
 simp only [ishift]
 rw [if_neg (by omega)]
 have e0:IntKind.u64.bits=64:=rfl
 have e1:min (k:Int).toNat IntKind.u64.bits=k:=by rw [e0];omega
 rw [e1]
 congr 2
 rw [Nat.shiftRight_eq_div_pow]
 have:(2:Int) ^ k=((2 ^ k:Nat):Int):=by simp
 rw [this,Int.fdiv_eq_ediv_of_nonneg _ (Int.natCast_nonneg _)]
 simp
theorem xB6 {n:Int} (h:0<=n/\n < 18446744073709551616):IntKind.u64.wrap n=n:=by
 rw [IntKind.wrap_u64];omega
def padW (k:Nat) (ws:List Nat):List Nat:=ws.take k ++ List.replicate (k - ws.length) 0
theorem xLO (k:Nat) (ws:List Nat):(padW k ws).length=k:=by simp [padW];omega
def BSet.isB (s:BSet) (i:Int):Bool:=decide (0<=i) && decide (i < s.n)
def wIx (i:Nat):Nat:=i / 64
def wBit (i:Nat):Nat:=2 ^ (i % 64)
theorem xSF (i:Nat):wBit i < 2 ^ 64:=Nat.pow_lt_pow_right (by omega) (by omega)
def BSet.mem (s:BSet) (i:Nat):Bool:=(s.ws.getD (wIx i) 0).testBit (i % 64)
theorem u64and (a b:Nat) (ha:a < 2 ^ 64) (hb:b < 2 ^ 64):iand .u64 (a:Int) (b:Int)=((a &&& b:Nat):Int):=by
 have e0:IntKind.u64.bits=64:=rfl
 have h:a &&& b < 2 ^ 64:=Nat.lt_of_le_of_lt Nat.and_le_left ha
 rw [iand,e0,BitVec.ofInt_natCast,BitVec.ofInt_natCast,BitVec.toNat_and,BitVec.toNat_ofNat,BitVec.toNat_ofNat,Nat.mod_eq_of_lt ha,Nat.mod_eq_of_lt hb]
 rw [xB6 (by omega)]
def andn (a b:Nat):Nat:=(BitVec.ofNat 64 a &&& ~~~ BitVec.ofNat 64 b).toNat
theorem xKM (a b:Nat):andn a b < 2 ^ 64:=BitVec.isLt _
theorem xIc (a b i:Nat) (ha:a < 2 ^ 64):(andn a b).testBit i=(a.testBit i && !b.testBit i):=by
 simp only [andn,BitVec.toNat_and,Nat.testBit_and,BitVec.toNat_ofNat,Nat.mod_eq_of_lt ha]
 by_cases hi:i < 64
 ·rw [<- BitVec.getLsbD,BitVec.getLsbD_not,BitVec.getLsbD_ofNat]
  simp [hi]
 ·have:a.testBit i=false:=Nat.testBit_lt_two_pow (Nat.lt_of_lt_of_le ha (Nat.pow_le_pow_right (by omega) (by omega)))
  simp [this]
theorem xFI (i j:Nat):(wBit i).testBit j=decide (i % 64=j):=by rw [wBit,Nat.testBit_two_pow]
def BSet.at (s:BSet) (i:Nat) (f:Nat->Nat):BSet:=⟨s.n,s.ws.set (wIx i) (f (s.ws.getD (wIx i) 0))⟩
def BSet.with (s:BSet) (i:Int):BSet:=if s.isB i then s.at i.toNat (fun w=>w ||| wBit i.toNat) else s
def BSet.without (s:BSet) (i:Int):BSet:=if s.isB i then s.at i.toNat (fun w=>andn w (wBit i.toNat)) else s
def mergeW (f:Nat->Nat->Nat):Nat->List Nat->List Nat->List Nat
 | 0,xs,_=>xs
 | k + 1,x :: xs,y :: ys=>f x y :: mergeW f k xs ys
 | _ + 1,xs,_=>xs
theorem xEL (f:Nat->Nat->Nat):∀(k:Nat) (xs ys:List Nat),(mergeW f k xs ys).length=xs.length
 | 0,_,_=>rfl
 | k + 1,[],ys=>by cases ys <;> rfl
 | k + 1,x :: xs,[]=>rfl
 | k + 1,x :: xs,y :: ys=>by simp [mergeW,xEL f k xs ys]
def BSet.merge (f:Nat->Nat->Nat) (a b:BSet):BSet:=⟨max a.n b.n,mergeW f (nw (max a.n b.n)) (padW (nw (max a.n b.n)) a.ws) (padW (nw (max a.n b.n)) b.ws)⟩
theorem xOC {k:Nat} {ws:List Nat} (h:∀w ∈ ws,w < 2 ^ 64):∀w ∈ padW k ws,w < 2 ^ 64:=by
 intro w hw
 simp only [padW,List.mem_append,List.mem_replicate] at hw
 rcases hw with hw | ⟨_,rfl⟩
 ·exact h w (List.mem_of_mem_take hw)
 ·omega
def BSet.ofL (n:Nat) (l:List Int):BSet:=l.foldl BSet.with (BSet.new n)
theorem BSet.with_n (s:BSet) (i:Int):(s.with i).n=s.n:=by unfold BSet.with;split <;> rfl
theorem BSet.with_len (s:BSet) (i:Int):(s.with i).ws.length=s.ws.length:=by unfold BSet.with;split <;> simp [BSet.at]
theorem BSet.with_lt {s:BSet} {i:Int} (h:∀w ∈ s.ws,w < 2 ^ 64):∀w ∈ (s.with i).ws,w < 2 ^ 64:=by
 unfold BSet.with
 split
 ·intro w hw
  simp only [BSet.at] at hw
  rcases List.mem_or_eq_of_mem_set hw with hw | rfl
  ·exact h w hw
  ·refine Nat.or_lt_two_pow ?_ (xSF _)
   rw [List.getD_eq_getElem?_getD]
   cases e:s.ws[wIx i.toNat]? with
   | none=>simp
   | some w=>simpa using h w (xmG e)
 ·exact h
theorem BSet.fold_n (l:List Int):∀s:BSet,(l.foldl BSet.with s).n=s.n/\(l.foldl BSet.with s).ws.length=s.ws.length/\((∀w ∈ s.ws,w < 2 ^ 64)->∀w ∈ (l.foldl BSet.with s).ws,w < 2 ^ 64):=by
 induction l with
 | nil=>intro s;exact ⟨rfl,rfl,fun h=>h⟩
 | cons x l ih =>
  intro s
  obtain ⟨h1,h2,h3⟩:=ih (s.with x)
  exact ⟨h1.trans (s.with_n x),h2.trans (s.with_len x),fun h=>h3 (BSet.with_lt h)⟩
theorem xAi {α β:Type} (f:β->α->β) (b:β) (l:List α) (k:Nat) (x:α) (h:l[k]?=some x):(l.take (k + 1)).foldl f b=f ((l.take k).foldl f b) x:=by
 rw [List.take_add_one,h];simp [List.foldl_append]
end Go.Proofs.YtnhfofmhkfdpgaaGreatDoor.Vm
namespace Go.Proofs.YtnhfofmhkfdpgaaGreatDoor.Vm
set_option maxRecDepth 100000
open Go Go.RowKit
def errMet (w:World):Prop:=w.cell? ⟨0,0,none⟩=some (.iface 193 (.agg #[.pointer (some ⟨5,89,none⟩)]))
def gl (N:Nat):Glob where
 G := fun w => (N ≤ w.heap.size ∧ Lib.TabBelow P N w "strings.asciiSpace" .u8 Lib.asciiSpaceTab) ∧ 0 < N ∧ errMet w
 N:=N
 size:=fun w h=>h.1.1
 keep:=fun w w' h hb=>⟨⟨Nat.le_trans h.1.1 hb.size,h.1.2.on hb⟩,h.2.1,by
  have h2:=h.2.2
  unfold errMet World.cell? at h2 ⊢
  have e:w'.heap[(⟨0,0,none⟩:Addr).block]?=w.heap[(⟨0,0,none⟩:Addr).block]?:=hb.block 0 h.2.1
  rw [e];exact h2⟩
variable {N:Nat} {g:Glob}
def kindNames:List (List Nat):=[[99,111,110,115,116],[99,111,112,121],[110,101,103],[97,100,100],[115,117,98],[109,117,108],[105,110,112,117,116],[99,97,108,108],[117,115,101],[114,101,116]]
def namesB:ByteArray:=bs [99,111,110,115,116,32,99,111,112,121,32,110,101,103,32,97,100,100,32,115,117,98,32,109,117,108,32,105,110,112,117,116,32,99,97,108,108,32,117,115,101,32,114,101,116]
def strc (l:List Nat):List AV:=[.str (bs l)]
theorem xJh:(Lib.fields namesB.data.toList)=kindNames.map fun l=>l.map UInt8.ofNat:=by decide
theorem xKO:∀(j:Nat) b,namesB.data.toList[j]?=some b->b.toNat < 128:=by
 have h:namesB.data.toList.all (fun b=>decide (b.toNat < 128))=true:=by decide
 intro j b hj
 have:=List.all_eq_true.1 h b (xmG hj)
 simpa using this
theorem xDz:Ret P (gl N) false 148 [.str namesB] (.fsl 1 (els strc kindNames)):=by
 refine ⟨c148.call,?_⟩
 intro w av vs xs hG hvs hz
 subst hz
 cases hvs with
 | cons v x vs xs hv hvs =>
 cases hvs
 have:=hv.str_inv;subst this
 refine Calls.mono (Tryz.strings_Fields namesB w (by decide) xKO hG.1.2.here) ?_
 rintro e w' ⟨rfl,rfl⟩
 rw [xJh]
 have hval:∀L:List (List Nat),VRs ⟨w.alloc (.cells ((L.map fun l=>l.map UInt8.ofNat).map fun l=>Value.string ⟨l.toArray⟩).toArray 9),w.heap.size,av,fun _=>none,St.empty⟩ ((L.map fun l=>l.map UInt8.ofNat).map fun l=>Value.string ⟨l.toArray⟩) (els strc L).flatten:=by
  intro L
  generalize (⟨_,_,_,_,_⟩:Ctx)=C
  induction L with
  | nil=>exact .nil
  | cons l L ih=>exact .cons _ _ _ _ (.str _) ih
 refine ⟨_,.fsl 1 (els strc kindNames),St.empty,fun _=>none,rfl,⟨⟨1,rfl⟩,fun h=>by cases h⟩,(Below.refl _ _).alloc (Nat.le_refl _) _,?_,?_⟩
 ·refine ⟨?_,?_,?_,?_,?_,by simp⟩
  ·intro o x h;cases h
  ·intro o o' l l' x x' h;cases h
  ·intro o x h;cases h
  ·intro o l h;cases h
  ·intro o x l h;cases h
 ·have hl:((kindNames.map fun l=>l.map UInt8.ofNat)).length=(els strc kindNames).length:=by simp
  rw [hl]
  refine .fsl w.heap.size 0 _ 1 _ (els strc kindNames) ?_ ?_ (hval kindNames) ?_ ?_ (by simp) (Nat.le_refl _)
  ·intro j v hj
   have:=World.alloc_heap_new w (.cells ((kindNames.map fun l=>l.map UInt8.ofNat).map fun l=>Value.string ⟨l.toArray⟩).toArray 9)
   simp only [World.cell?,this,Nat.zero_add]
   simpa using hj
  ·intro e he;simp only [els,List.mem_map] at he;obtain ⟨l,_,rfl⟩:=he;rfl
  ·intro x hx
   simp only [els,List.mem_flatten,List.mem_map] at hx
   obtain ⟨m,⟨l,_,rfl⟩,hx⟩:=hx
   simp only [strc,List.mem_singleton] at hx
   subst hx;rfl
  ·rintro (⟨h,_⟩ | ⟨o,l,x,h,_⟩)
   ·exact Nat.lt_irrefl _ h
   ·cases h
theorem strings_Contains_one (s:ByteArray) (c:UInt8):Ret P g false 126 [.str s,.str ⟨#[c]⟩] (.bool (decide (0<=Lib.indexByte s.data.toList c))):=by
 refine ⟨c126.call,?_⟩
 intro w av vs xs hG hvs hz
 subst hz
 cases hvs with
 | cons v x vs xs hv hvs =>
 cases hvs with
 | cons v2 x2 vs xs hv2 hvs =>
 cases hvs
 have:=hv.str_inv;subst this
 have:=hv2.str_inv;subst this
 refine Calls.mono (Tryz.strings_Contains_one s c w) ?_
 rintro e w' ⟨rfl,rfl⟩
 refine ⟨_,_,St.empty,fun _=>none,rfl,⟨⟨1,rfl⟩,fun h=>by cases h⟩,Below.refl _ _,?_,.bool _⟩
 refine ⟨?_,?_,?_,?_,?_,Nat.le_refl _⟩
 ·intro o x h;cases h
 ·intro o o' l l' x x' h;cases h
 ·intro o x h;cases h
 ·intro o l h;cases h
 ·intro o x l h;cases h
def kname (k:Int):List Nat:=if 0<=k/\k < 10 then kindNames.getD k.toNat [] else []
theorem xDp (k:Int):Ret P (gl N) false 128 [.int .i64 k] (.str (bs (kname k))):=by
 refine Ret.in c128 (by simp) ?_
 simp [k128]
 refine xAP (fun h1=>?_) (fun h1=>?_) <;> simp [h1]
 ·refine xAj (fun h2=>?_) (fun h2=>?_) <;> simp [h2]
  ·exact RK.eq (by rw [kname,if_neg (by omega)]) rfl
  ·have e0:bs [99,111,110,115,116,32,99,111,112,121,32,110,101,103,32,97,100,100,32,115,117,98,32,109,117,108,32,105,110,112,117,116,32,99,97,108,108,32,117,115,101,32,114,101,116]=namesB:=rfl
   rw [e0]
   refine xDz.use (n:=9) ?_ rfl ?_ <;> simp
   have h3:0<=k:=by omega
   have h4:k < 10:=by omega
   obtain ⟨l,hl⟩:∃ l,kindNames[k.toNat]?=some l:=⟨_,xgG (by have:kindNames.length=10:=rfl;omega)⟩
   simp [xAL,h3,hl,strc]
   exact RK.eq (by simp [kname,h3,h4,hl]) rfl
 ·exact RK.eq (by rw [kname,if_neg (by omega)]) rfl
def kparts (k:Int):List Nat :=
 if k=0 then [100,99] else if k=1 \/ k=2 then [100,97] else if k=3 \/ k=4 \/ k=5 then [100,97,98] else if k=6 then [100] else if k=7 then [100,102] else if k=8 \/ k=9 then [97] else []
theorem xKP (k:Int):Ret P (gl N) false 127 [.int .i64 k] (.str (bs (kparts k))):=by
 refine Ret.in c127 (by simp) ?_
 simp [k127]
 refine (xDp k).use (n:=9) ?_ rfl ?_ <;> simp
 by_cases hk:0<=k/\k < 10
 ·have:k=0 \/ k=1 \/ k=2 \/ k=3 \/ k=4 \/ k=5 \/ k=6 \/ k=7 \/ k=8 \/ k=9:=by omega
  rcases this with rfl | rfl | rfl | rfl | rfl | rfl | rfl | rfl | rfl | rfl <;> simp [kname,kindNames,xDF] <;> exact RK.eq (by simp [kparts]) rfl
 ·have e1:kname k=[]:=by rw [kname,if_neg hk]
  have e2:kparts k=[]:=by simp only [kparts];repeat (rw [if_neg (by omega)])
  simp [e1,xDF]
  exact RK.eq (by rw [e2]) rfl
structure Ins where
 id:Int
 kind:Int
 dst:Int
 a:Int
 b:Int
 c:Int
 f:Int
 n:Int
 x0:Int
 x1:Int
 x2:Int
 deriving DecidableEq
@[simp] def insc (i:Ins):List AV:=[.int .i64 i.id,.int .i64 i.kind,.int .i64 i.dst,.int .i64 i.a,.int .i64 i.b,.int .i64 i.c,.int .i64 i.f,.int .i64 i.n,.int .i64 i.x0,.int .i64 i.x1,.int .i64 i.x2]
@[simp] def encI (i:Ins):AV:=.agg (insc i)
def khas (k:Int) (p:Nat):Bool:=(kparts k).contains p
theorem xVo (k:Int) (p:Nat) (hp:p=97 \/ p=98 \/ p=99 \/ p=100 \/ p=102):decide (0<=Lib.indexByte (bs (kparts k)).data.toList (UInt8.ofNat p))=khas k p:=by
 have:kparts k=[100,99] \/ kparts k=[100,97] \/ kparts k=[100,97,98] \/ kparts k=[100] \/ kparts k=[100,102] \/ kparts k=[97] \/ kparts k=[]:=by
  simp only [kparts]
  repeat (split;simp)
  simp
 unfold khas
 rcases this with h | h | h | h | h | h | h <;> rw [h] <;> rcases hp with rfl | rfl | rfl | rfl | rfl <;> decide
theorem xBK (i:Ins) (p:Nat) (hp:p=97 \/ p=98 \/ p=99 \/ p=100 \/ p=102):Ret P (gl N) false 85 [encI i,.str (bs [p])] (.bool (khas i.kind p)):=by
 refine Ret.inF (by kernel_rfl) ?_
 conv=>arg 3;reduce
 simp
 refine (xKP i.kind).use (n:=9) ?_ rfl ?_ <;> simp
 have hb:bs [p]=⟨#[UInt8.ofNat p]⟩:=rfl
 rw [hb]
 refine (strings_Contains_one (bs (kparts i.kind)) (UInt8.ofNat p)).use (n:=9) ?_ rfl ?_ <;> simp
 exact RK.eq (by rw [xVo _ _ hp]) rfl
end Go.Proofs.YtnhfofmhkfdpgaaGreatDoor.Vm
