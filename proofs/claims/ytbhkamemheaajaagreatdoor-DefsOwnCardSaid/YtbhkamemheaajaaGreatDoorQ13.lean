/- A part of the proof: Wa Wb Wc Wd Fa Fb. -/
import Derived.ChangeKeysEq
import Derived.Test.YtbhkamemheaajaaGreatDoorQ12
set_option linter.unusedVariables false
set_option linter.unusedSimpArgs false
set_option linter.constructorNameAsVariable false
namespace Go.Proofs.YtbhkamemheaajaaGreatDoor.Vm
open Go Go.RowKit
@[simp] theorem cells_anyi {k}:AV.cells (.anyi k)=[.anyi k]:=_root_.id rfl
@[simp] theorem one_anyi {k}:(AV.anyi k).one=true:=_root_.id rfl
theorem VR.empty {C:Ctx} {v:Value} {x:AV} (h:VR C v x) (hl:lenV x=some 0) (sz:Nat):VR C v (.fsl sz []):=by
 cases h <;> simp only [lenV,Option.some.injEq,reduceCtorEq] at hl
 ·exact .fnil _ _ _
 ·rename_i es _ _ _ _ _ _
  rw [hl]
  exact .fnil _ _ _
 ·exact .fnil _ _ _
 ·subst hl;exact .fnil _ _ _
 ·exact .fnil _ _ _
 ·subst hl;exact .fnil _ _ _
 ·exact .fnil _ _ _
def Wv (x y:AV):Prop:=(∃ k n,x=.int k n∧y=.anyi k) ∨ (lenV x=some 0∧∃ sz,y=.fsl sz [])
theorem Wv.vr {C:Ctx} {v:Value} {x y:AV} (h:VR C v x) (hw:Wv x y):VR C v y:=by
 rcases hw with ⟨k,n,rfl,rfl⟩ | ⟨hl,sz,rfl⟩
 ·rw [h.int_inv];exact .anyi _ _
 ·exact h.empty hl sz
def Wk (S S':St):Prop:=S'.next=S.next∧∀q,S'.obj q=none ∨ S'.obj q=S.obj q ∨ ∃ sz es k,S.obj q=some (.row sz es)∧S'.obj q=some (.row sz (es.take k))
theorem Wk.refl (S:St):Wk S S:=⟨rfl,fun q=>.inr (.inl rfl)⟩
theorem Wk.cut {S:St} {o sz:Nat} {es:List (List AV)} (k:Nat) (h:S.obj o=some (.row sz es)):Wk S (S.set o (.row sz (es.take k))):=by
 refine ⟨rfl,fun q=>?_⟩
 by_cases hq:q=o
 ·subst hq;exact .inr (.inr ⟨sz,es,k,h,by show (if q=q then _ else _)=_;rw [if_pos rfl]⟩)
 ·exact .inr (.inl (by show (if q=o then _ else _)=_;rw [if_neg hq]))
theorem Wk.get {S S':St} (h:Wk S S') {q:Nat} {x:AObj} (hx:S'.obj q=some x):S.obj q=some x ∨ ∃ sz es k,S.obj q=some (.row sz es)∧x=.row sz (es.take k):=by
 rcases h.2 q with h1 | h1 | ⟨sz,es,k,h1,h2⟩
 ·rw [h1] at hx;cases hx
 ·exact .inl (h1 ▸ hx)
 ·rw [h2] at hx;cases hx;exact .inr ⟨sz,es,k,h1,rfl⟩
theorem Wk.any {S S':St} (h:Wk S S') {q:Nat} {x:AObj} (hx:S'.obj q=some x):∃ y,S.obj q=some y:=by
 rcases h.get hx with h1 | ⟨_,_,_,h1,_⟩ <;> exact ⟨_,h1⟩
theorem le_wk {C:Ctx} {S':St} (h:Wk C.S S'):Le C { C with S:=S' } :=
 ⟨rfl,rfl,fun _ _ h=>h,Nat.le_refl _,fun b c e f h=>⟨c,f,h,rfl⟩,fun b _ hn=>⟨rfl,fun hb=>hn (by
  rcases hb with hb | ⟨q,l,y,h1,h2,h3⟩
  ·exact .inl hb
  ·obtain ⟨z,hz⟩:=h.any h1
   exact .inr ⟨q,l,z,hz,h2,h3⟩)⟩,Below.refl _ _,fun b r h=>⟨r,h⟩⟩
theorem rel_wk {C:Ctx} {S':St} (h:Rel C) (hw:Wk C.S S'):Rel { C with S:=S' } where
 obj q x hq:=by
  rcases hw.get hq with h1 | ⟨sz,es,k,h1,rfl⟩
  ·exact (h.obj q x h1).mono (le_wk hw) (fun h=>h) (fun _ _=>rfl)
  ·have:=(h.obj q _ h1).mono (le_wk hw) (fun h=>h) (fun _ _=>rfl)
   rcases this with ⟨rfl,hn⟩ | ⟨l,c,e,vs,h2,h3,h4,h5,h6,h7,h8,h9⟩
   ·exact .inl ⟨by simp,hn⟩
   ·refine .inr ⟨l,c,e,vs.take (k * sz),h2,h3,h4,h5,?_,fun x hx=>h7 x (List.mem_of_mem_take hx),fun j v hj=>?_,?_⟩
    ·have:(es.take k).length * sz≤es.length * sz:=Nat.mul_le_mul_right _ (by simp;omega)
     omega
    ·rw [List.getElem?_take] at hj
     split at hj
     ·exact h8 j v hj
     ·cases hj
    ·rw [flat_take k h7];exact h9.take _
 inj q q' l l' x x' hq hq':=by
  obtain ⟨y,hy⟩:=hw.any hq
  obtain ⟨y',hy'⟩:=hw.any hq'
  exact h.inj q q' l l' y y' hy hy'
 lt q x hq:=by
  obtain ⟨y,hy⟩:=hw.any hq
  have:=h.lt q y hy
  show q < S'.next
  rw [hw.1];exact this
 fresh q l hq:=by
  show q < S'.next
  rw [hw.1];exact h.fresh q l hq
 low q x l hq:=by
  obtain ⟨y,hy⟩:=hw.any hq
  exact h.low q y l hy
 basele:=h.basele
section
variable {P:Program} {g:Glob}
theorem Cal.post {f args S K} (h:Cal P g f args S fun v S1=>∃ v2 S2,(v2=v ∨ Wv v v2)∧Wk S1 S2∧K v2 S2):Cal P g f args S K:=by
 refine ⟨h.1,?_⟩
 intro vs C hS hR hvs hN hG
 refine Calls.mono (h.2 vs C hS hR hvs hN hG) ?_
 rintro e w' ⟨v,av,C',rfl,hq,h1,h2,h3,h4⟩
 obtain ⟨v2,S2,hv,hw,hk⟩:∃ v2 S2,(v2=av ∨ Wv av v2)∧Wk C'.S S2∧K v2 S2:=hq
 have hL:=le_wk hw
 refine ⟨v,v2,{ C' with S:=S2 },rfl,hk,h1,h2.trans hL,rel_wk h3 hw,VR.mono hL ?_⟩
 rcases hv with rfl | hv
 ·exact h4
 ·exact Wv.vr h4 hv
theorem Cal.less {f args S K} (h:Cal P g f args S fun v S1=>∃ S2,Wk S1 S2∧K v S2):Cal P g f args S K :=
 Cal.post (h.mono fun v S1 ⟨S2,h1,h2⟩=>⟨v,S2,.inl rfl,h1,h2⟩)
theorem Cal.pre {f args S S' K} (hw:Wk S S') (h:Cal P g f args S' K):Cal P g f args S K:=by
 refine ⟨h.1,?_⟩
 intro vs C hS hR hvs hN hG
 subst hS
 have hL:=le_wk hw
 refine Calls.mono (h.2 vs { C with S:=S' } rfl (rel_wk hR hw) (hvs.mono hL) hN hG) ?_
 rintro e w' ⟨v,av,C',rfl,hq,h1,h2,h3,h4⟩
 exact ⟨v,av,C',rfl,hq,h1,hL.trans h2,h3,h4⟩
theorem W.wk {c F S S'} {Q:Res→Prop} (hw:Wk S S') (h:W P g (.code c F S') Q):W P g (.code c F S) Q:=by
 intro code n B ro a C hc hS hA
 subst hS
 have hL:=le_wk hw
 have k:=h code n B ro a { C with S:=S' } hc rfl (hA.then hL (rel_wk hA.rel hw) (hA.fr.mono hL) hA.size (hA.marks.mono hL))
 cases code with
 | loop body =>
  intro b kk cs hb
  obtain ⟨e,a',w',hq,harr⟩:=k b kk cs hb
  exact ⟨e,a',w',PostC.from hL hq,harr⟩
 | _=>exact wpIn_mono k fun e a' w' hp=>PostC.from hL hp
theorem W.whileF {α:Type} {c:VCode} {Q:Res→Prop} (I:α→AFrame→St→Prop) (m:α→Nat) (h:∀a F S,I a F S→vc P g c F S (KRound (fun a F S=>∃ S',Wk S S'∧I a F S') m a Q)):∀a F S,I a F S→W P g (.code (.loop c) F S) Q:=by
 intro a
 induction hm:m a using Nat.strongRecOn generalizing a with
 | ind n ih =>
  intro F S hI
  refine W.loopR (vc_sound (h a F S hI)) ?_ ?_
  ·rintro F1 S1 ⟨a',h1,S',hw,h2⟩
   exact W.wk hw (ih (m a') (by omega) a' rfl F1 S' h2)
  ·intro e F1 S1 he k
   cases e <;> first | exact absurd rfl he | exact k
def St.news (S:St):St:=⟨S.next,fun q=>(S.obj q).filter AObj.young⟩
@[simp] theorem news_obj {S:St} {q:Nat}:S.news.obj q=(S.obj q).filter AObj.young:=_root_.id rfl
@[simp] theorem news_next {S:St}:S.news.next=S.next:=_root_.id rfl
theorem Wk.news (S:St):Wk S S.news:=by
 refine ⟨rfl,fun q=>?_⟩
 rw [news_obj]
 cases h:S.obj q with
 | none=>exact .inl rfl
 | some x =>
  by_cases hx:x.young=true
  ·exact .inr (.inl (by simp [Option.filter,hx]))
  ·exact .inl (by simp [Option.filter,hx])
def RP (y:AV) (v:AV) (S:St):Prop:=v.young=true∧∃ m,pict S.news [] m v=some y
theorem Ret.inP {f n rs c xs y} (h:Fun' P f n rs c) (hn:decide (xs.length≤n)=true) (hv:vc P g c (entry xs) St.empty (KBody rs (RP y))):Ret P g true f xs y:=by
 refine Ret.of h.call (Cal.less ((h.in (by simpa using hn) hv).mono ?_))
 rintro v S ⟨hy,m,hm⟩
 refine ⟨S.news,Wk.news S,⟨m,hm⟩,fun _=>⟨hy,?_⟩⟩
 intro o x ho
 rw [news_obj,Option.filter_eq_some_iff] at ho
 exact ho.2
structure RetE (P:Program) (g:Glob) (b:Bool) (f:Nat) (xs:List AV) (Q:AV→Prop):Prop where
 call:callable P f=true
 con:ConOK P g f ⟨fun zs=>zs=xs,fun _ res E=>(∃ y,Q y∧∃ m,pict E [] m res=some y)∧(b=true→res.young=true∧youngo E)⟩
theorem RetE.use {b f args S K n xs Q} (h:RetE P g b f xs Q) (hx:mapOpt (pict S [] n) args=some xs) (hs:(b || solids args)=true) (hk:∀y,Q y→K y S):Cal P g f args S K:=by
 refine ⟨h.call,W.con h.con hx rfl ?_⟩
 rintro res E ⟨⟨y,hy,m,hm⟩,hb⟩
 refine ⟨?_,.inr ⟨m,y,hm,hk y hy⟩⟩
 cases hb':b
 ·simp [hb'] at hs;exact .inl hs
 ·exact .inr (hb hb')
theorem RetE.in {f n rs c xs Q} (h:Fun' P f n rs c) (hn:decide (xs.length≤n)=true) (hv:vc P g c (entry xs) St.empty (KBody rs (fun v S=>∃ y,Q y∧∃ m,pict S [] m v=some y))):RetE P g false f xs Q :=
 ⟨h.call,ConOK.of fun zs hz=>by subst hz;exact (h.in (by simpa using hn) hv).mono fun v S hk=>⟨hk,fun h=>by cases h⟩⟩
def RPE (Q:AV→Prop) (v:AV) (S:St):Prop:=v.young=true∧∃ y,Q y∧∃ m,pict S.news [] m v=some y
theorem RetE.inP {f n rs c xs Q} (h:Fun' P f n rs c) (hn:decide (xs.length≤n)=true) (hv:vc P g c (entry xs) St.empty (KBody rs (RPE Q))):RetE P g true f xs Q:=by
 refine ⟨h.call,ConOK.of fun zs hz=>?_⟩
 subst hz
 refine Cal.less ((h.in (by simpa using hn) hv).mono ?_)
 rintro v S ⟨hy,hq⟩
 refine ⟨S.news,Wk.news S,hq,fun _=>⟨hy,?_⟩⟩
 intro o x ho
 rw [news_obj,Option.filter_eq_some_iff] at ho
 exact ho.2
theorem Ret.e {b f xs y} {Q:AV→Prop} (h:Ret P g b f xs y) (hq:Q y):RetE P g b f xs Q :=
 ⟨h.call,fun w av vs zs hG hvs hz=>Calls.mono (h.con w av vs zs hG hvs hz) fun e w' ⟨v,res,E,μ,h1,⟨h2,h3⟩,h4⟩=>⟨v,res,E,μ,h1,⟨⟨y,hq,h2⟩,h3⟩,h4⟩⟩
theorem RetE.mono {b f xs} {Q Q':AV→Prop} (h:RetE P g b f xs Q) (hq:∀y,Q y→Q' y):RetE P g b f xs Q' :=
 ⟨h.call,fun w av vs zs hG hvs hz=>Calls.mono (h.con w av vs zs hG hvs hz) fun e w' ⟨v,res,E,μ,h1,⟨⟨y,h2,h2'⟩,h3⟩,h4⟩=>⟨v,res,E,μ,h1,⟨⟨y,hq y h2,h2'⟩,h3⟩,h4⟩⟩
end
section
variable {α:Type} {e:α→List AV} {sz:Nat} {l:List α} {v:AV}
def Rw {α:Type} (e:α→List AV) (sz:Nat) (S:St) (v:AV) (l:List α):Prop:=(v=.nilsl∧l=[]) ∨ ∃ o,v=.sl sz o 0 l.length∧o < S.next∧S.obj o=some (.row sz (els e l))
theorem Rw.len {S:St} (h:Rw e sz S v l):lenV v=some l.length:=by
 rcases h with ⟨rfl,rfl⟩ | ⟨o,rfl,_,_⟩ <;> simp
theorem Rw.elems {S:St} (h:Rw e sz S v l):Vm.elems S v=some (els e l):=by
 rcases h with ⟨rfl,rfl⟩ | ⟨o,rfl,_,ho⟩
 ·simp [Vm.elems,els]
 ·rw [elems_sl ho (by simp),List.drop_zero,List.take_of_length_le (by simp)]
end
end Go.Proofs.YtbhkamemheaajaaGreatDoor.Vm
namespace Go.Proofs.YtbhkamemheaajaaGreatDoor.Vm
open Go Go.RowKit
def FrV (S:St) (o:Nat) (x y:AV):Prop:=y=x ∨ ∃ sz off len es,x=.sl sz o off len∧S.obj o=some (.row sz es)∧off + len≤es.length∧y=.fsl sz ((es.drop off).take len)
def FrVs (S:St) (o:Nat):List AV→List AV→Prop
 | [],[]=>True
 | x :: xs,y :: ys=>FrV S o x y∧FrVs S o xs ys
 | _,_=>False
def FrVss (S:St) (o:Nat):List (List AV)→List (List AV)→Prop
 | [],[]=>True
 | x :: xs,y :: ys=>FrVs S o x y∧FrVss S o xs ys
 | _,_=>False
theorem FrVs.refl (S:St) (o:Nat):∀xs,FrVs S o xs xs
 | []=>trivial
 | x :: xs=>⟨.inl rfl,FrVs.refl S o xs⟩
theorem FrVss.refl (S:St) (o:Nat):∀xs,FrVss S o xs xs
 | []=>trivial
 | x :: xs=>⟨FrVs.refl S o x,FrVss.refl S o xs⟩
theorem FrVss.snoc {S:St} {o:Nat} {x y:List AV} (h:FrVs S o x y):∀xs,FrVss S o (xs ++ [x]) (xs ++ [y])
 | []=>⟨h,trivial⟩
 | z :: xs=>⟨FrVs.refl S o z,FrVss.snoc h xs⟩
theorem FrVs.len {S:St} {o:Nat}:∀{xs ys:List AV},FrVs S o xs ys→ys.length=xs.length
 | [],[],_=>rfl
 | [],_ :: _,h=>h.elim
 | _ :: _,[],h=>h.elim
 | _ :: _,_ :: _,h=>by simp [FrVs.len h.2]
theorem FrVs.app {S:St} {o:Nat}:∀{xs ys us vs:List AV},FrVs S o xs ys→FrVs S o us vs→FrVs S o (xs ++ us) (ys ++ vs)
 | [],[],_,_,_,h=>h
 | [],_ :: _,_,_,h,_=>h.elim
 | _ :: _,[],_,_,h,_=>h.elim
 | _ :: _,_ :: _,_,_,h,h'=>⟨h.1,FrVs.app h.2 h'⟩
theorem FrVss.flat {S:St} {o:Nat}:∀{xs ys:List (List AV)},FrVss S o xs ys→FrVs S o xs.flatten ys.flatten
 | [],[],_=>trivial
 | [],_ :: _,h=>h.elim
 | _ :: _,[],h=>h.elim
 | _ :: _,_ :: _,h=>FrVs.app h.1 (FrVss.flat h.2)
theorem FrVss.lens {S:St} {o sz:Nat}:∀{xs ys:List (List AV)},FrVss S o xs ys→(∀x ∈ xs,x.length=sz)→ys.length=xs.length∧∀y ∈ ys,y.length=sz
 | [],[],_,_=>⟨rfl,by simp⟩
 | [],_ :: _,h,_=>h.elim
 | _ :: _,[],h,_=>h.elim
 | x :: xs,y :: ys,h,hs=>by
  obtain ⟨h1,h2⟩:=FrVss.lens h.2 fun z hz=>hs z (by simp [hz])
  refine ⟨by simp [h1],fun z hz=>?_⟩
  rcases List.mem_cons.1 hz with rfl | hz
  ·rw [h.1.len];exact hs x (by simp)
  ·exact h2 z hz
structure Fzn (S S':St) (o:Nat):Prop where
 next:S'.next=S.next
 gone:S'.obj o=none
 solid:∀sz es,S.obj o=some (.row sz es)→∀z ∈ es.flatten,z.solid=true
 other:∀q,q ≠ o→S'.obj q=none ∨ S'.obj q=S.obj q ∨ ∃ sz es es',S.obj q=some (.row sz es)∧S'.obj q=some (.row sz es')∧FrVss S o es es'
theorem Fzn.get {S S':St} {o q:Nat} (h:Fzn S S' o) {x:AObj} (hx:S'.obj q=some x):q ≠ o∧∃ y,S.obj q=some y:=by
 have hq:q ≠ o:=fun e=>by rw [e,h.gone] at hx;cases hx
 refine ⟨hq,?_⟩
 rcases h.other q hq with h1 | h1 | ⟨sz,es,es',h1,h2,_⟩
 ·rw [h1] at hx;cases hx
 ·exact ⟨x,by rw [← h1];exact hx⟩
 ·exact ⟨_,h1⟩
theorem Fzn.bad {C:Ctx} {S':St} {o:Nat} (h:Fzn C.S S' o) {b:Nat} (hb:Ctx.bad { C with S:=S' } b):C.bad b:=by
 rcases hb with hb | ⟨q,l,y,h1,h2,h3⟩
 ·exact .inl hb
 ·obtain ⟨_,z,hz⟩:=h.get h1
  exact .inr ⟨q,l,z,hz,h2,h3⟩
theorem le_fzn {C:Ctx} {S':St} {o:Nat} (h:Fzn C.S S' o):Le C { C with S:=S' } :=
 ⟨rfl,rfl,fun _ _ h=>h,Nat.le_refl _,fun b c e f h=>⟨c,f,h,rfl⟩,fun b _ hn=>⟨rfl,fun hb=>hn (h.bad hb)⟩,Below.refl _ _,fun b r h=>⟨r,h⟩⟩
theorem FrV.vr {C:Ctx} {S':St} {o:Nat} (hR:Rel C) (hF:Fzn C.S S' o) {v:Value} {x y:AV} (h:VR C v x) (hf:FrV C.S o x y):VR { C with S:=S' } v y:=by
 have hL:=le_fzn hF
 rcases hf with rfl | ⟨sz,off,len,es,rfl,ho,hle,rfl⟩
 ·exact VR.mono hL h
 ·cases h with
  | sl _ _ _ _ cap l c e f h hz hh hm hcap =>
   have hnb:¬ Ctx.bad { C with S:=S' } l.blk:=by
    rintro (⟨h1,_⟩ | ⟨q,l',y,h1,h2,h3⟩)
    ·have h1:l.blk < C.base:=h1
     have:=hR.low o _ l ho h
     omega
    ·obtain ⟨hq,z,hz'⟩:=hF.get h1
     exact hq (hR.inj q o l' l _ _ hz' ho h2 h h3)
   by_cases hlen:len=0
   ·subst hlen
    simp
    exact .fnil _ _ _
   ·have hlt:off < es.length:=by omega
    obtain ⟨l',c',ty,vs,k1,k2,k3,k4,k5,k6,k7,k8,_⟩:=row_elem hR ho (List.getElem?_eq_getElem hlt)
    rw [h] at k1;cases k1
    have hrel:VRs C ((vs.drop (off * sz)).take (len * sz)) ((es.drop off).take len).flatten:=by
     rw [flat_take _ (fun x hx=>k6 x (List.mem_of_mem_drop hx)),flat_drop _ k6]
     exact (k8.drop _).take _
    have hs:∀e ∈ (es.drop off).take len,e.length=sz:=fun x hx=>k6 x (List.mem_of_mem_drop (List.mem_of_mem_take hx))
    have hso:∀z ∈ ((es.drop off).take len).flatten,z.solid=true:=by
     intro z hz'
     obtain ⟨m,hm1,hm2⟩:=List.mem_flatten.1 hz'
     exact hF.solid sz es ho z (List.mem_flatten.2 ⟨m,List.mem_of_mem_drop (List.mem_of_mem_take hm1),hm2⟩)
    have hc:Cells C.w l.blk (l.off + off * sz) ((vs.drop (off * sz)).take (len * sz)):=by
     have:Cells C.w l.blk l.off vs:=by
      intro j v hj
      rw [cell_of_row C.w l.blk _ c' ty (0,0) k4]
      exact k7 j v hj
     exact (this.drop _).take _
    have hlen':((es.drop off).take len).length=len:=by simp;omega
    have:=VR.fsl (C:={ C with S:=S' }) l.blk (l.off + off * sz) cap sz _ ((es.drop off).take len) hc hs (VRs.mono hL hrel) hso hnb (Array.getElem?_eq_some_iff.1 k4).1 (by omega)
    rwa [hlen'] at this
  | slnil a _ _ _=>simp;exact .fnil _ _ _
theorem FrVs.vrs {C:Ctx} {S':St} {o:Nat} (hR:Rel C) (hF:Fzn C.S S' o):∀{vs:List Value} {xs ys:List AV},VRs C vs xs→FrVs C.S o xs ys→VRs { C with S:=S' } vs ys
 | _,_,[],.nil,_=>.nil
 | _,_,_ :: _,.nil,h=>h.elim
 | _,_,[],.cons _ _ _ _ _ _,h=>h.elim
 | _,_,_ :: _,.cons v x vs xs hv hs,h=>.cons _ _ _ _ (FrV.vr hR hF hv h.1) (FrVs.vrs hR hF hs h.2)
theorem rel_fzn {C:Ctx} {S':St} {o:Nat} (h:Rel C) (hF:Fzn C.S S' o):Rel { C with S:=S' } where
 obj q x hq:=by
  obtain ⟨hne,_⟩:=hF.get hq
  rcases hF.other q hne with h1 | h1 | ⟨sz,es,es',h1,h2,h3⟩
  ·rw [h1] at hq;cases hq
  ·exact (h.obj q x (by rw [← h1];exact hq)).mono (le_fzn hF) (fun h=>h) (fun _ _=>rfl)
  ·rw [h2] at hq;cases hq
   have:=h.obj q _ h1
   rcases this with ⟨rfl,hn⟩ | ⟨l,c,e,vs,h4,h5,h6,h7,h8,h9,h10,h11⟩
   ·have:es'=[]:=by
     cases es' with
     | nil=>rfl
     | cons _ _=>exact h3.elim
    exact .inl ⟨this,hn⟩
   ·obtain ⟨a1,a2⟩:=h3.lens h9
    exact .inr ⟨l,c,e,vs,h4,h5,h6,h7,by rw [a1];exact h8,a2,h10,FrVs.vrs h hF h11 h3.flat⟩
 inj q q' l l' x x' hq hq':=by
  obtain ⟨_,y,hy⟩:=hF.get hq
  obtain ⟨_,y',hy'⟩:=hF.get hq'
  exact h.inj q q' l l' y y' hy hy'
 lt q x hq:=by
  obtain ⟨_,y,hy⟩:=hF.get hq
  have:=h.lt q y hy
  show q < S'.next
  rw [hF.next];exact this
 fresh q l hq:=by
  show q < S'.next
  rw [hF.next];exact h.fresh q l hq
 low q x l hq:=by
  obtain ⟨_,y,hy⟩:=hF.get hq
  exact h.low q y l hy
 basele:=h.basele
section
variable {P:Program} {g:Glob}
theorem Cal.freeze {f args S K} (h:Cal P g f args S fun v S1=>K v S1 ∨ ∃ o v2 S2,FrV S1 o v v2∧Fzn S1 S2 o∧K v2 S2):Cal P g f args S K:=by
 refine ⟨h.1,?_⟩
 intro vs C hS hR hvs hN hG
 refine Calls.mono (h.2 vs C hS hR hvs hN hG) ?_
 rintro e w' ⟨v,av,C',rfl,hq,h1,h2,h3,h4⟩
 have hq:K av C'.S ∨ ∃ o v2 S2,FrV C'.S o av v2∧Fzn C'.S S2 o∧K v2 S2:=hq
 rcases hq with hk | ⟨o,v2,S2,hv,hF,hk⟩
 ·exact ⟨v,av,C',rfl,hk,h1,h2,h3,h4⟩
 ·exact ⟨v,v2,{ C' with S:=S2 },rfl,hk,h1,h2.trans (le_fzn hF),rel_fzn h3 hF,FrV.vr h3 hF h4 hv⟩
theorem Fun'.inW {f n rs c args S K} (h:Fun' P f n rs c) (hn:args.length≤n) (hv:W P g (.code c (entry args) S) (KBody rs K)):Cal P g f args S K:=by
 refine ⟨h.call,?_⟩
 have hc:=h.code
 cases hf:P.funcs[f]? with
 | none=>rw [hf] at hc;cases hc
 | some fn =>
  rw [hf] at hc
  refine W.inl hf hc hn (W.mono hv ?_)
  intro r hr
  cases r with
  | val v S=>exact hr.elim
  | code e F S =>
   cases e with
   | exit id=>exact hr.elim
   | normal=>exact hr.out
   | ret=>exact hr.out
def onlyR (R:AFrame→St→Prop):Res→Prop
 | .code .normal F S=>R F S
 | _=>False
@[simp] theorem onlyR_normal {R F S}:onlyR R (.code .normal F S)=R F S:=_root_.id rfl
theorem W.split {a b F S} {Q:Res→Prop} (R:AFrame→St→Prop) (h1:vc P g a F S (onlyR R)) (h2:∀F S,R F S→vc P g b F S Q):W P g (.code (.seq a b) F S) Q :=
 W.seqR (R:=onlyR R) (vc_sound h1) (fun F1 S1 h=>vc_sound (h2 F1 S1 h)) (fun e F1 S1 he h=>by cases e <;> first | exact absurd rfl he | exact h.elim)
end
end Go.Proofs.YtbhkamemheaajaaGreatDoor.Vm
namespace Go.Proofs.YtbhkamemheaajaaGreatDoor.Vm
open Go Go.RowKit
def mrow (P:Program) (t:TypeId) (name:String):Option (Nat × Option (FuncId × Bool)):=(P.info? t).bind fun i=>(i.methods.find? (·.name == name)).map fun m=>(m.path.size,m.func)
def ptrTo (P:Program) (t:TypeId):Option TypeId:=match P.underlying t with
 | some (.pointer e)=>some e
 | _=>none
section
variable {P:Program} {g:Glob}
theorem mrow_some {t:TypeId} {name:String} {r:Option (FuncId × Bool)} (h:mrow P t name=some (0,r)):∃ i m,P.info? t=some i∧i.methods.find? (·.name == name)=some m∧m.path=#[]∧m.func=r:=by
 unfold mrow at h
 cases hi:P.info? t with
 | none=>simp [hi] at h
 | some i =>
  simp only [hi,Option.bind_some,Option.map_eq_some_iff] at h
  obtain ⟨m,h1,h2⟩:=h
  simp only [Prod.mk.injEq] at h2
  exact ⟨i,m,rfl,h1,Array.eq_empty_of_size_eq_zero h2.1,h2.2⟩
theorem ptrTo_some {t e:TypeId} (h:ptrTo P t=some e):P.underlying t=some (.pointer e):=by
 unfold ptrTo at h
 split at h
 ·rename_i e' he;cases h;exact he
 ·cases h
theorem method_ptr {t e:TypeId} {name:String} {f:FuncId} (h:mrow P t name=some (0,some (f,true))) (hp:ptrTo P t=some e) (a:Addr) (w:World):(method (P.types.size + Made.depth) t (.pointer (some a)) name).run P w=.ok (f,.pointer (some a)) w:=by
 obtain ⟨i,m,h1,h2,h3,h4⟩:=mrow_some h
 rw [show P.types.size + Made.depth=(P.types.size + 99) + 1 from rfl]
 generalize P.types.size + 99=k
 unfold method
 simp [run_typeInfo h1,h2,h3,h4,follow,receiverAt,run_underlying (ptrTo_some hp),Place.get]
theorem method_val {t e:TypeId} {name:String} {f:FuncId} (h:mrow P t name=some (0,some (f,false))) (hp:ptrTo P t=some e) (a:Addr) (w:World):(method (P.types.size + Made.depth) t (.pointer (some a)) name).run P w=((loadVar e a).run P w).andThen fun v w=>.ok (f,v) w:=by
 obtain ⟨i,m,h1,h2,h3,h4⟩:=mrow_some h
 rw [show P.types.size + Made.depth=(P.types.size + 99) + 1 from rfl]
 generalize P.types.size + 99=k
 unfold method
 simp [run_typeInfo h1,h2,h3,h4,follow,receiverAt,run_underlying (ptrTo_some hp),Place.get]
 have hw:∀b1 b2:ByteArray,(Builtin.ssaWrapNilChk_ #[t] t #[.pointer (some a),.string b1,.string b2]).run P w=.ok (.pointer (some a)) w:=fun _ _=>rfl
 rw [show strVal "" = Value.string "".toUTF8 from rfl, show strVal ((name.splitOn ".").getLast?.getD name) = Value.string ((name.splitOn ".").getLast?.getD name).toUTF8 from rfl, hw]
 have ha:(asAddr (.pointer (some a))).run P w=.ok a w:=rfl
 simp [ha]
theorem CalI.p {t e:TypeId} {name:String} {f p i q:Nat} {xs:List AV} {S:St} {K:AV→St→Prop} (h:mrow P t name=some (0,some (f,true))) (hp:ptrTo P t=some e) (hk:Cal P g f (.ptr p i q :: xs) S K):CalI P g (.iface t (.ptr p i q)) name xs S K :=
 .inl ⟨f,method_ptr h hp,hk⟩
theorem CalI.v {t e:TypeId} {name:String} {f p i q sz:Nat} {gg:Bool} {y:AV} {xs:List AV} {S:St} {K:AV→St→Prop} (h:mrow P t name=some (0,some (f,false))) (hp:ptrTo P t=some e) (hs:sizeT P e=some sz) (hg:aggT P e=some gg) (hl:sk (.load gg sz) [.ptr p i q] S=some (y,S)) (hk:Cal P g f (y :: xs) S K):CalI P g (.iface t (.ptr p i q)) name xs S K :=
 .inr ⟨f,e,sz,gg,y,hs,hg,method_val h hp,hl,hk⟩
end
end Go.Proofs.YtbhkamemheaajaaGreatDoor.Vm
namespace Go.Proofs.YtbhkamemheaajaaGreatDoor.Vm
open Go Go.RowKit
section
variable {P:Program} {g:Glob}
theorem Ok.mono {α:Type} {o:Option α} {K K':α→Prop} (h:Ok o K) (hk:∀x,K x→K' x):Ok o K':=by
 cases o with
 | none=>exact h
 | some x=>exact hk x h
theorem asgQ_mono {K K':AV→St→Prop} (hk:∀v S,K v S→K' v S) {q n ps LF asg body cb}:∀r,asgQ P g K q n ps LF asg body cb r→asgQ P g K' q n ps LF asg body cb r:=by
 have hr:∀r,roundQ K q n ps LF asg body r→roundQ K' q n ps LF asg body r:=by
  intro r h
  unfold roundQ at h ⊢
  split at h
  all_goals first
   | exact h
   | exact ⟨h.1,hk _ _ h.2⟩
   | (obtain ⟨F',h1,h2⟩:=h;exact ⟨F',h1,hk _ _ h2⟩)
 intro r h
 cases r with
 | val v S=>exact h
 | code e F S =>
  cases e with
  | normal=>exact ⟨h.1,W.mono h.2 hr⟩
  | exit id=>exact h
  | ret=>exact h
theorem CalV.mono {v xs S} {K K':AV→St→Prop} (hk:∀v S,K v S→K' v S) (h:CalV P g v xs S K):CalV P g v xs S K':=by
 unfold CalV at h ⊢
 split at h
 ·exact Cal.mono h hk
 ·obtain ⟨n,ps,LF,asg,body,ca,cb,h1,h2,h3,h4,h5,h6⟩:=h
  exact ⟨n,ps,LF,asg,body,ca,cb,h1,h2,h3,h4,h5,W.mono h6 (asgQ_mono hk)⟩
 ·exact h
theorem CalI.mono {v name xs S} {K K':AV→St→Prop} (hk:∀v S,K v S→K' v S) (h:CalI P g v name xs S K):CalI P g v name xs S K':=by
 unfold CalI at h ⊢
 split at h
 ·rcases h with ⟨f,h1,h2⟩ | ⟨f,te,sz,gg,y,h1,h2,h3,h4,h5⟩
  ·exact .inl ⟨f,h1,Cal.mono h2 hk⟩
  ·exact .inr ⟨f,te,sz,gg,y,h1,h2,h3,h4,Cal.mono h5 hk⟩
 ·exact h
theorem stepOp_mono {o F S} {K K':AV→St→Prop} (hk:∀v S,K v S→K' v S) (h:stepOp P g o F S K):stepOp P g o F S K':=by
 unfold stepOp at h ⊢
 split at h
 ·exact hk _ _ h
 ·split at h
  ·exact h.mono fun v=>hk v S
  ·exact h.mono fun r=>hk r.1 r.2
  ·exact Cal.mono h hk
  ·exact CalV.mono hk h
  ·exact CalI.mono hk h
  ·exact h.mono fun m hm=>⟨hk _ _ hm.1,fun h0=>hk _ _ (hm.2 h0)⟩
  ·exact h
theorem vcOps_mono {Q Q':Res→Prop} (hq:∀r,Q r→Q' r):∀{l F S},vcOps P g l F S Q→vcOps P g l F S Q'
 | [],F,S,h=>hq _ h
 | o :: l,F,S,h=>stepOp_mono (fun v S'=>vcOps_mono hq) h
theorem vc_mono:∀{c F S} {Q Q':Res→Prop},(∀r,Q r→Q' r)→vc P g c F S Q→vc P g c F S Q'
 | .skip,F,S,Q,Q',hq,h=>hq _ h
 | .label,F,S,Q,Q',hq,h=>hq _ h
 | .exit id,F,S,Q,Q',hq,h=>hq _ h
 | .ret,F,S,Q,Q',hq,h=>hq _ h
 | .region false l af,F,S,Q,Q',hq,h=>vcOps_mono hq h
 | .region true l af,F,S,Q,Q',hq,h=>W.mono h hq
 | .seq a b,F,S,Q,Q',hq,h=>vc_mono (c:=a) (fun r hr=>by
   cases r with
   | val v S=>exact hq _ hr
   | code e F S =>
    cases e with
    | normal=>exact vc_mono (c:=b) hq hr
    | exit id=>exact hq _ hr
    | ret=>exact hq _ hr) h
 | .cond x a b,F,S,Q,Q',hq,h=>by
  unfold vc at h ⊢
  split at h
  ·exact vc_mono (c:=a) hq h
  ·exact vc_mono (c:=b) hq h
  ·exact h
 | .block id c,F,S,Q,Q',hq,h=>vc_mono (c:=c) (fun r hr=>by
   cases r with
   | val v S=>exact hq _ hr
   | code e F S =>
    cases e with
    | normal=>exact hq _ hr
    | exit i =>
     have hr':if i=id then Q (.code .normal F S) else Q (.code (.exit i) F S):=hr
     show if i=id then Q' (.code .normal F S) else Q' (.code (.exit i) F S)
     by_cases hi:i=id
     ·rw [if_pos hi] at hr' ⊢;exact hq _ hr'
     ·rw [if_neg hi] at hr' ⊢;exact hq _ hr'
    | ret=>exact hq _ hr) h
 | .loop c,F,S,Q,Q',hq,h=>W.mono h hq
 | .rangeFunc n x ps a b,F,S,Q,Q',hq,h=>W.mono h hq
 | .scope c,F,S,Q,Q',hq,h=>vc_mono (c:=c) hq h
 | .bad,F,S,Q,Q',hq,h=>h
theorem Bra.cut {v a b F S} {Q:Res→Prop} (R:AFrame→St→Prop) (h:Bra P g v a b F S (onlyR R)) (hR:∀F S,R F S→Q (.code .normal F S)):Bra P g v a b F S Q:=by
 have hq:∀r,onlyR R r→Q r:=fun r hr=>by
  cases r with
  | val v S=>exact hr.elim
  | code e F S=>cases e <;> first | exact hR F S hr | exact hr.elim
 unfold Bra at h ⊢
 split at h
 ·exact vc_mono hq h
 ·exact vc_mono hq h
 ·exact h
end
end Go.Proofs.YtbhkamemheaajaaGreatDoor.Vm
namespace Go.Proofs.YtbhkamemheaajaaGreatDoor.Vm
open Go Go.RowKit
variable {g:Glob}
def wrap32 (n:Int):Int:=IntKind.i32.wrap n
theorem wrap32_in (n:Int):-2147483648≤wrap32 n∧wrap32 n≤2147483647:=by
 unfold wrap32;rw [IntKind.wrap_i32];omega
structure Val where
 k:Int
 c:Int
 deriving DecidableEq
@[simp] def encV (v:Val):AV:=.agg [.int .i64 v.k,.int .i64 v.c]
def Val.ok (v:Val):Bool:=if v.k=1 then decide (-2147483648≤v.c∧v.c≤2147483647) else if v.k=0 ∨ v.k=2 then decide (v.c=0) else false
def Val.sane (v:Val):Val:=if v.ok then v else ⟨2,0⟩
def Val.join (a b:Val):Val:=if a.sane.k=0 ∨ a.sane=b.sane then b.sane else if b.sane.k=0 then a.sane else ⟨2,0⟩
def Val.leq (a b:Val):Bool:=decide (a.join b=b.sane)
def Val.each (op:Int→Int→Int) (a b:Val):Val:=if a.sane.k=0 ∨ b.sane.k=0 then ⟨0,0⟩ else if a.sane.k=2 ∨ b.sane.k=2 then ⟨2,0⟩ else ⟨1,wrap32 (op a.sane.c b.sane.c)⟩
def i64add (x y:Int):Int:=IntKind.i64.wrap (x + y)
def i64sub (x y:Int):Int:=IntKind.i64.wrap (x - y)
def i64mul (x y:Int):Int:=IntKind.i64.wrap (x * y)
end Go.Proofs.YtbhkamemheaajaaGreatDoor.Vm
namespace Go.Proofs.YtbhkamemheaajaaGreatDoor.Vm
open Go Go.RowKit
variable {g:Glob}
structure BSet where
 n:Nat
 ws:List Nat
 deriving DecidableEq
def nw (n:Nat):Nat:=(n + 63) / 64
@[simp] def encB (s:BSet):AV:=.agg [.int .i64 (s.n:Int),.fsl 1 (els u64c s.ws)]
def BSet.new (n:Nat):BSet:=⟨n,List.replicate (nw n) 0⟩
structure BSet.OK (s:BSet):Prop where
 n:s.n≤1024
 len:s.ws.length=nw s.n
 lt:∀w ∈ s.ws,w < 2 ^ 64
 top:s.n % 64=0 ∨ ∀w,s.ws.getLast?=some w→w < 2 ^ (s.n % 64)
theorem bits_words (n:Nat) (h:n≤1024):Ret P g false 45 [.int .i64 (n:Int)] (.int .i64 (nw n:Nat)):=by
 refine Ret.in c45 (by simp) ?_
 have e1:IntKind.i64.wrap ((n:Int) + 64)=(n:Int) + 64:=wrap_in (by omega)
 have e2:IntKind.i64.wrap ((n:Int) + 64 - 1)=(n:Int) + 63:=by rw [wrap_in (by omega)];omega
 have e3:IntKind.i64.wrap (((n:Int) + 63).tdiv 64)=(nw n:Nat):=by
  rw [Int.tdiv_eq_ediv_of_nonneg (by omega),wrap_in (by omega)]
  simp [nw]
 simp [k45,e1,e2,e3]
 exact RK.stab rfl
theorem bits_New (n:Nat) (h:n≤1024):Own P g 12 [.int .i64 (n:Int)] (.agg [.int .i64 (n:Int),.sl 1 0 0 (nw n)]) (St.ofL [.row 1 (els u64c (List.replicate (nw n) 0))]):=by
 refine Own.in [1] c12 (by simp) (by simp) ?_
 have e1:(if (1024:Int) < n then (1024:Int) else n)=n:=by rw [if_neg (by omega)]
 have e2:(if 0 < n then (n:Int) else 0)=n:=by split <;> omega
 simp [k12,e1,e2]
 refine (bits_words n h).use (n:=2) ?_ rfl ?_ <;> simp
 have hr:nw n≤room:=by simp [nw,room];omega
 have hz:List.replicate (nw n) [AV.int .u64 0]=els u64c (List.replicate (nw n) 0):=by simp [els,u64c]
 simp [hr,hz,RO]
theorem nw_le {n:Nat} (h:n≤1024):nw n≤16:=by simp [nw];omega
theorem u64shift (w k:Nat) (hw:w < 2 ^ 64) (hk:k < 64):ishift .shr .u64 (w:Int) (k:Int)=some (.int .u64 ((w >>> k:Nat):Int)):=by
 simp only [ishift]
 rw [if_neg (by omega)]
 have e0:IntKind.u64.bits=64:=rfl
 have e1:min (k:Int).toNat IntKind.u64.bits=k:=by rw [e0];omega
 rw [e1]
 congr 2
 rw [Nat.shiftRight_eq_div_pow]
 have:(2:Int) ^ k=((2 ^ k:Nat):Int):=by simp
 rw [this,Int.fdiv_eq_ediv_of_nonneg _ (Int.natCast_nonneg _)]
 simp
theorem u64_in {n:Int} (h:0≤n∧n < 18446744073709551616):IntKind.u64.wrap n=n:=by
 rw [IntKind.wrap_u64];omega
theorem bits_Sane (s:BSet) (h:s.OK):Ret P g false 62 [encB s] (.bool true):=by
 refine Ret.in c62 (by simp) ?_
 have hn:=h.n
 have hl:=h.len
 have hw:=nw_le hn
 simp [k62]
 refine Dra.auto [] mix ?_ ?_
 ·kernel_rfl
 have e0:¬ ((1024:Int) < s.n):=by omega
 simp [classes,e0]
 refine (bits_words s.n hn).b (n:=2) ?_ rfl ?_ <;> simp [hl]
 have hm:((s.n:Int).tmod 64)=((s.n % 64:Nat):Int):=by rw [Int.tmod_eq_emod_of_nonneg (by omega)];simp
 simp [hm]
 refine gua_decF (fun h1=>?_) (fun h1=>?_) <;> simp [h1,hl]
 ·have h0:s.n % 64 ≠ 0:=by omega
  have hpos:0 < nw s.n:=by simp [nw];omega
  have e1:IntKind.i64.wrap ((nw s.n:Int) - 1)=((nw s.n - 1:Nat):Int):=by rw [wrap_in (by omega)];omega
  obtain ⟨w,e2⟩:∃ w,s.ws[nw s.n - 1]?=some w:=⟨_,List.getElem?_eq_getElem (by omega)⟩
  have e3:s.ws.getLast?=some w:=by rw [List.getLast?_eq_getElem?,hl,e2]
  have e4:IntKind.u64.wrap ((s.n % 64:Nat):Int)=((s.n % 64:Nat):Int):=u64_in (by omega)
  have htop:=h.top.resolve_left h0 _ e3
  have hlt:=h.lt _ (List.mem_of_getElem? e2)
  have e5:=u64shift w (s.n % 64) hlt (by omega)
  have e6:w >>> (s.n % 64)=0:=by rw [Nat.shiftRight_eq_div_pow];exact Nat.div_eq_of_lt htop
  simp only [Int.natCast_emod,Int.cast_ofNat_Int] at e4 e5
  simp [e1,e2,pk_indexAddr1,u64c,e4,e5,e6]
  exact RK.eq (by simp) rfl
 ·exact RK.eq (by simp) rfl
theorem bits_sane (s:BSet) (h:s.OK):Ret P g false 50 [encB s] (encB s):=by
 refine Ret.in c50 (by simp) ?_
 simp [k50]
 refine (bits_Sane s h).use (n:=2) ?_ rfl ?_ <;> simp
 exact RK.aggEq rfl (by simp [AV.stab])
def padW (k:Nat) (ws:List Nat):List Nat:=ws.take k ++ List.replicate (k - ws.length) 0
theorem padW_len (k:Nat) (ws:List Nat):(padW k ws).length=k:=by simp [padW];omega
theorem bits_own (s:BSet) (n:Nat) (h:s.OK) (hn:n≤1024):Own P g 54 [encB s,.int .i64 (n:Int)] (.agg [.int .i64 (n:Int),.sl 1 0 0 (nw n)]) (St.ofL [.row 1 (els u64c (padW (nw n) s.ws))]):=by
 refine Own.in [2] c54 (by simp) (by simp) ?_
 simp [k54]
 refine (bits_New n hn).use' (n:=1) ?_ ?_ ?_ <;> simp
 refine Dra.auto [] mix ?_ ?_
 ·kernel_rfl
 simp [classes]
 refine (bits_sane s h).b (n:=2) ?_ rfl ?_ <;> simp
 simp [RO,els_take,els_drop,els_append]
 have:nw n - min s.ws.length (nw n)=nw n - s.ws.length:=by omega
 rw [padW,this]
def BSet.isB (s:BSet) (i:Int):Bool:=decide (0≤i) && decide (i < s.n)
theorem bits_is (s:BSet) (i:Int):Ret P g false 55 [encB s,.int .i64 i] (.bool (s.isB i)):=by
 refine Ret.in c55 (by simp) ?_
 simp [k55]
 refine gua_dec (fun h1=>?_) (fun h1=>?_) <;> simp [h1] <;> exact RK.eq (by simp [BSet.isB,h1]) rfl
def wIx (i:Nat):Nat:=i / 64
def wBit (i:Nat):Nat:=2 ^ (i % 64)
theorem wBit_lt (i:Nat):wBit i < 2 ^ 64:=Nat.pow_lt_pow_right (by omega) (by omega)
theorem bits_at (i:Nat) (h:i < 1024):Ret P g false 56 [.int .i64 (i:Int)] (.tuple [.int .i64 (wIx i:Nat),.int .u64 (wBit i:Nat)]):=by
 refine Ret.in c56 (by simp) ?_
 have e2:IntKind.u64.wrap ((i:Int).tmod 64)=((i % 64:Nat):Int):=by
  rw [Int.tmod_eq_emod_of_nonneg (by omega),u64_in (by omega)];simp
 have e3:ishift .shl .u64 1 ((i % 64:Nat):Int)=some (.int .u64 (wBit i:Nat)):=by
  simp only [ishift]
  rw [if_neg (by omega)]
  have e0:IntKind.u64.bits=64:=rfl
  have e1:min ((i % 64:Nat):Int).toNat IntKind.u64.bits=i % 64:=by rw [e0];omega
  rw [e1]
  congr 2
  have e4:(1:Int) * 2 ^ (i % 64)=((wBit i:Nat):Int):=by simp [wBit]
  have hlt':((wBit i:Nat):Int) < ((18446744073709551616:Nat):Int):=Int.ofNat_lt.2 (wBit_lt i)
  rw [e4,u64_in ⟨Int.natCast_nonneg _,hlt'⟩]
 have e5:IntKind.i64.wrap ((i:Int) / 64)=(wIx i:Nat):=by rw [wrap_in (by omega)];simp [wIx]
 have e6:IntKind.u64.wrap ((i:Int) % 64)=(i:Int) % 64:=u64_in (by omega)
 simp only [Int.natCast_emod,Int.cast_ofNat_Int] at e2 e3
 simp [k56,e2,e3,e5,e6]
 exact ⟨2,by simp⟩
def BSet.mem (s:BSet) (i:Nat):Bool:=(s.ws.getD (wIx i) 0).testBit (i % 64)
theorem u64and (a b:Nat) (ha:a < 2 ^ 64) (hb:b < 2 ^ 64):iand .u64 (a:Int) (b:Int)=((a &&& b:Nat):Int):=by
 have e0:IntKind.u64.bits=64:=rfl
 have h:a &&& b < 2 ^ 64:=Nat.lt_of_le_of_lt Nat.and_le_left ha
 rw [iand,e0,BitVec.ofInt_natCast,BitVec.ofInt_natCast,BitVec.toNat_and,BitVec.toNat_ofNat,BitVec.toNat_ofNat,Nat.mod_eq_of_lt ha,Nat.mod_eq_of_lt hb]
 rw [u64_in (by omega)]
theorem u64or (a b:Nat) (ha:a < 2 ^ 64) (hb:b < 2 ^ 64):ior .u64 (a:Int) (b:Int)=((a ||| b:Nat):Int):=by
 have e0:IntKind.u64.bits=64:=rfl
 have h:a ||| b < 2 ^ 64:=Nat.or_lt_two_pow ha hb
 rw [ior,e0,BitVec.ofInt_natCast,BitVec.ofInt_natCast,BitVec.toNat_or,BitVec.toNat_ofNat,BitVec.toNat_ofNat,Nat.mod_eq_of_lt ha,Nat.mod_eq_of_lt hb]
 rw [u64_in (by omega)]
def andn (a b:Nat):Nat:=(BitVec.ofNat 64 a &&& ~~~ BitVec.ofNat 64 b).toNat
theorem andn_lt (a b:Nat):andn a b < 2 ^ 64:=BitVec.isLt _
theorem andn_bit (a b i:Nat) (ha:a < 2 ^ 64):(andn a b).testBit i=(a.testBit i && !b.testBit i):=by
 simp only [andn,BitVec.toNat_and,Nat.testBit_and,BitVec.toNat_ofNat,Nat.mod_eq_of_lt ha]
 by_cases hi:i < 64
 ·rw [← BitVec.getLsbD,BitVec.getLsbD_not,BitVec.getLsbD_ofNat]
  simp [hi]
 ·have:a.testBit i=false:=Nat.testBit_lt_two_pow (Nat.lt_of_lt_of_le ha (Nat.pow_le_pow_right (by omega) (by omega)))
  simp [this]
theorem u64andNot (a b:Nat):iandNot .u64 (a:Int) (b:Int)=((andn a b:Nat):Int):=by
 have e0:IntKind.u64.bits=64:=rfl
 have h:=andn_lt a b
 rw [iandNot,e0,BitVec.ofInt_natCast,BitVec.ofInt_natCast]
 show IntKind.u64.wrap ((andn a b:Nat):Int)=_
 rw [u64_in (by omega)]
theorem wBit_bit (i j:Nat):(wBit i).testBit j=decide (i % 64=j):=by rw [wBit,Nat.testBit_two_pow]
theorem and_wBit (w k:Nat):decide (w &&& wBit k=0)=!w.testBit (k % 64):=by
 cases h:w.testBit (k % 64)
 ·have:w &&& wBit k=0:=by
   apply Nat.eq_of_testBit_eq
   intro i
   rw [Nat.testBit_and,wBit_bit]
   by_cases hk:k % 64=i
   ·subst hk;simp [h]
   ·simp [hk]
  simp [this]
 ·have:(w &&& wBit k).testBit (k % 64)=true:=by rw [Nat.testBit_and,wBit_bit];simp [h]
  have hne:w &&& wBit k ≠ 0:=by intro e;rw [e] at this;simp at this
  simp [hne]
theorem bits_Has (s:BSet) (i:Int) (h:s.OK):Ret P g false 25 [encB s,.int .i64 i] (.bool (s.isB i && s.mem i.toNat)):=by
 refine Ret.in c25 (by simp) ?_
 simp [k25]
 refine (bits_Sane s h).use (n:=2) ?_ rfl ?_ <;> simp
 refine (bits_is s i).use (n:=2) ?_ rfl ?_ <;> simp
 refine bra_ndec' (fun h1=>?_) (fun h1=>?_) <;> simp [h1]
 ·exact RK.stab rfl
 ·simp only [BSet.isB,Bool.and_eq_true,decide_eq_true_eq] at h1
  obtain ⟨k,rfl⟩:∃ k:Nat,i=k:=⟨i.toNat,by omega⟩
  have hn:=h.n
  have hk:k < s.n:=by omega
  refine (bits_at k (by omega)).use (n:=1) ?_ rfl ?_ <;> simp
  have hl:wIx k < s.ws.length:=by rw [h.len,nw,wIx];omega
  obtain ⟨w,hw⟩:∃ w,s.ws[wIx k]?=some w:=⟨_,List.getElem?_eq_getElem hl⟩
  have hlt:=h.lt w (List.mem_of_getElem? hw)
  have e2:=u64and w (wBit k) hlt (wBit_lt k)
  have e3:=and_wBit w k
  simp [pk_indexAddr1,hw,u64c,e2,e3]
  exact RK.eq (by simp [BSet.mem,hw]) rfl
theorem padW_same (s:BSet) (h:s.OK):padW (nw s.n) s.ws=s.ws:=by simp [padW,← h.len]
def BSet.at (s:BSet) (i:Nat) (f:Nat→Nat):BSet:=⟨s.n,s.ws.set (wIx i) (f (s.ws.getD (wIx i) 0))⟩
def BSet.with (s:BSet) (i:Int):BSet:=if s.isB i then s.at i.toNat (fun w=>w ||| wBit i.toNat) else s
def BSet.without (s:BSet) (i:Int):BSet:=if s.isB i then s.at i.toNat (fun w=>andn w (wBit i.toNat)) else s
theorem bits_With (s:BSet) (i:Int) (h:s.OK):Own P g 18 [encB s,.int .i64 i] (.agg [.int .i64 (s.n:Int),.sl 1 0 0 (nw s.n)]) (St.ofL [.row 1 (els u64c (s.with i).ws)]):=by
 refine Own.in [2] c18 (by simp) (by simp) ?_
 simp [k18]
 refine Dra.auto [] mix ?_ ?_
 ·kernel_rfl
 simp [classes]
 refine (bits_sane s h).b (n:=2) ?_ rfl ?_ <;> simp
 refine (bits_own s s.n h h.n).b' (n:=2) ?_ ?_ ?_ <;> simp
 have hw:padW (nw s.n) s.ws=s.ws:=padW_same s h
 have hlen:=h.len
 refine (bits_is s i).use (n:=9) ?_ rfl ?_ <;> simp [hw,readAll hlen]
 refine bra_bool (fun h1=>?_) (fun h1=>?_) <;> simp [h1]
 ·have h1':=h1
  simp only [BSet.isB,Bool.and_eq_true,decide_eq_true_eq] at h1
  obtain ⟨k,rfl⟩:∃ k:Nat,i=k:=⟨i.toNat,by omega⟩
  have hn:=h.n
  have hk:k < s.n:=by omega
  refine (bits_at k (by omega)).use (n:=1) ?_ rfl ?_ <;> simp
  have hl:wIx k < nw s.n:=by rw [nw,wIx];omega
  obtain ⟨w,hw'⟩:∃ w,s.ws[wIx k]?=some w:=⟨_,List.getElem?_eq_getElem (by omega)⟩
  have hlt:=h.lt w (List.mem_of_getElem? hw')
  have e2:=u64or w (wBit k) hlt (wBit_lt k)
  have e3:∀x:Nat,(els u64c s.ws).set (wIx k) [AV.int .u64 (x:Int)]=els u64c (s.ws.set (wIx k) x):=fun x=>els_set (e:=u64c)
  simp [pk_indexAddr2,hl,hw',u64c,e2,e3]
  simp [RO,BSet.with,h1',BSet.at,hw']
 ·simp [RO,BSet.with,h1]
theorem bits_both (a b:BSet) (ha:a.OK) (hb:b.OK):Own P g 47 [encB a,encB b] (.tuple [.agg [.int .i64 (max a.n b.n:Nat),.sl 1 0 0 (nw (max a.n b.n))],.agg [.int .i64 (max a.n b.n:Nat),.sl 1 1 0 (nw (max a.n b.n))]])
  (St.ofL [.row 1 (els u64c (padW (nw (max a.n b.n)) a.ws)),.row 1 (els u64c (padW (nw (max a.n b.n)) b.ws))]):=by
 refine Own.in [4,5] c47 (by simp) (by simp) ?_
 have hm:max a.n b.n≤1024:=Nat.max_le.2 ⟨ha.n,hb.n⟩
 have e1:(if a.n < b.n then (b.n:Int) else a.n)=(max a.n b.n:Nat):=by split <;> omega
 simp [k47]
 refine Dra.auto [] mix ?_ ?_
 ·kernel_rfl
 simp [classes]
 refine (bits_sane a ha).b (n:=9) ?_ rfl ?_ <;> simp
 refine (bits_sane b hb).b (n:=9) ?_ rfl ?_ <;> simp [e1]
 refine Dra.auto [] mix ?_ ?_
 ·kernel_rfl
 generalize max a.n b.n=m at *
 simp [classes]
 refine (bits_own a m ha hm).b' (n:=9) ?_ ?_ ?_ <;> simp
 refine (bits_own b m hb hm).b' (n:=9) ?_ ?_ ?_ <;> simp
 simp [RO]
def mergeW (f:Nat→Nat→Nat):Nat→List Nat→List Nat→List Nat
 | 0,xs,_=>xs
 | k + 1,x :: xs,y :: ys=>f x y :: mergeW f k xs ys
 | _ + 1,xs,_=>xs
theorem mergeW_len (f:Nat→Nat→Nat):∀(k:Nat) (xs ys:List Nat),(mergeW f k xs ys).length=xs.length
 | 0,_,_=>rfl
 | k + 1,[],ys=>by cases ys <;> rfl
 | k + 1,x :: xs,[]=>rfl
 | k + 1,x :: xs,y :: ys=>by simp [mergeW,mergeW_len f k xs ys]
theorem mergeW_step (f:Nat→Nat→Nat):∀(k:Nat) (xs ys:List Nat) (x y:Nat),xs[k]?=some x→ys[k]?=some y→(mergeW f k xs ys)[k]?=some x∧(mergeW f k xs ys).set k (f x y)=mergeW f (k + 1) xs ys
 | 0,x' :: xs,y' :: ys,x,y,hx,hy=>by simp at hx hy;subst hx hy;simp [mergeW]
 | k + 1,x' :: xs,y' :: ys,x,y,hx,hy=>by
  simp at hx hy
  obtain ⟨h1,h2⟩:=mergeW_step f k xs ys x y hx hy
  simp [mergeW,h1,h2]
 | 0,[],_,_,_,hx,_=>by simp at hx
 | 0,_ :: _,[],_,_,_,hy=>by simp at hy
 | k + 1,[],_,_,_,hx,_=>by simp at hx
 | k + 1,_ :: _,[],_,_,_,hy=>by simp at hy
def BSet.merge (f:Nat→Nat→Nat) (a b:BSet):BSet:=⟨max a.n b.n,mergeW f (nw (max a.n b.n)) (padW (nw (max a.n b.n)) a.ws) (padW (nw (max a.n b.n)) b.ws)⟩
theorem padW_lt {k:Nat} {ws:List Nat} (h:∀w ∈ ws,w < 2 ^ 64):∀w ∈ padW k ws,w < 2 ^ 64:=by
 intro w hw
 simp only [padW,List.mem_append,List.mem_replicate] at hw
 rcases hw with hw | ⟨_,rfl⟩
 ·exact h w (List.mem_of_mem_take hw)
 ·omega
theorem bits_Union (a b:BSet) (ha:a.OK) (hb:b.OK):Own P g 14 [encB a,encB b] (.agg [.int .i64 (max a.n b.n:Nat),.sl 1 0 0 (nw (max a.n b.n))]) (St.ofL [.row 1 (els u64c (BSet.merge (· ||| ·) a b).ws)]):=by
 refine Own.in [3] c14 (by simp) (by simp) ?_
 simp [k14]
 refine (bits_both a b ha hb).use' (n:=9) ?_ ?_ ?_ <;> simp [BSet.merge]
 have hm:max a.n b.n≤1024:=Nat.max_le.2 ⟨ha.n,hb.n⟩
 have hnw:=nw_le hm
 have la:=padW_len (nw (max a.n b.n)) a.ws
 have lb:=padW_len (nw (max a.n b.n)) b.ws
 have wa:=padW_lt (k:=nw (max a.n b.n)) ha.lt
 have wb:=padW_lt (k:=nw (max a.n b.n)) hb.lt
 have hcast:(max (a.n:Int) b.n)=((max a.n b.n:Nat):Int):=by omega
 try simp only [hcast]
 generalize max a.n b.n=m at *
 generalize padW (nw m) a.ws=xs at *
 generalize padW (nw m) b.ws=ys at *
 generalize nw m=n at *
 refine W.whileI (fun (k:Nat) F S=>k≤n∧F 4=.ptr 2 0 0∧F 5=.ptr 5 0 0∧F 16=.sl 1 4 0 n∧F 17=.int .i64 n∧F 18=.int .i64 k∧S.obj 2=some (.row 2 [[.int .i64 0,.nilsl]])∧S.obj 5=some (.row 2 [[.int .i64 m,.sl 1 3 0 n]]) ∧
   S.obj 3=some (.row 1 (els u64c (mergeW (· ||| ·) k xs ys)))∧S.obj 4=some (.row 1 (els u64c ys))) (fun k=>n - k) ?_ 0 _ _ ?_
 ·rintro k F S ⟨hk,h4,h5,h16,h17,h18,s2,s5,s3,s4⟩
  by_cases hlt:k < n
  ·simp [h18,h17,hlt]
   obtain ⟨y,hy⟩:∃ y,ys[k]?=some y:=⟨_,List.getElem?_eq_getElem (by omega)⟩
   obtain ⟨x,hx⟩:∃ x,xs[k]?=some x:=⟨_,List.getElem?_eq_getElem (by omega)⟩
   obtain ⟨g1,g2⟩:=mergeW_step (· ||| ·) k xs ys x y hx hy
   have e2:=u64or x y (wa x (List.mem_of_getElem? hx)) (wb y (List.mem_of_getElem? hy))
   have e3:∀z:Nat,(els u64c (mergeW (· ||| ·) k xs ys)).set k [AV.int .u64 (z:Int)]=els u64c ((mergeW (· ||| ·) k xs ys).set k z):=fun z=>els_set (e:=u64c)
   have e4:=wrapS k (by omega)
   simp [h16,pk_indexAddr2,hlt,s4,hy,u64c,h5,s5,s3,g1,e2,e3,g2,e4]
   exact ⟨k + 1,by omega,by omega,h4,by omega,s2,rfl⟩
  ·have:k=n:=by omega
   subst this
   simp [h18,h17,h4,h5,s2,s5,s3,RO]
 ·simp [mergeW]
theorem bits_Minus (a b:BSet) (ha:a.OK) (hb:b.OK):Own P g 19 [encB a,encB b] (.agg [.int .i64 (max a.n b.n:Nat),.sl 1 0 0 (nw (max a.n b.n))]) (St.ofL [.row 1 (els u64c (BSet.merge andn a b).ws)]):=by
 refine Own.in [3] c19 (by simp) (by simp) ?_
 simp [k19]
 refine (bits_both a b ha hb).use' (n:=9) ?_ ?_ ?_ <;> simp [BSet.merge]
 have hm:max a.n b.n≤1024:=Nat.max_le.2 ⟨ha.n,hb.n⟩
 have hnw:=nw_le hm
 have la:=padW_len (nw (max a.n b.n)) a.ws
 have lb:=padW_len (nw (max a.n b.n)) b.ws
 have wa:=padW_lt (k:=nw (max a.n b.n)) ha.lt
 have wb:=padW_lt (k:=nw (max a.n b.n)) hb.lt
 have hcast:(max (a.n:Int) b.n)=((max a.n b.n:Nat):Int):=by omega
 try simp only [hcast]
 generalize max a.n b.n=m at *
 generalize padW (nw m) a.ws=xs at *
 generalize padW (nw m) b.ws=ys at *
 generalize nw m=n at *
 refine W.whileI (fun (k:Nat) F S=>k≤n∧F 4=.ptr 2 0 0∧F 5=.ptr 5 0 0∧F 16=.sl 1 4 0 n∧F 17=.int .i64 n∧F 18=.int .i64 k∧S.obj 2=some (.row 2 [[.int .i64 0,.nilsl]])∧S.obj 5=some (.row 2 [[.int .i64 m,.sl 1 3 0 n]]) ∧
   S.obj 3=some (.row 1 (els u64c (mergeW andn k xs ys)))∧S.obj 4=some (.row 1 (els u64c ys))) (fun k=>n - k) ?_ 0 _ _ ?_
 ·rintro k F S ⟨hk,h4,h5,h16,h17,h18,s2,s5,s3,s4⟩
  by_cases hlt:k < n
  ·simp [h18,h17,hlt]
   obtain ⟨y,hy⟩:∃ y,ys[k]?=some y:=⟨_,List.getElem?_eq_getElem (by omega)⟩
   obtain ⟨x,hx⟩:∃ x,xs[k]?=some x:=⟨_,List.getElem?_eq_getElem (by omega)⟩
   obtain ⟨g1,g2⟩:=mergeW_step andn k xs ys x y hx hy
   have e2:=u64andNot x y
   have e3:∀z:Nat,(els u64c (mergeW andn k xs ys)).set k [AV.int .u64 (z:Int)]=els u64c ((mergeW andn k xs ys).set k z):=fun z=>els_set (e:=u64c)
   have e4:=wrapS k (by omega)
   simp [h16,pk_indexAddr2,hlt,s4,hy,u64c,h5,s5,s3,g1,e2,e3,g2,e4]
   exact ⟨k + 1,by omega,by omega,h4,by omega,s2,rfl⟩
  ·have:k=n:=by omega
   subst this
   simp [h18,h17,h4,h5,s2,s5,s3,RO]
 ·simp [mergeW]
theorem slices_EqualU (xs ys:List Nat) (hl:xs.length < 2 ^ 40):Ret P g false 51 [.fsl 1 (els u64c xs),.fsl 1 (els u64c ys)] (.bool (decide (xs=ys))):=by
 refine Ret.in c51 (by simp) ?_
 simp [k51]
 by_cases hlen:xs.length=ys.length
 ·simp [hlen]
  refine W.whileI (fun (k:Nat) F S=>k≤ys.length∧xs.take k=ys.take k∧F 0=.fsl 1 (els u64c xs)∧F 1=.fsl 1 (els u64c ys)∧F 12=.int .i64 ys.length∧F 13=.int .i64 k) (fun k=>ys.length - k) ?_ 0 _ _ ?_
  ·rintro k F S ⟨hk,hp,h0,h1,h12,h13⟩
   by_cases hlt:k < ys.length
   ·simp [h12,h13,hlt]
    refine Dra.auto [] mix ?_ ?_
    ·kernel_rfl
    obtain ⟨y,hy⟩:∃ y,ys[k]?=some y:=⟨_,List.getElem?_eq_getElem (by omega)⟩
    obtain ⟨x,hx⟩:∃ x,xs[k]?=some x:=⟨_,List.getElem?_eq_getElem (by omega)⟩
    have e4:=wrapS k (by omega)
    simp [classes,h0,h1,h12,h13,pk_indexAddr1,hx,hy,u64c]
    refine bra_ndec (fun hxy=>?_) (fun hxy=>?_)
    ·simp [hxy]
     refine RK.eq ?_ rfl
     have:xs ≠ ys:=by rintro rfl;rw [hx] at hy;simp at hy;exact hxy (by omega)
     simp [this]
    ·simp [hxy,e4,h13,h12,h0,h1]
     refine ⟨k + 1,by omega,by omega,?_,by omega⟩
     rw [List.take_add_one,List.take_add_one,hp,hx,hy]
     have:x=y:=by omega
     subst this;rfl
   ·have:k=ys.length:=by omega
    subst this
    simp [h12,h13]
    refine RK.eq ?_ rfl
    rw [List.take_length,← hlen,List.take_length] at hp
    simp [hp]
  ·simp
 ·have hne:xs ≠ ys:=fun h=>hlen (by rw [h])
  have hlen':¬ ((xs.length:Int)=ys.length):=by omega
  simp [hlen']
  exact RK.eq (by simp [hne]) rfl
theorem nwlen {s:BSet} (h:s.OK):s.ws.length < 2 ^ 40:=by have:=nw_le h.n;rw [h.len];omega
theorem bits_Same (a b:BSet) (ha:a.OK) (hb:b.OK):Ret P g false 16 [encB a,encB b] (.bool (decide (a=b))):=by
 refine Ret.in c16 (by simp) ?_
 simp [k16]
 refine Dra.auto [] mix ?_ ?_
 ·kernel_rfl
 simp [classes]
 refine (bits_sane a ha).b (n:=9) ?_ rfl ?_ <;> simp
 refine (bits_sane b hb).b (n:=9) ?_ rfl ?_ <;> simp
 have hab:(a=b) ↔ ((a.n:Int)=b.n∧a.ws=b.ws):=by cases a;cases b;simp;omega
 refine gua_dec (fun h1=>?_) (fun h1=>?_) <;> simp [h1]
 ·refine (slices_EqualU a.ws b.ws (nwlen ha)).use (n:=9) ?_ rfl ?_ <;> simp
  exact RK.eq (by simp [hab,h1]) rfl
 ·exact RK.eq (by simp [hab,h1]) rfl
def BSet.ofL (n:Nat) (l:List Int):BSet:=l.foldl BSet.with (BSet.new n)
theorem BSet.with_n (s:BSet) (i:Int):(s.with i).n=s.n:=by unfold BSet.with;split <;> rfl
theorem BSet.with_len (s:BSet) (i:Int):(s.with i).ws.length=s.ws.length:=by unfold BSet.with;split <;> simp [BSet.at]
theorem BSet.with_lt {s:BSet} {i:Int} (h:∀w ∈ s.ws,w < 2 ^ 64):∀w ∈ (s.with i).ws,w < 2 ^ 64:=by
 unfold BSet.with
 split
 ·intro w hw
  simp only [BSet.at] at hw
  rcases List.mem_or_eq_of_mem_set hw with hw | rfl
  ·exact h w hw
  ·refine Nat.or_lt_two_pow ?_ (wBit_lt _)
   rw [List.getD_eq_getElem?_getD]
   cases e:s.ws[wIx i.toNat]? with
   | none=>simp
   | some w=>simpa using h w (List.mem_of_getElem? e)
 ·exact h
theorem BSet.fold_n (l:List Int):∀s:BSet,(l.foldl BSet.with s).n=s.n∧(l.foldl BSet.with s).ws.length=s.ws.length∧((∀w ∈ s.ws,w < 2 ^ 64)→∀w ∈ (l.foldl BSet.with s).ws,w < 2 ^ 64):=by
 induction l with
 | nil=>intro s;exact ⟨rfl,rfl,fun h=>h⟩
 | cons x l ih =>
  intro s
  obtain ⟨h1,h2,h3⟩:=ih (s.with x)
  exact ⟨h1.trans (s.with_n x),h2.trans (s.with_len x),fun h=>h3 (BSet.with_lt h)⟩
theorem foldl_take_succ {α β:Type} (f:β→α→β) (b:β) (l:List α) (k:Nat) (x:α) (h:l[k]?=some x):(l.take (k + 1)).foldl f b=f ((l.take k).foldl f b) x:=by
 rw [List.take_add_one,h];simp [List.foldl_append]
theorem bits_Of (n:Nat) (l:List Int) (v:AV) (hv:FSl intc 1 v l) (hn:n≤1024) (hl:l.length < 2 ^ 40):Own P g 20 [.int .i64 (n:Int),v] (.agg [.int .i64 (n:Int),.sl 1 0 0 (nw n)]) (St.ofL [.row 1 (els u64c (BSet.ofL n l).ws)]):=by
 refine Own.in [1] c20 (by simp) (by simp) ?_
 simp [k20]
 refine (bits_New n hn).use' (n:=9) ?_ ?_ ?_ <;> simp [hv.len]
 refine W.whileI (fun (k:Nat) F S=>k≤l.length∧F 4=.ptr 0 0 0∧F 5=.ptr 2 0 0∧F 12=v∧F 13=.int .i64 l.length∧F 14=.int .i64 k∧S.obj 0=some (.row 2 [[.int .i64 0,.nilsl]])∧S.obj 2=some (.row 2 [[.int .i64 n,.sl 1 1 0 (nw n)]]) ∧
   S.obj 1=some (.row 1 (els u64c ((l.take k).foldl BSet.with (BSet.new n)).ws))) (fun k=>l.length - k) ?_ 0 _ _ ?_
 ·rintro k F S ⟨hk,h4,h5,h12,h13,h14,s0,s2,s1⟩
  by_cases hlt:k < l.length
  ·simp [h13,h14,hlt]
   obtain ⟨x,hx⟩:∃ x,l[k]?=some x:=⟨_,List.getElem?_eq_getElem hlt⟩
   have hst:=foldl_take_succ BSet.with (BSet.new n) l k x hx
   obtain ⟨f1,f2,f3⟩:=BSet.fold_n (l.take k) (BSet.new n)
   have f3:=f3 (by simp [BSet.new])
   have f2:((l.take k).foldl BSet.with (BSet.new n)).ws.length=nw n:=by rw [f2];simp [BSet.new]
   have f1:((l.take k).foldl BSet.with (BSet.new n)).n=n:=f1
   generalize (l.take k).foldl BSet.with (BSet.new n)=s at *
   have e4:=wrapS k (by omega)
   simp [h12,h14,hv.idx hx,intc,h5,s2]
   have hb:=bits_is s x (g:=g)
   simp only [encB,f1] at hb
   refine hb.use (n:=9) ?_ rfl ?_ <;> simp [s1,readAll f2]
   have fin:∀(S':St) (F':AFrame) (t:BSet),S'.obj 0=some (.row 2 [[.int .i64 0,.nilsl]])→S'.obj 2=some (.row 2 [[.int .i64 n,.sl 1 1 0 (nw n)]])→S'.obj 1=some (.row 1 (els u64c t.ws))→t=s.with x→True:=fun _ _ _ _ _ _ _=>trivial
   refine bra_bool (fun h1=>?_) (fun h1=>?_) <;> simp [h1]
   ·have h1':=h1
    simp only [BSet.isB,Bool.and_eq_true,decide_eq_true_eq] at h1
    obtain ⟨j,rfl⟩:∃ j:Nat,x=j:=⟨x.toNat,by omega⟩
    refine (bits_at j (by omega)).use (n:=1) ?_ rfl ?_ <;> simp
    have hw:wIx j < nw n:=by rw [nw,wIx];omega
    obtain ⟨w,hw'⟩:∃ w,s.ws[wIx j]?=some w:=⟨_,List.getElem?_eq_getElem (by omega)⟩
    have hlt':=f3 w (List.mem_of_getElem? hw')
    have e2:=u64or w (wBit j) hlt' (wBit_lt j)
    have e3:∀x:Nat,(els u64c s.ws).set (wIx j) [AV.int .u64 (x:Int)]=els u64c (s.ws.set (wIx j) x):=fun x=>els_set (e:=u64c)
    have e5:(s.with (j:Int)).ws=s.ws.set (wIx j) (w ||| wBit j):=by simp [BSet.with,h1',BSet.at,hw']
    simp [h5,s2,s1,pk_indexAddr2,hw,hw',u64c,e2,e3,h14,e4,h12,h13,h4,s0]
    exact ⟨k + 1,by omega,by omega,by omega,by rw [hst,e5]⟩
   ·have e5:s.with x=s:=by simp [BSet.with,h1]
    simp [h14,e4,h12,h13,h4,h5,s0,s1,s2]
    exact ⟨k + 1,by omega,by omega,by omega,by rw [hst,e5]⟩
  ·have:k=l.length:=by omega
   subst this
   simp [h13,h14,h4,h5,s0,s2,s1,RO,BSet.ofL]
 ·simp [BSet.new]
end Go.Proofs.YtbhkamemheaajaaGreatDoor.Vm
