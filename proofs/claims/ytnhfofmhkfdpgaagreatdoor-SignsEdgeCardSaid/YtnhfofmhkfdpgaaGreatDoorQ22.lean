/- A part of the proof: Gd Ge Gf Gg Gi Gj Gk Gl. -/
import Derived.KernelRfl
import Derived.Test.YtnhfofmhkfdpgaaGreatDoorQ21
set_option linter.unusedVariables false
set_option linter.unusedSimpArgs false
set_option linter.constructorNameAsVariable false
namespace Go.Proofs.YtnhfofmhkfdpgaaGreatDoor.Vm
set_option maxRecDepth 100000
open Go Go.RowKit
variable {N:Nat} {g:Glob}
structure RowsV (B:Nat) (S:St) (oo:Nat) (es:List (List AV)) (L:List (List Int)):Prop where
 lt:oo < B
 le:B<=S.next
 obj:S.obj oo=some (.row 1 es)
 len:es.length=L.length
 row:∀(k:Nat) (l:List Int),L[k]?=some l->∃ v,es[k]?=some [v]/\((v=.nilsl/\l=[]) \/ ∃ o,v=.sl 1 o 0 l.length/\B<=o/\o < S.next/\S.obj o=some (.row 1 (els intc l))/\l ≠ [])
 inj:∀(j k o a b:Nat),es[j]?=some [.sl 1 o 0 a]->es[k]?=some [.sl 1 o 0 b]->j=k
theorem RowsV.new {B:Nat} {S:St} {oo:Nat} {es:List (List AV)} {L:List (List Int)} (h:RowsV B S oo es L) (x:AObj):RowsV B (S.new x) oo es L:=by
 have h1:=h.lt
 have h2:=h.le
 refine ⟨h1,by simp;omega,by simp [show ¬ oo=S.next by omega,h.obj],h.len,fun k l hl=>?_,h.inj⟩
 obtain ⟨v,hv,hc⟩:=h.row k l hl
 refine ⟨v,hv,?_⟩
 rcases hc with hc | ⟨o,rfl,a1,a2,a3,a4⟩
 ·exact .inl hc
 ·exact .inr ⟨o,rfl,a1,by simp;omega,by simp [show ¬ o=S.next by omega,a3],a4⟩
theorem RowsV.other {B:Nat} {S S':St} {oo:Nat} {es:List (List AV)} {L:List (List Int)} (h:RowsV B S oo es L) (hn:S.next<=S'.next) (ho:S'.obj oo=S.obj oo) (hq:∀q,B<=q->q < S.next->S'.obj q=S.obj q):RowsV B S' oo es L:=by
 refine ⟨h.lt,Nat.le_trans h.le hn,by rw [ho];exact h.obj,h.len,fun k l hl=>?_,h.inj⟩
 obtain ⟨v,hv,hc⟩:=h.row k l hl
 refine ⟨v,hv,?_⟩
 rcases hc with hc | ⟨o,rfl,a1,a2,a3,a4⟩
 ·exact .inl hc
 ·exact .inr ⟨o,rfl,a1,by omega,by rw [hq o a1 a2];exact a3,a4⟩
theorem RowsV.app {B:Nat} {S:St} {oo:Nat} {es:List (List AV)} {L:List (List Int)} {b:Nat} {v:AV} {l:List Int} {a:Int} (h:RowsV B S oo es L) (hv:es[b]?=some [v]) (hl:L[b]?=some l) (hr:l.length + 1<=room) :
  ∃ S',appV 1 v S [[.int .i64 a]]=some (.sl 1 S.next 0 (l.length + 1),S')/\S'.next=S.next + 1/\(∀q,q < B->S'.obj q=S.obj q)/\RowsV B (S'.set oo (.row 1 (es.set b [.sl 1 S.next 0 (l.length + 1)]))) oo (es.set b [.sl 1 S.next 0 (l.length + 1)]) (L.set b (l ++ [a])):=by
 have hoo:=h.lt
 have hle:=h.le
 have hr0:¬ room=0:=by simp [room]
 have hblt:b < es.length:=(xgS hv).1
 have old:∀(k o c:Nat),es[k]?=some [.sl 1 o 0 c]->B<=o/\o < S.next:=by
  intro k o c hk
  obtain ⟨m,hm⟩:∃ m,L[k]?=some m:=⟨_,xgG (by rw [<- h.len];exact (xgS hk).1)⟩
  obtain ⟨u,hu,hc⟩:=h.row k m hm
  rw [hk] at hu;cases hu
  rcases hc with ⟨h1,_⟩ | ⟨o',h1,h2,h3,_⟩
  ·cases h1
  ·cases h1;exact ⟨h2,h3⟩
 have key:∀S':St,S'.next=S.next + 1->S'.obj S.next=some (.row 1 (els intc (l ++ [a])))->(∀q,q ≠ S.next->(∀c,v ≠ .sl 1 q 0 c)->S'.obj q=S.obj q) ->
   (∀q,q < B->S'.obj q=S.obj q)/\RowsV B (S'.set oo (.row 1 (es.set b [.sl 1 S.next 0 (l.length + 1)]))) oo (es.set b [.sl 1 S.next 0 (l.length + 1)]) (L.set b (l ++ [a])):=by
  intro S' hn hnew hold
  refine ⟨fun q hq=>hold q (by omega) fun c e=>?_,hoo,by simp;omega,by simp,by simp [h.len],?_,?_⟩
  ·subst e
   have:=old b q c hv
   omega
  ·intro k m hm
   by_cases hk:k=b
   ·subst hk
    rw [List.getElem?_set_self (by rw [<- h.len];exact hblt)] at hm
    cases hm
    exact ⟨_,by rw [List.getElem?_set_self hblt],.inr ⟨S.next,by simp,hle,by simp;omega,by simp [show ¬ S.next=oo by omega,hnew],by simp⟩⟩
   ·rw [List.getElem?_set_ne (Ne.symm hk)] at hm
    obtain ⟨u,hu,hc⟩:=h.row k m hm
    refine ⟨u,by rw [List.getElem?_set_ne (Ne.symm hk)];exact hu,?_⟩
    rcases hc with hc | ⟨o,rfl,a1,a2,a3,a4⟩
    ·exact .inl hc
    ·refine .inr ⟨o,rfl,a1,by simp;omega,?_,a4⟩
     simp [show ¬ o=oo by omega]
     rw [hold o (by omega) fun c e=>hk ?_]
     ·exact a3
     ·subst e
      exact h.inj k b o _ _ hu hv
  ·intro j k o c d hj hk
   by_cases hjb:j=b
   ·by_cases hkb:k=b
    ·rw [hjb,hkb]
    ·rw [hjb,List.getElem?_set_self hblt] at hj
     rw [List.getElem?_set_ne (Ne.symm hkb)] at hk
     cases hj
     have:=old k _ _ hk
     omega
   ·rw [List.getElem?_set_ne (Ne.symm hjb)] at hj
    by_cases hkb:k=b
    ·rw [hkb,List.getElem?_set_self hblt] at hk
     cases hk
     have:=old j _ _ hj
     omega
    ·rw [List.getElem?_set_ne (Ne.symm hkb)] at hk
     exact h.inj j k o c d hj hk
 obtain ⟨v1,hv1,hc⟩:=h.row b l hl
 rw [hv] at hv1;cases hv1
 rcases hc with ⟨rfl,rfl⟩ | ⟨o,rfl,a1,a2,a3,a4⟩
 ·refine ⟨S.new (.row 1 [[.int .i64 a]]),by simp [hr0],by simp,?_⟩
  exact key _ (by simp) (by simp [els,intc]) fun q hq _=>by simp [hq]
 ·refine ⟨(S.drop o).new (.row 1 (els intc l ++ [[.int .i64 a]])),by simp [hr0,a3,hr];rw [List.take_of_length_le (by simp)],by simp,?_⟩
  refine key _ (by simp) (by simp [els,intc]) fun q hq hne=>?_
  have:¬ q=o:=fun e=>hne _ (by rw [e])
  simp [hq,this]
theorem RowsV.start {S:St} (h:S.next < S.next + 1) (n:Nat):RowsV (S.next + 1) (S.new (.row 1 (List.replicate n [.nilsl]))) S.next (List.replicate n [.nilsl]) (List.replicate n []):=by
 refine ⟨h,by simp,by simp,by simp,fun k l hl=>⟨.nilsl,?_,.inl ⟨rfl,(List.mem_replicate.1 (xmG hl)).2⟩⟩,fun j k o a b hj=>?_⟩
 ·have:=(xgS hl).1
  simp at this
  rw [List.getElem?_replicate,if_pos this]
 ·have:=(List.mem_replicate.1 (xmG hj)).2
  simp at this
theorem RowsV.pict {B:Nat} {S:St} {oo:Nat} {es:List (List AV)} {L:List (List Int)} {m:Nat} (h:RowsV B S oo es L):Vm.pict S [] (m + 3) (.sl 1 oo 0 L.length)=some (.fsl 1 (els (fun l=>[encF intc 1 l]) L)):=by
 refine xAr h.obj h.len (by simp) fun k e he=>?_
 have hlt:=(xgS he).1
 obtain ⟨l,hl⟩:∃ l,L[k]?=some l:=⟨_,xgG (by rw [<- h.len];exact hlt)⟩
 obtain ⟨v,hv,hc⟩:=h.row k l hl
 rw [hv] at he;cases he
 have:Vm.pict S [] (m + 2) v=some (encF intc 1 l):=by
  rcases hc with ⟨rfl,rfl⟩ | ⟨o,rfl,_,_,a3,a4⟩
  ·simp [encF]
  ·exact Has.pict (e:=intc) (.inr ⟨o,rfl,a3,a4⟩)
 simp [mapOpt,this,els,hl]
theorem RowsV.idx {B:Nat} {S:St} {oo:Nat} {es:List (List AV)} {L:List (List Int)} (h:RowsV B S oo es L) {k:Nat} (hk:k < L.length):∃ v l,es[k]?=some [v]/\L[k]?=some l/\v.one=true:=by
 obtain ⟨l,hl⟩:∃ l,L[k]?=some l:=⟨_,xgG hk⟩
 obtain ⟨v,hv,hc⟩:=h.row k l hl
 refine ⟨v,l,hv,hl,?_⟩
 rcases hc with ⟨rfl,_⟩ | ⟨o,rfl,_⟩ <;> rfl
theorem RowsV.news {B:Nat} {S:St} {oo:Nat} {es:List (List AV)} {L:List (List Int)} (h:RowsV B S oo es L):RowsV B S.news oo es L:=by
 refine ⟨h.lt,h.le,?_,h.len,fun k l hl=>?_,h.inj⟩
 ·rw [xBS,h.obj]
  have:(AObj.row 1 es).young=true:=by
   show youngss _=true
   rw [xAM]
   intro x hx
   rw [List.mem_flatten] at hx
   obtain ⟨e,he,hx⟩:=hx
   obtain ⟨k,hk⟩:=List.getElem?_of_mem he
   have hlt:=(xgS hk).1
   obtain ⟨v,hv,hc⟩:=h.row k (L[k]'(by rw [<- h.len];exact hlt)) (xgG _)
   rw [hv] at hk;cases hk
   simp at hx;subst hx
   rcases hc with ⟨rfl,_⟩ | ⟨o,rfl,_⟩ <;> rfl
  simp [Option.filter,this]
 ·obtain ⟨v,hv,hc⟩:=h.row k l hl
  refine ⟨v,hv,?_⟩
  rcases hc with hc | ⟨o,h1,h2,h3,h4,h5⟩
  ·exact .inl hc
  ·exact .inr ⟨o,h1,h2,h3,xCz h4,h5⟩
structure Turned (C L:List (List Int)):Prop where
 len:L.length=C.length
 sub:∀l ∈ L,∀x ∈ l,0<=x/\x < C.length
 short:∀l ∈ L,l.length<=C.length * 64
 all:∀(a b:Nat) (l:List Int),C[a]?=some l->(b:Int) ∈ l->∃ m,L[b]?=some m/\(a:Int) ∈ m
theorem xAT (n:Nat) (l:List Int):(cleanL n l).length<=l.length:=by
 have h1:=xDP (sorted (l.filter (inGr n))) (sorted (l.filter (inGr n))).length
 rw [List.take_length,xAH] at h1
 have h2:=List.length_filter_le (inGr n) l
 have h3:(cleanL n l).length<=(l.filter (inGr n)).length:=h1
 omega
theorem Turned.grow {L:List (List Int)} {b:Nat} {m:List Int} {x:Int} {B:Nat} (hb:L[b]?=some m) :
  (∀(k:Nat) (l:List Int),L[k]?=some l->∃ l',(L.set b (m ++ [x]))[k]?=some l'/\∀y ∈ l,y ∈ l')/\(∃ l',(L.set b (m ++ [x]))[b]?=some l'/\x ∈ l')/\(∀l ∈ L.set b (m ++ [x]),(∀y ∈ l,y=x \/ ∃ l0 ∈ L,y ∈ l0)/\((∀l ∈ L,l.length<=B)->l.length<=B + 1)):=by
 have hlt:=(xgS hb).1
 refine ⟨fun k l hk=>?_,⟨_,List.getElem?_set_self hlt,by simp⟩,fun l hl=>?_⟩
 ·by_cases h:k=b
  ·subst h
   rw [hb] at hk;cases hk
   exact ⟨_,List.getElem?_set_self hlt,fun y hy=>by simp [hy]⟩
  ·exact ⟨l,by rw [List.getElem?_set_ne (Ne.symm h)];exact hk,fun y hy=>hy⟩
 ·rcases List.mem_or_eq_of_mem_set hl with h | rfl
  ·exact ⟨fun y hy=>.inr ⟨l,h,hy⟩,fun hB=>by have:=hB l h;omega⟩
  ·refine ⟨fun y hy=>?_,fun hB=>?_⟩
   ·rw [List.mem_append,List.mem_singleton] at hy
    rcases hy with hy | rfl
    ·exact .inr ⟨m,xmG hb,hy⟩
    ·exact .inl rfl
   ·have:=hB m (xmG hb)
    simp;omega
theorem xFs {yf v:AV} {o:Nat} {l:List Int} {S:St} {K:AV->St->Prop} (hv:FSl intc 1 v l) (hl:l.length < 2 ^ 40) (Inv:Nat->St->Prop) (h0:Inv 0 S)
  (ho:∀k S',Inv k S'->S'.obj o=some (.row 1 [[v]]))
  (hst:∀(k:Nat) (x:Int) (S':St),k < l.length->l[l.length - 1 - k]?=some x->Inv k S'->∀K':AV->St->Prop,(∀S'',Inv (k + 1) S''->K' (.bool true) S'')->CalV P g yf [.int .i64 ((l.length - 1 - k:Nat):Int),.int .i64 x] S' K')
  (hk:∀S',Inv l.length S'->K (.tuple []) S'):Cal P g 226 [yf,.ptr o 0 0] S K:=by
 refine Cal.inF (by kernel_rfl) ?_
 have e0:IntKind.i64.wrap ((l.length:Int) - 1)=(l.length:Int) - 1:=xAa (by omega)
 conv=>arg 3;reduce
 simp [ho 0 S h0,hv.len,e0]
 refine W.whileI (fun (k:Nat) F S'=>k<=l.length/\F 0=yf/\F 1=.ptr o 0 0/\F 3=.int .i64 ((l.length:Int) - 1 - k)/\Inv k S') (fun k=>l.length - k) ?_ 0 _ _ ?_
 ·rintro k F S' ⟨hk',f0,f1,f3,hi⟩
  by_cases hlt:k < l.length
  ·obtain ⟨x,hx⟩:∃ x,l[l.length - 1 - k]?=some x:=⟨_,xgG (by omega)⟩
   have e1:(l.length:Int) - 1 - k=((l.length - 1 - k:Nat):Int):=by omega
   have e2:IntKind.i64.wrap (((l.length - 1 - k:Nat):Int) - 1)=(l.length:Int) - 1 - (k + 1:Nat):=by rw [xAa (by omega)];omega
   rw [e1] at f3
   simp [f0,f1,f3,ho k S' hi,hv.idx hx,intc]
   refine hst k x S' hlt hx hi _ ?_
   intro S'' hi'
   simp [f3,e2,f0,f1]
   exact ⟨k + 1,by omega,by omega,by omega,hi'⟩
  ·have:k=l.length:=by omega
   subst this
   have e1:(l.length:Int) - 1 - l.length=-1:=by omega
   rw [e1] at f3
   simp [f3]
   exact hk S' hi
 ·simp
  exact h0
theorem xDG {v:AV} {S:St} {K:AV->St->Prop} (hc:v.cells=[v]) (hk:K (.func (.func 226) [] [.ptr S.next 0 0]) (S.new (.row 1 [[v]]))):Cal P g 172 [v] S K:=by
 refine Cal.inF (by kernel_rfl) ?_
 conv=>arg 3;reduce
 simp [hc]
 exact hk
theorem xJy (x:Int):Ret P g false 242 [.int .i64 x] (.bool false):=by
 refine Ret.inF (by kernel_rfl) ?_
 conv=>arg 3;reduce
 simp
 exact RK.stab rfl
def cmpInt (a b:Int):Int:=if a < b then -1 else if b < a then 1 else 0
theorem xKR (a b:Int):Ret P g false 232 [.int .i64 a,.int .i64 b] (.int .i64 (cmpInt a b)):=by
 refine Ret.inF (by kernel_rfl) ?_
 conv=>arg 3;reduce
 simp
 refine (xJy a).use (n:=9) ?_ rfl ?_ <;> simp
 refine (xJy b).use (n:=9) ?_ rfl ?_ <;> simp
 by_cases h1:a < b
 ·simp [h1,cmpInt]
  exact RK.stab rfl
 ·by_cases h2:b < a
  ·simp [h1,h2,cmpInt]
   exact RK.stab rfl
  ·simp [h1,h2,cmpInt]
   exact RK.stab rfl
def cmpL:List Int->List Int->Int
 | [],[]=>0
 | [],_ :: _=>-1
 | _ :: _,[]=>1
 | a :: l,b :: m=>if cmpInt a b ≠ 0 then cmpInt a b else cmpL l m
theorem xG5 {v w:AV} {l m:List Int} (hv:FSl intc 1 v l) (hw:FSl intc 1 w m) (hl:l.length < 2 ^ 40):Ret P g false 178 [v,w] (.int .i64 (cmpL l m)):=by
 refine Ret.inF (by kernel_rfl) ?_
 conv=>arg 3;reduce
 simp [hv.len,hw.len]
 refine W.whileI (fun (k:Nat) F S'=>k<=l.length/\k<=m.length/\cmpL l m=cmpL (l.drop k) (m.drop k)/\F 0=v/\F 1=w/\F 9=v/\F 10=.int .i64 l.length/\F 11=.int .i64 k) (fun k=>l.length - k) ?_ 0 _ _ ?_
 ·rintro k F S' ⟨hk1,hk2,he,h0,h1,h9,h10,h11⟩
  by_cases hlt:k < l.length
  ·obtain ⟨x,hx⟩:∃ x,l[k]?=some x:=⟨_,xgG hlt⟩
   have e4:=wrapS k (by omega)
   have d1:l.drop k=x :: l.drop (k + 1):=by
    obtain ⟨h,h'⟩:=xgS hx
    rw [List.drop_eq_getElem_cons h,h']
   by_cases hlt2:k < m.length
   ·obtain ⟨y,hy⟩:∃ y,m[k]?=some y:=⟨_,xgG hlt2⟩
    have d2:m.drop k=y :: m.drop (k + 1):=by
     obtain ⟨h,h'⟩:=xgS hy
     rw [List.drop_eq_getElem_cons h,h']
    rw [d1,d2,cmpL] at he
    simp [h10,h11,hlt]
    simp [h0,h1,h9,h11,hv.idx hx,hw.idx hy,intc,hw.len,show ¬ (m.length<=k) by omega]
    refine (xKR x y).use (n:=9) ?_ rfl ?_ <;> simp
    by_cases hc:cmpInt x y=0
    ·rw [if_neg (by simp [hc])] at he
     simp [hc,h0,h1,h9,h10,h11,e4]
     exact ⟨k + 1,by omega,by omega,by omega,he,by omega⟩
    ·rw [if_pos hc] at he
     simp [hc]
     rw [he]
     exact RK.stab rfl
   ·have hk:m.drop k=[]:=List.drop_eq_nil_of_le (by omega)
    rw [d1,hk,cmpL] at he
    simp [h10,h11,hlt]
    simp [h0,h1,h9,h11,hv.idx hx,intc,hw.len,show (m.length<=k) by omega]
    rw [he]
    exact RK.stab rfl
  ·have hk:l.drop k=[]:=List.drop_eq_nil_of_le (by omega)
   have:k=l.length:=by omega
   subst this
   rw [hk] at he
   simp [h10,h11,h0,h1,hv.len,hw.len]
   by_cases hlt2:l.length < m.length
   ·obtain ⟨y,hy⟩:∃ y,m[l.length]?=some y:=⟨_,xgG hlt2⟩
    have d2:m.drop l.length=y :: m.drop (l.length + 1):=by
     obtain ⟨h,h'⟩:=xgS hy
     rw [List.drop_eq_getElem_cons h,h']
    rw [d2,cmpL] at he
    simp [hlt2]
    rw [he]
    exact RK.stab rfl
   ·have hk:m.drop l.length=[]:=List.drop_eq_nil_of_le (by omega)
    rw [hk,cmpL] at he
    simp [hlt2]
    rw [he]
    exact RK.stab rfl
 ·simp
def keyc (k:Int × Int):List AV:=[.int .i64 k.1,.int .i64 k.2]
def cmpKey (a b:Int × Int):Int:=if a=b then 0 else cmpL [a.1,a.2] [b.1,b.2]
theorem xDH {a b kb ko:Nat} {ks:List (Int × Int)} {ka kb':Int × Int} {S:St} {K:AV->St->Prop} (h1:S.obj kb=some (.row 1 [[.sl 2 ko 0 ks.length]])) (h2:S.obj ko=some (.row 2 (els keyc ks))) (ha:ks[a]?=some ka) (hb:ks[b]?=some kb')
  (hk:K (.int .i64 (cmpKey ka kb')) S):Cal P g 177 [.int .i64 (a:Int),.int .i64 (b:Int),.ptr kb 0 0] S K:=by
 refine Cal.inF (by kernel_rfl) ?_
 have hla:=(xgS ha).1
 have hlb:=(xgS hb).1
 conv=>arg 3;reduce
 simp
 refine Dra.auto [] mix ?_ ?_
 ·kernel_rfl
 simp [classes,h1,h2,ha,hb,xAd hla,xAd hlb,keyc]
 have hca:FSl intc 1 (.fsl 1 [[.int .i64 ka.1],[.int .i64 ka.2]]) [ka.1,ka.2]:=.inl rfl
 have hcb:FSl intc 1 (.fsl 1 [[.int .i64 kb'.1],[.int .i64 kb'.2]]) [kb'.1,kb'.2]:=.inl rfl
 refine xQB (fun he=>?_) (fun he=>?_)
 ·have he':ka=kb':=by
   simp only [Bool.and_eq_true,beq_iff_eq] at he
   exact Prod.ext he.1 he.2
  simp [cmpKey,he'] at hk
  simp
  exact hk
 ·have he':¬ ka=kb':=by
   rintro rfl
   simp at he
  simp [cmpKey,he'] at hk
  simp
  refine Dra.auto [] mix ?_ ?_
  ·kernel_rfl
  simp [classes,h1,h2,ha,hb,xAd hla,xAd hlb,keyc]
  refine (xG5 hca hcb (by simp)).b (n:=9) ?_ rfl ?_ <;> simp [h1,h2,ha,hb,keyc]
  exact hk
def cel {α:Type} (c:α->AV) (x:α):List AV:=[c x]
theorem xAn {α:Type} {l:List α} {i j:Nat} {x y:α} (hx:l[i]?=some x) (hy:l[j]?=some y):((l.set i y).set j x).Perm l:=by
 obtain ⟨h1,h2⟩:=xgS hx
 obtain ⟨h3,h4⟩:=xgS hy
 rw [<- h2,<- h4]
 exact List.set_set_perm h1 h3
end Go.Proofs.YtnhfofmhkfdpgaaGreatDoor.Vm
namespace Go.Proofs.YtnhfofmhkfdpgaaGreatDoor.Vm
open Go Go.RowKit
variable {N:Nat} {g:Glob}
theorem bits_Mul (x y:Nat) (hx:x < 2 ^ 64) (hy:y < 2 ^ 64):Ret P g false 131 [.int .u64 (x:Int),.int .u64 (y:Int)] (.tuple [.int .u64 ((x * y / 18446744073709551616:Nat):Int),.int .u64 ((x * y % 18446744073709551616:Nat):Int)]):=by
 refine ⟨c131.call,?_⟩
 intro w av vs xs hG hvs hz
 subst hz
 cases hvs with
 | cons v z vs xs hv hvs =>
 cases hvs with
 | cons v' z' vs xs hv' hvs =>
 cases hvs
 have:=hv.int_inv;subst this
 have:=hv'.int_inv;subst this
 refine Calls.mono (Tryz.bits_Mul x y (by omega) (by omega) w) ?_
 rintro e w' ⟨rfl,rfl⟩
 refine ⟨_,.tuple [.int .u64 _,.int .u64 _],St.empty,fun _=>none,rfl,⟨⟨2,rfl⟩,fun h=>by cases h⟩,Below.refl _ _,?_,.tuple [.int .u64 _,.int .u64 _] _ (.cons _ _ _ _ (.int _ _) (.cons _ _ _ _ (.int _ _) .nil))⟩
 refine ⟨?_,?_,?_,?_,?_,Nat.le_refl _⟩
 ·intro o x h;cases h
 ·intro o o' l l' x x' h;cases h
 ·intro o x h;cases h
 ·intro o l h;cases h
 ·intro o x l h;cases h
theorem xCA (x:Int) (n:Nat) (hn:n < 2 ^ 30):Own P g 87 [.fsl 1 [[.int .i64 x]],.int .i64 (n:Int)] (.sl 1 0 0 n) (St.ofL [.row 1 (els intc (List.replicate n x))]):=by
 refine Own.in [0] c87 (by simp) (by simp) ?_
 have hroom:n<=room:=by simp [room];omega
 have e1:IntKind.u64.wrap (1:Int)=((1:Nat):Int):=rfl
 have e2:IntKind.u64.wrap (n:Int)=n:=xB6 (by omega)
 have e3:n % 18446744073709551616=n:=by omega
 have e4:n / 18446744073709551616=0:=by omega
 have e5:IntKind.i64.wrap (n:Int)=n:=xAa (by omega)
 simp [k87,e1,e2]
 refine (bits_Mul 1 n (by omega) (by omega)).use (n:=9) ?_ rfl ?_ <;> simp [e3,e4]
 refine xAj (fun h=>absurd h (by omega)) (fun h=>?_)
 simp [e5,hroom]
 refine W.whileI (fun (m:Nat) F S=>m<=n/\(m=0->n=0)/\F 7=.sl 1 0 0 n/\F 8=.int .i64 m/\S.obj 0=some (.row 1 (els intc (List.replicate m x ++ List.replicate (n - m) 0)))) (fun m=>n - m) ?_ (min 1 n) _ _ ?_
 ·rintro m F S ⟨hm,hm0,h7,h8,ho⟩
  by_cases hlt:m < n
  ·have hmp:0 < m:=by omega
   simp [h7,h8,hlt]
   refine Dra.auto [] mix ?_ ?_
   ·kernel_rfl
   have hys:List.take m (els intc (List.replicate m x ++ List.replicate (n - m) 0))=els intc (List.replicate m x):=by rw [xAu,List.take_left' (by simp)]
   have hok:okAll 1 (els intc (List.replicate m x)):=xIa
   have e6:IntKind.i64.wrap ((m:Int) + (min m (n - m):Nat))=((m + min m (n - m):Nat):Int):=by rw [xAa (by omega)];omega
   simp [classes,h7,h8,hlt,xEN hm,xJl hm,ho,show ¬ m=0 by omega,hys,hok]
   refine ⟨m + min m (n - m),by omega,by omega,by omega,e6,?_⟩
   rw [xAu,xLL,xA2,xA2,List.take_replicate,List.drop_append,List.drop_of_length_le (by simp),List.drop_replicate,List.nil_append,<- List.append_assoc,List.replicate_append_replicate]
   congr 3
   ·omega
   ·simp;omega
  ·have:m=n:=by omega
   subst this
   simp [h7,h8]
   refine ⟨by simp,?_⟩
   simp [ho]
 ·simp
  refine ⟨by omega,?_⟩
  rcases n with _ | n
  ·simp [els]
  ·simp [els,intc]
theorem xGr {v:AV} {l:List Int} (hv:FSl intc 1 v l) (hl:l.length < 2 ^ 30) (n:Nat) (hn:n < 2 ^ 30):RetE P g false 174 [v,.int .i64 (n:Int)] (fun y=>∃ r:List Int,y=.fsl 1 (els intc r)/\r.length=n):=by
 refine RetE.in c174 (by simp) ?_
 simp [k174]
 refine (xCA (-1) n hn).use' (n:=9) ?_ ?_ ?_ <;> simp
 refine xDG hv.cells ?_
 simp
 refine W.rangeC (f:=226) (captured:=[.ptr 3 0 0]) (by simp) ?_
 simp
 generalize hLF:upd (upd (upd (upd (upd (upd (upd (entry [v,AV.int IntKind.i64 n]) 4 AV.nilsl) 8 (AV.sl 1 0 0 1)) 9 (AV.int IntKind.i64 n)) 10 (AV.sl 1 1 0 n)) 5 (AV.ptr 2 0 0)) 11 v) 12 (AV.func (Fn.func 226) [] [AV.ptr 3 0 0])=LF
 have lf5:LF 5=.ptr 2 0 0:=by rw [<- hLF];simp
 refine xFs hv (by omega) (fun k S'=>S'.obj 4=some (.loop 28 #[13,14] LF (rngA Tryz.f174 0) (rngB Tryz.f174 0) .ready)/\S'.obj 2=some (.row 1 [[.sl 1 1 0 n]])/\S'.obj 3=some (.row 1 [[v]])/\∃ r:List Int,r.length=n/\S'.obj 1=some (.row 1 (els intc r))) ?_ ?_ ?_ ?_
 ·refine ⟨?_,?_,?_,List.replicate n (-1),?_,?_⟩ <;> simp
 ·rintro k S' ⟨_,_,h,_⟩
  exact h
 ·rintro k x S' hkl hx ⟨q4,q2,q3,r,hr,q1⟩ K' hK'
  simp
  refine Yie.in q4 (by simp) (by simp) c174A0 c174B0 ?_
  simp [k174A0,k174B0,puts,lf5,q2,q4]
  by_cases hx1:(0:Int)<=x
  ·by_cases hx2:x < (n:Int)
   ·obtain ⟨b,rfl⟩:∃ b:Nat,x=(b:Int):=⟨x.toNat,by omega⟩
    have hb:b < n:=by omega
    obtain ⟨y,hy⟩:∃ y,r[b]?=some y:=⟨_,xgG (by omega)⟩
    simp [hb,q2,q1,q4,lf5,xAd hb,hy,intc]
    refine hK' _ ⟨by simp,by simp [q2],by simp [q3],r.set b ((l.length - 1 - k:Nat):Int),by simp [hr],?_⟩
    simp
    rw [<- xAg];rfl
   ·simp [hx1,hx2,q2,q4,lf5]
    refine hK' _ ⟨by simp,by simp [q2],by simp [q3],r,hr,by simp [q1]⟩
  ·simp [hx1,q2,q4]
   refine hK' _ ⟨by simp,by simp [q2],by simp [q3],r,hr,by simp [q1]⟩
 ·rintro S' ⟨q4,q2,q3,r,hr,q1⟩
  refine ⟨q4,?_⟩
  simp [q2]
  refine ⟨_,⟨r,rfl,hr⟩,2,?_⟩
  rw [<- hr]
  refine xAr (es:=els intc r) (by simp [q1]) (by simp) (by simp) fun k e he=>?_
  rw [he]
  simp only [els,List.getElem?_map] at he
  cases hz:r[k]? with
  | none=>rw [hz] at he;cases he
  | some z=>rw [hz] at he;cases he;simp [intc]
end Go.Proofs.YtnhfofmhkfdpgaaGreatDoor.Vm
namespace Go.Proofs.YtnhfofmhkfdpgaaGreatDoor.Vm
set_option maxRecDepth 100000
open Go Go.RowKit
variable {N:Nat} {g:Glob}
def stepc (p:Nat × Nat):List AV:=[.int .i64 (p.1:Int),.int .i64 (p.2:Int)]
theorem xIm {l:List Bool} {i:Nat} (h:l[i]?=some false):(l.set i true).count false + 1=l.count false:=by
 induction l generalizing i with
 | nil=>simp at h
 | cons a l ih =>
  cases i with
  | zero=>simp at h;subst h;simp
  | succ i =>
   have:=ih (i:=i) (by simpa using h)
   simp only [List.set_cons_succ,List.count_cons]
   omega
theorem xIn {α:Type} (l:List α) (x:α) (y:α):(l ++ [x]).set l.length y=l ++ [y]:=by simp
theorem xM3 {v yf:AV} {G:List (List Int)} {S:St} {K:AV->St->Prop} (a0:Nat) (hv:GrV v G) (hn:G.length<=128) (hin:∀l ∈ G,l.length < 1048576/\∀x ∈ l,0<=x/\x < G.length) (hyc:yf.cells=[yf])
  (Inv:Nat->(Nat->Prop)->St->Prop) (C0:Nat->Prop) (h0:Inv 0 C0 S)
  (hlt:∀k C S',Inv k C S'->∀o,C o->o < S'.next)
  (hstab:∀k C S' S'',Inv k C S'->S'.next<=S''.next->(∀o,C o->S''.obj o=S'.obj o)->Inv k C S'')
  (hst:∀k C (x:Nat) S',x < G.length->k < G.length->Inv k C S'->∀K':AV->St->Prop,(∀C' S'',Inv (k + 1) C' S''->S'.next<=S''.next->(∀o,o < S'.next->¬ C o->S''.obj o=S'.obj o)->(∀o,C' o->C o \/ S'.next<=o)->K' (.tuple []) S'')->CalV P g yf [.int .i64 (x:Int)] S' K')
  (hk:∀k C S',k<=G.length->Inv k C S'->S.next<=S'.next->(∀o,o < S.next->¬ C0 o->S'.obj o=S.obj o)->K (.tuple []) S'):Cal P g 54 [v,.int .i64 (a0:Int),yf] S K:=by
 refine Cal.inF (by kernel_rfl) ?_
 conv=>arg 3;reduce
 simp
 refine (xIl hv.len hv.stab (a0:Int)).use (n:=9) ?_ rfl ?_ <;> simp [xAc hv.stab]
 by_cases ha:a0 < G.length
 ·have e1:inGr G.length (a0:Int)=true:=by simp [inGr,ha]
  have hroom:G.length<=room:=by simp [room];omega
  simp [e1,hv.len,hroom,xAd ha]
  have hg:(List.replicate G.length [AV.bool false])[a0]?=some [AV.bool false]:=by simp [ha]
  simp [hg]
  refine W.whileF (fun (a:List Bool × List (Nat × Nat)) F S'=>∃ (k:Nat) (C:Nat->Prop) (wo:Nat),F 0=v/\F 2=yf/\F 6=.sl 1 S.next 0 G.length/\F 7=.sl 2 wo 0 a.2.length/\S'.obj S.next=some (.row 1 (els boolc a.1))/\a.1.length=G.length /\
   S'.obj wo=some (.row 2 (els stepc a.2))/\wo < S'.next/\S.next < wo/\¬ C S.next/\¬ C wo/\Inv k C S'/\(∀o,o < S.next->¬ C0 o->S'.obj o=S.obj o)/\(∀o,C o->C0 o \/ S.next<=o)/\(∀p ∈ a.2,p.1 < G.length)/\k + a.2.length + a.1.count false=G.length)
   (fun a=>2 * a.1.count false + a.2.length) ?_ ((List.replicate G.length false).set a0 true,[(a0,0)]) _ _ ?_
  ·rintro ⟨met,way⟩ F S' ⟨k,C,wo,h0',h2,h6,h7,hmo,hml,hwo,hwl,hwn,hCm,hCw,hI,hfr,hCC,hway,hcnt⟩
   simp only at h7 hmo hml hwo hway hcnt
   by_cases hw0:way=[]
   ·subst hw0
    simp [h7]
    exact hk k C S' (by simp at hcnt;omega) hI (by omega) hfr
   ·obtain ⟨pre,⟨a,nx⟩,rfl⟩:∃ pre p,way=pre ++ [p]:=⟨way.dropLast,way.getLast hw0,(List.dropLast_concat_getLast hw0).symm⟩
    have han:a < G.length:=hway (a,nx) (by simp)
    obtain ⟨l,hl⟩:∃ l,G[a]?=some l:=⟨_,xgG han⟩
    obtain ⟨w,hw,hix⟩:=hv.idx hl
    obtain ⟨hll,hlx⟩:=hin l (xmG hl)
    have hpre:pre.length < 128:=by simp at hcnt;omega
    have e5:IntKind.i64.wrap (pre.length:Int)=(pre.length:Int):=xAa (by omega)
    have hixp:pk (PK.indexAddr 2) [AV.sl 2 wo 0 (pre.length + 1),AV.int IntKind.i64 (pre.length:Int)]=some (.ptr wo (0 + pre.length) 0):=xAd (by omega)
    simp [h7,e5,hixp]
    refine W.whileI (fun (nx:Nat) F S2=>F 0=v/\F 2=yf/\F 6=.sl 1 S.next 0 G.length/\F 7=.sl 2 wo 0 (pre.length + 1)/\F 8=.ptr wo pre.length 0/\S2.obj wo=some (.row 2 (els stepc (pre ++ [(a,nx)])))/\S2.next=S'.next/\∀o,o ≠ wo->S2.obj o=S'.obj o) (fun nx=>l.length - nx) ?_ nx _ _ ?_
    ·rintro nx F S2 ⟨h0',h2,h6,h7,h8,hwo,hnx,hoth⟩
     have hget:(els stepc (pre ++ [(a,nx)]))[pre.length]?=some [.int .i64 (a:Int),.int .i64 (nx:Int)]:=by simp [els,stepc]
     have hget2:∀h:pre.length < (els stepc (pre ++ [(a,nx)])).length,(els stepc (pre ++ [(a,nx)]))[pre.length]=[.int .i64 (a:Int),.int .i64 (nx:Int)]:=fun h=>by simp [els,stepc]
     have hmo2:S2.obj S.next=some (.row 1 (els boolc met)):=by rw [hoth _ (by omega)];exact hmo
     simp
     refine Dra.auto [] mix ?_ ?_
     ·kernel_rfl
     simp [classes,h0',h8,hwo,hget,hget2,hix,hw.len]
     by_cases hlt':nx < l.length
     ·obtain ⟨x,hx⟩:∃ x,l[nx]?=some x:=⟨_,xgG hlt'⟩
      have hxx:=hlx x (xmG hx)
      obtain ⟨b,rfl⟩:∃ b:Nat,x=(b:Int):=⟨x.toNat,by omega⟩
      have hbn:b < G.length:=by omega
      have e4:=wrapS nx (by omega)
      obtain ⟨mb,hmb⟩:∃ y,met[b]?=some y:=⟨_,xgG (by omega)⟩
      simp [hlt']
      refine Dra.auto [] mix ?_ ?_
      ·kernel_rfl
      simp [classes,h0',h8,hwo,hget,hget2,hix,hw.idx hx,intc]
      simp [h6,xAd hbn,hmo2,hmb,boolc]
      have hwo1:¬ wo=S.next:=by omega
      have hwo1':¬ S.next=wo:=by omega
      cases mb
      ·have hroom2:pre.length + 1 + 1<=room:=by simp [room];omega
       have hr0:¬ room=0:=by simp [room]
       have hwn2:¬ wo=S2.next:=by omega
       have hSn2:¬ S.next=S2.next:=by omega
       simp [h6,h7,xAd hbn,hmo2,hmb,boolc,hwo,hwo1,hwo1',hwn2,hSn2,hroom2,hr0]
       have hcs:=xIm hmb
       refine ⟨met.set b true,pre ++ [(a,nx)] ++ [(b,0)],?_,_,Wk.refl _,h0',h2,k,C,S2.next + 1,⟨rfl,by simp⟩,?_,by simp [hml],?_,?_,?_,hCm,?_,?_,?_,hCC,?_,?_⟩
       ·simp;omega
       ·simp [hwo1',hSn2,show ¬ S.next=S2.next + 1 by omega]
        rw [<- xAg];rfl
       ·simp
        rw [List.take_of_length_le (by simp)]
        simp [els,stepc]
       ·simp
       ·omega
       ·intro h
        have:=hlt k C S' hI _ h
        omega
       ·refine hstab k C S' _ hI (by simp;omega) fun o ho=>?_
        have h1:¬ o=wo:=fun e=>hCw (e ▸ ho)
        have h2:¬ o=S.next:=fun e=>hCm (e ▸ ho)
        have h3:=hlt k C S' hI o ho
        simp [h1,h2,show ¬ o=S2.next + 1 by omega,show ¬ o=S2.next by omega]
        exact hoth o h1
       ·intro o ho hc0
        simp [show ¬ o=wo by omega,show ¬ o=S.next by omega,show ¬ o=S2.next + 1 by omega,show ¬ o=S2.next by omega]
        rw [hoth o (by omega)]
        exact hfr o ho hc0
       ·intro p q hp
        simp only [List.mem_append,List.mem_singleton,Prod.mk.injEq] at hp
        rcases hp with (hp | ⟨rfl,_⟩) | ⟨rfl,_⟩
        ·exact hway (p,q) (by simp [hp])
        ·exact han
        ·exact hbn
       ·simp at hcnt ⊢;omega
      ·simp [h8,hwo,hget,hget2,h0',h2,h6,h7,e4]
       refine ⟨nx + 1,by omega,?_,hnx,fun o ho=>by simp [ho];exact hoth o ho⟩
       rw [show [AV.int IntKind.i64 (a:Int),AV.int IntKind.i64 ((nx:Int) + 1)]=stepc (a,nx + 1) by simp [stepc],xAg,xIn]
     ·simp [hlt',h8,hwo,hget,hget2,h2]
      refine hst k C a S2 han (by simp at hcnt;omega) (hstab k C S' S2 hI (by omega) fun o ho=>hoth o fun e=>hCw (e ▸ ho)) _ ?_
      intro C' S3 hI3 hn3 hk3 hC3
      simp [h7,e5,h0',h2,h6,xJl (show pre.length<=pre.length + 1 by omega)]
      have hwo3:S3.obj wo=some (.row 2 (els stepc (pre ++ [(a,nx)]))):=by rw [hk3 wo (by omega) hCw];exact hwo
      have hcut:=Wk.cut pre.length hwo3
      rw [xAu,List.take_left' rfl] at hcut
      have hC1:¬ C' S.next:=fun h=>by
       rcases hC3 _ h with h | h
       ·exact hCm h
       ·omega
      have hC2:¬ C' wo:=fun h=>by
       rcases hC3 _ h with h | h
       ·exact hCw h
       ·omega
      refine ⟨met,pre,by omega,_,hcut,k + 1,C',wo,⟨rfl,rfl⟩,?_,hml,by simp,by simp;omega,hwn,hC1,hC2,?_,?_,?_,?_,?_⟩
      ·simp [show ¬ S.next=wo by omega]
       rw [hk3 _ (by omega) hCm];exact hmo2
      ·refine hstab (k + 1) C' S3 _ hI3 (by simp) fun o ho=>?_
       have h1:¬ o=wo:=fun e=>hC2 (e ▸ ho)
       simp [h1]
      ·intro o ho hc0
       simp [show ¬ o=wo by omega]
       rw [hk3 o (by omega) fun h=>by
        rcases hCC o h with h | h
        ·exact hc0 h
        ·omega]
       rw [hoth o (by omega)]
       exact hfr o ho hc0
      ·intro o ho
       rcases hC3 o ho with h | h
       ·exact hCC o h
       ·exact .inr (by omega)
      ·intro p q hp
       exact hway (p,q) (by simp [hp])
      ·simp at hcnt;omega
    ·simp
     exact ⟨h0',h2,h6,by simpa using h7,hwo⟩
  ·refine ⟨0,C0,S.next + 1,?_⟩
   have hcs:=xIm (l:=List.replicate G.length false) (i:=a0) (by simp [ha])
   simp at hcs
   simp [hyc]
   refine ⟨?_,by simp [els,stepc],fun h=>?_,fun h=>?_,?_,?_,fun o h=>.inl h,ha,by omega⟩
   ·show (List.replicate G.length (boolc false)).set a0 (boolc true)=_
    rw [xAh,xAg]
   ·have:=hlt 0 C0 S h0 _ h;omega
   ·have:=hlt 0 C0 S h0 _ h;omega
   ·refine hstab 0 C0 S _ h0 (by simp;omega) fun o ho=>?_
    have:=hlt 0 C0 S h0 o ho
    simp [show ¬ o=S.next + 1 by omega,show ¬ o=S.next by omega]
   ·intro o ho _
    simp [show ¬ o=S.next + 1 by omega,show ¬ o=S.next by omega]
 ·have e1:inGr G.length (a0:Int)=false:=by simp [inGr];omega
  simp [e1]
  exact hk 0 C0 S (by omega) h0 (Nat.le_refl _) (fun _ _ _=>rfl)
theorem xEj {l:List Int} {o:Nat} {S:St} {K:AV->St->Prop} (ho:S.obj o=some (.row 1 (els intc l))) (hl:l.length < 2 ^ 40) (hk:∀l':List Int,l'.length=l.length->K (.tuple []) (S.set o (.row 1 (els intc l')))) :
  Cal P g 230 [.sl 1 o 0 l.length] S K:=by
 refine Cal.inF (by kernel_rfl) ?_
 have e0:IntKind.i64.wrap ((l.length:Int) - 1)=(l.length:Int) - 1:=xAa (by omega)
 conv=>arg 3;reduce
 simp [e0]
 refine W.whileI (fun (k:Nat) F S'=>k<=l.length/\F 0=.sl 1 o 0 l.length/\F 2=.int .i64 k/\F 3=.int .i64 ((l.length:Int) - 1 - k)/\∃ l':List Int,l'.length=l.length/\S'=S.set o (.row 1 (els intc l'))) (fun k=>l.length - k) ?_ 0 _ _ ?_
 ·rintro k F S' ⟨hkl,h0,h2,h3,l',hl',rfl⟩
  by_cases hlt:(k:Int) < (l.length:Int) - 1 - k
  ·have hk1:k < l.length:=by omega
   have hk2:l.length - 1 - k < l.length:=by omega
   have e1:(l.length:Int) - 1 - k=((l.length - 1 - k:Nat):Int):=by omega
   rw [e1] at h3
   have hlt':k < l.length - 1 - k:=by omega
   obtain ⟨x,hx⟩:∃ x,l'[k]?=some x:=⟨_,xgG (by omega)⟩
   obtain ⟨y,hy⟩:∃ y,l'[l.length - 1 - k]?=some y:=⟨_,xgG (by omega)⟩
   have e4:=wrapS k (by omega)
   have e5:IntKind.i64.wrap (((l.length - 1 - k:Nat):Int) - 1)=(l.length:Int) - 1 - (k + 1:Nat):=by rw [xAa (by omega)];omega
   simp [h2,h3,hlt']
   refine Dra.auto [] mix ?_ ?_
   ·kernel_rfl
   simp [classes,h0,h2,h3,xAd hk1,xAd hk2,hx,hy,intc,show ¬ k=l.length - 1 - k by omega,e4,e5]
   refine ⟨k + 1,by omega,by omega,by omega,(l'.set k y).set (l.length - 1 - k) x,by simp [hl'],?_⟩
   rw [xAk,xAk,<- xAg,<- xAg];rfl
  ·simp [h2,h3,hlt]
   exact hk l' hl'
 ·simp
  exact ⟨l,rfl,(St.set_same ho).symm⟩
theorem xEk {S:St} {K:AV->St->Prop} (hk:K (.tuple []) S):Cal P g 230 [.nilsl] S K:=by
 refine Cal.inF (by kernel_rfl) ?_
 have e0:IntKind.i64.wrap (-1)=-1:=rfl
 conv=>arg 3;reduce
 simp [e0]
 refine W.whileI (fun (k:Nat) F S'=>F 2=.int .i64 0/\F 3=.int .i64 (-1)/\S'=S) (fun k=>0) ?_ 0 _ _ ?_
 ·rintro k F S' ⟨h2,h3,rfl⟩
  simp [h2,h3]
  exact hk
 ·simp
def OrdI (k:Nat) (C:Nat->Prop) (S:St):Prop:=∃ (v:AV) (l:List Int),l.length=k/\S.obj 0=some (.row 1 [[v]])/\0 < S.next/\C 0/\((v=.nilsl/\l=[]) \/ ∃ o,v=.sl 1 o 0 l.length/\0 < o/\o < S.next/\S.obj o=some (.row 1 (els intc l))/\l ≠ []/\C o)/\∀o,C o->o < S.next
theorem xJz {k:Nat} {C:Nat->Prop} {x:Int} {S:St} {K:AV->St->Prop} (hk:k < 128) (h:OrdI k C S)
  (hK:∀C' S',OrdI (k + 1) C' S'->S.next<=S'.next->(∀o,o < S.next->¬ C o->S'.obj o=S.obj o)->(∀o,C' o->C o \/ S.next<=o)->K (.tuple []) S'):Cal P g 229 [.int .i64 x,.ptr 0 0 0] S K:=by
 obtain ⟨v,l,hl,hb,hn,hC0,hv,hlt⟩:=h
 refine Cal.inF (by kernel_rfl) ?_
 have hr0:¬ room=0:=by simp [room]
 have hr:l.length + 1<=room:=by simp [room];omega
 have n0:¬ 0=S.next:=by omega
 conv=>arg 3;reduce
 simp [hb]
 rcases hv with ⟨rfl,rfl⟩ | ⟨o,rfl,ho0,hon,hob,hne,hCo⟩
 ·simp [hr0,n0,hb]
  refine hK (fun q=>q=0 \/ q=S.next + 1) _ ⟨.sl 1 (S.next + 1) 0 1,[x],by simp at hl;simp;omega,by simp,by simp,.inl rfl,.inr ⟨S.next + 1,by simp,by simp,by simp,by simp [els,intc],by simp,.inr rfl⟩,?_⟩ (by simp;omega) ?_ ?_
  ·rintro q (rfl | rfl) <;> simp
  ·intro q hq hC
   have:¬ q=0:=fun e=>hC (e ▸ hC0)
   simp [this,show ¬ q=S.next + 1 by omega,show ¬ q=S.next by omega]
  ·rintro q (rfl | rfl)
   ·exact .inl hC0
   ·exact .inr (by omega)
 ·have no:¬ o=S.next:=by omega
  have n1:¬ 0=o:=by omega
  simp [hr0,n0,n1,hb,hob,no,hr]
  refine hK (fun q=>q=0 \/ q=S.next + 1) _ ⟨.sl 1 (S.next + 1) 0 (l.length + 1),l ++ [x],by simp [hl],by simp,by simp,.inl rfl,.inr ⟨S.next + 1,by simp,by simp,by simp,?_,by simp,.inr rfl⟩,?_⟩ (by simp;omega) ?_ ?_
  ·simp
   rw [List.take_of_length_le (by simp)]
   simp [els,intc]
  ·rintro q (rfl | rfl) <;> simp
  ·intro q hq hC
   have h1:¬ q=0:=fun e=>hC (e ▸ hC0)
   have h2:¬ q=o:=fun e=>hC (e ▸ hCo)
   simp [h1,h2,show ¬ q=S.next + 1 by omega,show ¬ q=S.next by omega]
  ·rintro q (rfl | rfl)
   ·exact .inl hC0
   ·exact .inr (by omega)
theorem xGs {v:AV} {G:List (List Int)} (hv:GrV v G) (hG:G.length<=128) (hl:∀l ∈ G,l.length < 1048576) (a0:Nat):RetE P g false 175 [v,.int .i64 (a0:Int)] (fun y=>∃ l:List Int,FSl intc 1 y l/\l.length<=128):=by
 refine RetE.in (cF0 (by kernel_rfl)) (nF (by kernel_rfl)) (vO ?_)
 conv=>arg 3;reduce
 simp
 refine (xAE hv (by omega) (fun l h=>by have:=hl l h;omega)).use (n:=9) ?_ rfl ?_ <;> simp [xAc hv.stab]
 have hCl:(cleanG G).length=G.length:=by simp [cleanG]
 have hCm:∀l ∈ cleanG G,l.length < 1048576/\∀x ∈ l,0<=x/\x < (cleanG G).length:=by
  intro l h
  rw [hCl]
  simp only [cleanG,List.mem_map] at h
  obtain ⟨m,hm,rfl⟩:=h
  exact ⟨Nat.lt_of_le_of_lt (xAT _ _) (hl m hm),fun x hx=>(xAq.1 hx).2⟩
 refine xM3 a0 (xCo (cleanG G)) (by omega) hCm rfl OrdI (fun o=>o=0) ?_ ?_ ?_ ?_ ?_
 ·refine ⟨.nilsl,[],rfl,by simp,by simp,rfl,.inl ⟨rfl,rfl⟩,?_⟩
  rintro o rfl;simp
 ·rintro k C S' ⟨_,_,_,_,_,_,_,h⟩
  exact h
 ·rintro k C S' S'' ⟨v,l,h1,h2,h3,h4,h5,h6⟩ hn hs
  refine ⟨v,l,h1,by rw [hs 0 h4];exact h2,by omega,h4,?_,fun o ho=>by have:=h6 o ho;omega⟩
  rcases h5 with h5 | ⟨o,a1,a2,a3,a4,a5,a6⟩
  ·exact .inl h5
  ·exact .inr ⟨o,a1,a2,by omega,by rw [hs o a6];exact a4,a5,a6⟩
 ·rintro k C x S' hx hkn hI K' hK'
  simp
  exact xJz (by omega) hI hK'
 ·rintro k C S' hkn ⟨v,l,h1,h2,h3,h4,h5,h6⟩ hn hfr
  simp [h2]
  rcases h5 with ⟨rfl,rfl⟩ | ⟨o,rfl,a2,a3,a4,a5,a6⟩
  ·refine xEk ?_
   simp [h2]
   exact ⟨.nilsl,⟨[],.inr ⟨rfl,rfl⟩,by simp⟩,1,rfl⟩
  ·refine xEj a4 (by omega) fun l' hl'=>?_
   simp [h2,show ¬ 0=o by omega]
   refine ⟨_,⟨l',.inl rfl,by omega⟩,2,?_⟩
   rw [<- hl']
   refine xAr (es:=els intc l') (by simp) (by simp) (by simp) fun k e he=>?_
   rw [he]
   simp only [els,List.getElem?_map] at he
   cases hz:l'[k]? with
   | none=>rw [hz] at he;cases he
   | some z=>rw [hz] at he;cases he;simp [intc]
def Fre (S:St) (v:AV) (l:List Int):Prop:=(v=.nilsl/\l=[]) \/ ∃ o off es,v=.sl 1 o off l.length/\2<=o/\o < S.next/\S.obj o=some (.row 1 es)/\(es.drop off).take l.length=els intc l/\off + l.length<=es.length
theorem Fre.len {S:St} {v:AV} {l:List Int} (h:Fre S v l):lenV v=some l.length:=by
 rcases h with ⟨rfl,rfl⟩ | ⟨o,off,es,rfl,_⟩ <;> rfl
theorem Fre.other {S S':St} {v:AV} {l:List Int} (h:Fre S v l) (hn:S.next<=S'.next) (hq:∀q,2<=q->q < S.next->S'.obj q=S.obj q):Fre S' v l:=by
 rcases h with h | ⟨o,off,es,rfl,h1,h2,h3,h4⟩
 ·exact .inl h
 ·exact .inr ⟨o,off,es,rfl,h1,by omega,by rw [hq o h1 h2];exact h3,h4⟩
theorem Fre.app {S:St} {v:AV} {l:List Int} {x:Int} (h:Fre S v l) (h2:2<=S.next) (hr:l.length + 1<=room) :
  ∃ w S',appV 1 v S [[.int .i64 x]]=some (w,S')/\w.one=true/\S'.next=S.next + 1/\Fre S' w (l ++ [x])/\∀q,q < 2->S'.obj q=S.obj q:=by
 have hr0:¬ room=0:=by simp [room]
 rcases h with ⟨rfl,rfl⟩ | ⟨o,off,es,rfl,a1,a2,a3,a4,a5⟩
 ·refine ⟨.sl 1 S.next 0 1,S.new (.row 1 [[.int .i64 x]]),by simp [hr0],rfl,by simp,.inr ⟨S.next,0,[[.int .i64 x]],by simp,h2,by simp,by simp,by simp [els,intc],by simp⟩,fun q hq=>?_⟩
  simp [show ¬ q=S.next by omega]
 ·refine ⟨.sl 1 S.next 0 (l.length + 1),(S.drop o).new (.row 1 (els intc (l ++ [x]))),?_,rfl,by simp,.inr ⟨S.next,0,els intc (l ++ [x]),by simp,h2,by simp,by simp,?_,by simp⟩,fun q hq=>?_⟩
  ·simp [hr0,a3,a5,hr,a4]
   simp [els,intc]
  ·rw [List.drop_zero,List.take_of_length_le (by simp)]
  ·simp [show ¬ q=S.next by omega,show ¬ q=o by omega]
theorem Fre.head {S:St} {v:AV} {x:Int} {l:List Int} (h:Fre S v (x :: l)):∃ o off es,v=.sl 1 o off (l.length + 1)/\S.obj o=some (.row 1 es)/\es[off]?=some [.int .i64 x]/\Fre S (.sl 1 o (off + 1) l.length) l:=by
 rcases h with ⟨_,h⟩ | ⟨o,off,es,rfl,a1,a2,a3,a4,a5⟩
 ·cases h
 ·simp at a5
  have h0:=congrArg (fun d=>d[0]?) a4
  simp [els,List.getElem?_take,intc] at h0
  refine ⟨o,off,es,rfl,a3,h0,.inr ⟨o,off + 1,es,rfl,a1,a2,a3,?_,by omega⟩⟩
  have h1:=congrArg (fun d=>d.drop 1) a4
  simp only [List.drop_take,List.drop_drop,List.length_cons,Nat.add_sub_cancel] at h1
  rw [h1];rfl
def posN (l:List Int):Nat:=(l.filter fun x=>decide (0 < x)).length
theorem xQR {l:List Int} {i:Nat} {x y:Int} (h:l[i]?=some x):posN (l.set i y) + (if 0 < x then 1 else 0)=posN l + (if 0 < y then 1 else 0):=by
 unfold posN
 induction l generalizing i with
 | nil=>simp at h
 | cons a l ih =>
  cases i with
  | zero =>
   simp at h;subst h
   simp only [List.set_cons_zero,List.filter_cons]
   by_cases h1:0 < a <;> by_cases h2:0 < y <;> simp [h1,h2] <;> omega
  | succ i =>
   have:=ih (i:=i) (by simpa using h)
   simp only [List.set_cons_succ,List.filter_cons]
   by_cases h1:0 < a <;> simp [h1] <;> omega
theorem xKS (l:List Int):posN l<=l.length:=List.length_filter_le _ _
theorem xOP {v:AV} {G:List (List Int)} (hv:GrV v G) (hG:G.length<=128) (hin:∀l ∈ G,l.length < 1048576/\∀x ∈ l,0<=x/\x < G.length):RetE P g false 228 [v] (fun y=>∃ r:List Int,y=.fsl 1 (els intc r)/\r.length=G.length):=by
 refine RetE.in (cF0 (by kernel_rfl)) (nF (by kernel_rfl)) (vO ?_)
 have hroom:G.length<=room:=by simp [room];omega
 conv=>arg 3;reduce
 simp [hv.len,hroom]
 have e0:∀n:Nat,List.replicate n [AV.int IntKind.i64 0]=els intc (List.replicate n 0):=fun n=>xAh (e:=intc)
 rw [e0]
 refine W.whileI (fun (a:Nat) F S=>a<=G.length/\F 0=v/\F 3=.sl 1 0 0 G.length/\F 4=.sl 1 1 0 G.length/\F 21=v/\F 22=.int .i64 G.length/\F 23=.int .i64 a/\2<=S.next/\S.obj 0=some (.row 1 (els intc (List.replicate G.length 0))) /\
  ∃ r:List Int,r.length=G.length/\S.obj 1=some (.row 1 (els intc r))/\∀x ∈ r,0<=x/\x<=a * 1048576) (fun a=>G.length - a) ?_ 0 _ _ ?_
 ·rintro a F S ⟨ha,h0,h3,h4,h21,h22,h23,hn,ho0,r,hr,ho1,hrx⟩
  by_cases hlt:a < G.length
  ·obtain ⟨l,hx⟩:∃ l,G[a]?=some l:=⟨_,xgG hlt⟩
   obtain ⟨w,hw,hix⟩:=hv.idx hx
   obtain ⟨hll,hlx⟩:=hin l (xmG hx)
   have e4:=wrapS a (by omega)
   simp [h22,h23,hlt]
   simp [h21,h23,hix,hw.len]
   refine W.whileI (fun (k:Nat) F S=>k<=l.length/\F 0=v/\F 3=.sl 1 0 0 G.length/\F 4=.sl 1 1 0 G.length/\F 21=v/\F 22=.int .i64 G.length/\F 23=.int .i64 a/\F 27=w/\F 28=.int .i64 l.length/\F 29=.int .i64 k/\2<=S.next/\S.obj 0=some (.row 1 (els intc (List.replicate G.length 0))) /\
    ∃ r:List Int,r.length=G.length/\S.obj 1=some (.row 1 (els intc r))/\∀x ∈ r,0<=x/\x<=a * 1048576 + k) (fun k=>l.length - k) ?_ 0 _ _ ?_
   ·rintro k F S ⟨hk,h0,h3,h4,h21,h22,h23,h27,h28,h29,hn,ho0,r,hr,ho1,hrx⟩
    by_cases hlk:k < l.length
    ·obtain ⟨x,hxk⟩:∃ x,l[k]?=some x:=⟨_,xgG hlk⟩
     have e5:=wrapS k (by omega)
     obtain ⟨hx0,hxn⟩:=hlx x (xmG hxk)
     obtain ⟨b,rfl⟩:∃ b:Nat,x=(b:Int):=⟨x.toNat,by omega⟩
     have hbn:b < G.length:=by omega
     obtain ⟨y,hy⟩:∃ y,r[b]?=some y:=⟨_,xgG (by omega)⟩
     have hyb:=hrx y (xmG hy)
     have e6:IntKind.i64.wrap (y + 1)=y + 1:=xAa (by omega)
     simp [h28,h29,hlk]
     simp [h27,h29,hw.idx hxk,intc,h4,xAd hbn,ho1,hy,e6,e5,h0,h3,h21,h22,h23]
     refine ⟨k + 1,by omega,by omega,by omega,hn,ho0,r.set b (y + 1),by simp [hr],?_,?_⟩
     ·rw [<- xAg];rfl
     ·intro z hz
      rcases List.mem_or_eq_of_mem_set hz with h | rfl
      ·have:=hrx z h;omega
      ·omega
    ·have:k=l.length:=by omega
     subst this
     simp [h28,h29,h0,h3,h4,h21,h22,h23,e4]
     refine ⟨a + 1,by omega,by omega,by omega,hn,ho0,r,hr,ho1,fun x hx=>?_⟩
     have:=hrx x hx;omega
   ·simp [h0,h3,h4,h21,h22,h23]
    exact ⟨hn,ho0,r,hr,ho1,hrx⟩
  ·have:a=G.length:=by omega
   subst this
   simp [h22,h23,h4]
   have hrb:∀x ∈ r,-(0:Int)<=x/\x<=134217728:=fun x hx=>by have:=hrx x hx;omega
   refine W.whileI (fun (a:Nat) F S=>a<=G.length/\F 0=v/\F 3=.sl 1 0 0 G.length/\F 4=.sl 1 1 0 G.length/\F 41=.sl 1 1 0 G.length/\F 42=.int .i64 G.length/\F 43=.int .i64 a/\2<=S.next/\S.obj 0=some (.row 1 (els intc (List.replicate G.length 0))) /\
    S.obj 1=some (.row 1 (els intc r))/\∃ fr:List Int,Fre S (F 9) fr/\fr.length<=a/\∀x ∈ fr,0<=x/\x < G.length) (fun a=>G.length - a) ?_ 0 _ _ ?_
   ·rintro a F S ⟨ha,h0,h3,h4,h41,h42,h43,hn,ho0,ho1,fr,hfr,hfl,hfx⟩
    by_cases hlt:a < G.length
    ·obtain ⟨y,hy⟩:∃ y,r[a]?=some y:=⟨_,xgG (by omega)⟩
     have e4:=wrapS a (by omega)
     simp [h42,h43,hlt]
     simp [h41,h43,xAd hlt,ho1,hy,intc]
     by_cases hy0:y=0
     ·obtain ⟨w,S',q1,q2,q3,q4,q5⟩:=(hfr.other (S':=S.new (.row 1 [[.int .i64 (a:Int)]])) (by simp) (fun q h1 h2=>by simp [show ¬ q=S.next by omega])).app (x:=(a:Int)) (by simp;omega) (by simp [room];omega)
      have p0:=q5 0 (by omega)
      have p1:=q5 1 (by omega)
      simp [show ¬ 0=S.next by omega,ho0] at p0
      simp [show ¬ 1=S.next by omega,ho1] at p1
      simp [hy0]
      simp [q1,h0,h3,h4,h41,h42,h43,e4]
      refine ⟨a + 1,by omega,by omega,by omega,by simp at q3;omega,p0,p1,_,q4,by simp;omega,?_⟩
      intro x hx
      rw [List.mem_append,List.mem_singleton] at hx
      rcases hx with hx | rfl
      ·exact hfx x hx
      ·omega
     ·simp [hy0,h0,h3,h4,h41,h42,h43,e4]
      exact ⟨a + 1,by omega,by omega,by omega,hn,ho0,ho1,fr,hfr,by omega,hfx⟩
    ·simp [h42,h43,hlt]
     refine W.whileI (fun (z:List Int × List Int) F S=>F 0=v/\F 3=.sl 1 0 0 G.length/\F 4=.sl 1 1 0 G.length/\2<=S.next/\(∃ r0:List Int,r0.length=G.length/\S.obj 0=some (.row 1 (els intc r0)))/\z.2.length=G.length/\S.obj 1=some (.row 1 (els intc z.2)) /\
      Fre S (F 9) z.1/\(∀x ∈ z.1,0<=x/\x < G.length)/\∃ c:Nat,posN z.2 + z.1.length + c=256/\∀x ∈ z.2,-((c:Int) * 1048576)<=x/\x<=134217728) (fun z=>posN z.2 + z.1.length) ?_ (fr,r) _ _ ?_
     ·rintro ⟨fr,r⟩ F S ⟨h0,h3,h4,hn,⟨r0,hr0,ho0⟩,hr,ho1,hfr,hfx,c,hc,hcx⟩
      simp only at hr ho1 hfr hfx hc hcx
      have hpl:=xKS r
      cases fr with
      | nil =>
       simp [hfr.len,h3]
       refine ⟨_,⟨r0,rfl,hr0⟩,2,?_⟩
       rw [<- hr0]
       refine xAr ho0 (by simp) (by simp) fun k e he=>?_
       rw [he]
       simp only [els,List.getElem?_map] at he
       cases hz:r0[k]? with
       | none=>rw [hz] at he;cases he
       | some z=>rw [hz] at he;cases he;simp [intc]
      | cons x fr =>
       obtain ⟨hx0,hxn⟩:=hfx x (by simp)
       obtain ⟨a,rfl⟩:∃ a:Nat,x=(a:Int):=⟨x.toNat,by omega⟩
       have han:a < G.length:=by omega
       obtain ⟨l,hx⟩:∃ l,G[a]?=some l:=⟨_,xgG han⟩
       obtain ⟨w,hw,hix⟩:=hv.idx hx
       obtain ⟨hll,hlx⟩:=hin l (xmG hx)
       obtain ⟨fo,off,es,e9,hfo,hes,hfr'⟩:=hfr.head
       have hix0:pk (PK.indexAddr 1) [AV.sl 1 fo off (fr.length + 1),AV.int IntKind.i64 0]=some (.ptr fo off 0):=xAd (k:=0) (by omega)
       have hsl:pk (.slice 1 true false false) [.sl 1 fo off (fr.length + 1),.int .i64 1]=some (.sl 1 fo (off + 1) fr.length):=xEN (k:=1) (by omega)
       simp [hfr.len]
       simp [e9,hix0,hfo,hes,hsl,h0,hix,hw.len]
       simp at hc
       refine W.whileI (fun (k:Nat) F S=>k<=l.length/\F 0=v/\F 3=.sl 1 0 0 G.length/\F 4=.sl 1 1 0 G.length/\F 12=.int .i64 a/\F 66=w/\F 67=.int .i64 l.length/\F 68=.int .i64 k/\2<=S.next/\(∃ r0:List Int,r0.length=G.length/\S.obj 0=some (.row 1 (els intc r0))) /\
        ∃ (r fr:List Int),r.length=G.length/\S.obj 1=some (.row 1 (els intc r))/\Fre S (F 9) fr/\(∀x ∈ fr,0<=x/\x < G.length)/\posN r + fr.length + (c + 1)=256/\∀x ∈ r,-((c:Int) * 1048576) - k<=x/\x<=134217728) (fun k=>l.length - k) ?_ 0 _ _ ?_
       ·rintro k F S ⟨hk,h0,h3,h4,h12,h66,h67,h68,hn,⟨r0,hr0,ho0⟩,r,fr,hr,ho1,hfr,hfx,hc,hcx⟩
        by_cases hlk:k < l.length
        ·obtain ⟨x,hxk⟩:∃ x,l[k]?=some x:=⟨_,xgG hlk⟩
         have e5:=wrapS k (by omega)
         obtain ⟨hx0,hxn⟩:=hlx x (xmG hxk)
         obtain ⟨b,rfl⟩:∃ b:Nat,x=(b:Int):=⟨x.toNat,by omega⟩
         have hbn:b < G.length:=by omega
         obtain ⟨y,hy⟩:∃ y,r[b]?=some y:=⟨_,xgG (by omega)⟩
         obtain ⟨u,hu⟩:∃ u,r0[b]?=some u:=⟨_,xgG (by omega)⟩
         obtain ⟨u',hu'⟩:∃ u,r0[a]?=some u:=⟨_,xgG (by omega)⟩
         have hyb:=hcx y (xmG hy)
         have e6:IntKind.i64.wrap (y - 1)=y - 1:=xAa (by omega)
         simp [h67,h68,hlk]
         simp [h66,h68,hw.idx hxk,intc]
         refine Dra.auto [] mix ?_ ?_
         ·kernel_rfl
         simp [classes,h3,h12,xAd hbn,xAd han,ho0,hu,hu',intc,foldI]
         have hbs:((els intc r).set b [AV.int IntKind.i64 (y - 1)])[b]?=some [AV.int IntKind.i64 (y - 1)]:=by rw [List.getElem?_set_self (by simp;omega)]
         simp [h4,xAd hbn,ho1,hy,intc,e6,hbs]
         generalize hz:(if u < IntKind.i64.wrap (u' + 1) then IntKind.i64.wrap (u' + 1) else u)=z
         have hps:=xQR (y:=y - 1) hy
         have hfr2:Fre ((S.set 0 (.row 1 ((els intc r0).set b [.int .i64 z]))).set 1 (.row 1 ((els intc r).set b [.int .i64 (y - 1)]))) (F 9) fr:=hfr.other (by simp) fun q h1 h2=>by simp [show ¬ q=0 by omega,show ¬ q=1 by omega]
         have hrx:∀x ∈ r.set b (y - 1),-((c:Int) * 1048576) - (k + 1:Nat)<=x/\x<=134217728:=by
          intro x hx
          rcases List.mem_or_eq_of_mem_set hx with h | rfl
          ·have:=hcx x h;omega
          ·omega
         by_cases hy1:y - 1=0
         ·have hpl:=xKS r
          obtain ⟨w',S',q1,q2,q3,q4,q5⟩:=(hfr2.other (S':=((S.set 0 (.row 1 ((els intc r0).set b [.int .i64 z]))).set 1 (.row 1 ((els intc r).set b [.int .i64 (y - 1)]))).new (.row 1 [[.int .i64 (b:Int)]])) (by simp) (fun q h1 h2=>by simp at h2;simp [show ¬ q=S.next by omega])).app (x:=(b:Int)) (by simp;omega) (by simp [room];omega)
          have p0:=q5 0 (by omega)
          have p1:=q5 1 (by omega)
          simp [show ¬ 0=S.next by omega] at p0
          simp [show ¬ 1=S.next by omega] at p1
          rw [hy1] at q1 p1 hrx hps
          simp [hy1]
          simp [q1,h0,h3,h4,h12,h66,h67,h68,e5]
          refine ⟨k + 1,by omega,by omega,by omega,by simp at q3;omega,⟨r0.set b z,by simp [hr0],by rw [p0,<- xAg];rfl⟩,r.set b 0,by simp [hr],by rw [p1,<- xAg];rfl,_,q4,?_,?_,hrx⟩
          ·intro x hx
           rw [List.mem_append,List.mem_singleton] at hx
           rcases hx with hx | rfl
           ·exact hfx x hx
           ·omega
          ·have:y=1:=by omega
           subst this
           simp at hps ⊢
           omega
         ·simp [hy1,h0,h3,h4,h12,h66,h67,h68,e5]
          refine ⟨k + 1,by omega,by omega,by omega,hn,⟨r0.set b z,by simp [hr0],by rw [<- xAg];rfl⟩,r.set b (y - 1),by simp [hr],by rw [<- xAg];rfl,fr,hfr2,hfx,?_,hrx⟩
          by_cases h1:0 < y
          ·rw [if_pos h1,if_pos (by omega)] at hps
           omega
          ·rw [if_neg h1,if_neg (by omega)] at hps
           omega
        ·have:k=l.length:=by omega
         subst this
         simp [h67,h68,h0,h3,h4]
         refine ⟨fr,r,by omega,hn,⟨r0,hr0,ho0⟩,hr,ho1,hfr,hfx,c + 1,hc,fun x hx=>?_⟩
         have:=hcx x hx
         omega
       ·simp [h0,h3,h4]
        exact ⟨hn,⟨r0,hr0,ho0⟩,r,hr,ho1,fr,hfr',fun x hx=>hfx x (by simp [hx]),by omega,hcx⟩
     ·simp
      exact ⟨h0,h3,h4,hn,⟨_,by simp,ho0⟩,hr,ho1,hfr,hfx,256 - (posN r + fr.length),by have:=xKS r;omega,fun x hx=>by have:=hrb x hx;omega⟩
   ·simp
    exact ⟨h0,h3,h4,hn,ho0,ho1,[],.inl ⟨rfl,rfl⟩,rfl,by simp⟩
 ·simp
  exact ⟨_,by simp,rfl,fun x hx=>by rw [(List.mem_replicate.1 hx).2];omega⟩
end Go.Proofs.YtnhfofmhkfdpgaaGreatDoor.Vm
