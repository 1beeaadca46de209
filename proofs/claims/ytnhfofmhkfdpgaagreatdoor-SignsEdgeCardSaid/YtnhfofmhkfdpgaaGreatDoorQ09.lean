/- A part of the proof: Vw Vv. -/
import Derived.Test.YtnhfofmhkfdpgaaGreatDoorQ08
set_option linter.unusedVariables false
set_option linter.unusedSimpArgs false
set_option linter.constructorNameAsVariable false
namespace Go.Proofs.YtnhfofmhkfdpgaaGreatDoor.Vm
open Go Go.RowKit
inductive DC where
 | P | L | B | X
 deriving DecidableEq,Inhabited
def DC.heavy:DC->Bool
 | .B=>true
 | .X=>true
 | _=>false
structure DS where
 cl:DC
 v:AV
 T:St
def ancStep (acc:List (List Nat)) (l:List Nat):List (List Nat):=acc ++ [(l ++ (l.map fun i=>acc.getD i []).flatten).eraseDups]
def ancs (aft:List (List Nat)):List (List Nat):=aft.foldl ancStep []
def isIn (id k q:Nat):Bool:=decide (id<=q/\q < id + k)
section
variable {P:Program} {g:Glob}
def storeAt (S0:St) (ds:List DS):Nat->St
 | 0=>S0
 | i + 1=>match ds[i]? with
  | some d=>d.T
  | none=>storeAt S0 ds i
structure DrawOK (P:Program) (g:Glob) (l:List VOper) (aft:List (List Nat)) (F FF:AFrame) (S0 R:St) (ds:List DS) (G:Nat->AFrame):Prop where
 len:ds.length=l.length
 alen:aft.length=l.length
 fin:∀(i:Nat) (o:VOper) (d:DS) (t:Nat),l[i]?=some o->ds[i]?=some d->o.dst=some t->FF t=d.v
 rest:∀t,(∀(i:Nat) (o:VOper),l[i]?=some o->o.dst ≠ some t)->FF t=F t
 one:∀(i j:Nat) (o o':VOper) (t:Nat),l[i]?=some o->l[j]?=some o'->o.dst=some t->o'.dst=some t->i=j
 reads:∀(j:Nat) (o:VOper) (t:Nat),l[j]?=some o->t ∈ o.reads->(∃ (i:Nat) (o':VOper),l[i]?=some o'/\o'.dst=some t/\i ∈ aft.getD j []/\G j t=FF t) \/ ((∀(i:Nat) (o':VOper),l[i]?=some o'->o'.dst=some t->i=j \/ j ∈ aft.getD i [])/\G j t=F t)
 before:∀(j i:Nat),i ∈ aft.getD j []->i < j
 anc:∀(j:Nat) (dj:DS),ds[j]?=some dj->dj.cl=.X->∀(i:Nat) (di:DS),ds[i]?=some di->di.cl.heavy=true->i < j->i ∈ (ancs aft).getD j []
 order:∀(i j:Nat) (di dj:DS),ds[i]?=some di->ds[j]?=some dj->di.cl=.B->dj.cl=.X->i < j
 subR:Sub R S0
 subX:∀(j:Nat) (dj:DS),ds[j]?=some dj->dj.cl=.X->Sub R dj.T \/ ∀(i:Nat) (di:DS),ds[i]?=some di->di.cl=.L->i ∈ (ancs aft).getD j []
 light:∀(i:Nat) (d:DS),ds[i]?=some d->d.cl.heavy=false->d.T=storeAt S0 ds i
 pP:∀(i:Nat) (o:VOper) (d:DS),l[i]?=some o->ds[i]?=some d->d.cl=.P->∀S,Ben P g o (G i) S 0 d.v 0 (fun _=>none)
 pL:∀(i:Nat) (o:VOper) (d:DS),l[i]?=some o->ds[i]?=some d->d.cl=.L->Ben P g o (G i) R 0 d.v 0 (fun _=>none)
 pB:∀(i:Nat) (o:VOper) (d:DS),l[i]?=some o->ds[i]?=some d->d.cl=.B->(storeAt S0 ds i).next<=d.T.next/\(∀q,d.T.obj q=if isIn (storeAt S0 ds i).next (d.T.next - (storeAt S0 ds i).next) q then d.T.obj q else (storeAt S0 ds i).obj q) /\
  Ben P g o (G i) S0 (storeAt S0 ds i).next d.v (d.T.next - (storeAt S0 ds i).next) (fun q=>d.T.obj ((storeAt S0 ds i).next + q))
 pX:∀(i:Nat) (o:VOper) (d:DS),l[i]?=some o->ds[i]?=some d->d.cl=.X->∀F',(∀t ∈ o.reads,F' t=G i t)->WOp P g o F' (storeAt S0 ds i) (fun v S'=>v=d.v/\S'=d.T)
variable {l:List VOper} {aft:List (List Nat)} {F FF:AFrame} {S0 R:St} {ds:List DS} {G:Nat->AFrame}
theorem xOe:∀(aft:List (List Nat)) (j i:Nat),(∀j i,i ∈ aft.getD j []->i < j)->i ∈ (ancs aft).getD j []->i ∈ aft.getD j [] \/ ∃ m,m ∈ aft.getD j []/\i ∈ (ancs aft).getD m []:=by
 intro aft
 unfold ancs
 have snoc:∀(xs:List (List Nat)) (x:List Nat),(xs ++ [x]).foldl ancStep [] =
   (xs.foldl ancStep []) ++ [(x ++ (x.map fun i=>(xs.foldl ancStep []).getD i []).flatten).eraseDups]:=by
  intro xs x;rw [List.foldl_append];rfl
 have lens:∀(n:Nat) (xs:List (List Nat)),xs.length=n->(xs.foldl ancStep ([]:List (List Nat))).length=xs.length:=by
  intro n
  induction n with
  | zero=>intro xs h;rw [List.eq_nil_of_length_eq_zero h];rfl
  | succ n ih =>
   intro xs h
   have hne:xs ≠ []:=by rintro rfl;simp at h
   rw [<- List.dropLast_concat_getLast hne,snoc]
   simp only [List.length_append,List.length_singleton]
   rw [ih xs.dropLast (by simp [h])]
 suffices H:∀(n:Nat) (xs:List (List Nat)),xs.length=n->∀j i,(∀j i,i ∈ xs.getD j []->i < j)->i ∈ (xs.foldl ancStep ([]:List (List Nat))).getD j [] ->
   i ∈ xs.getD j [] \/ ∃ m,m ∈ xs.getD j []/\i ∈ (xs.foldl ancStep ([]:List (List Nat))).getD m [] from fun j i h=>H aft.length aft rfl j i h
 intro n
 induction n with
 | zero=>intro xs h j i _ hi;rw [List.eq_nil_of_length_eq_zero h] at hi;simp at hi
 | succ n ih =>
  intro xs h j i hb hi
  have hne:xs ≠ []:=by rintro rfl;simp at h
  obtain ⟨ys,y,rfl⟩:∃ ys y,xs=ys ++ [y]:=⟨xs.dropLast,xs.getLast hne,(List.dropLast_concat_getLast hne).symm⟩
  have hy:ys.length=n:=by simpa using h
  have hl:=lens n ys hy
  have ih:=ih ys hy
  rw [snoc] at hi ⊢
  generalize ys.foldl ancStep ([]:List (List Nat))=A at *
  have getA:∀(z:List Nat) (j:Nat),j < n->(A ++ [z]).getD j []=A.getD j []:=by
   intro z j hj;simp only [List.getD_eq_getElem?_getD];rw [List.getElem?_append_left (by omega)]
  have getY:∀(j:Nat),j < n->(ys ++ [y]).getD j []=ys.getD j []:=by
   intro j hj;simp only [List.getD_eq_getElem?_getD];rw [List.getElem?_append_left (by omega)]
  by_cases hj:j < n
  ·rw [getA _ j hj] at hi
   rw [getY j hj]
   have hb':∀j i,i ∈ ys.getD j []->i < j:=by
    intro j i hm
    by_cases hjn:j < n
    ·exact hb j i (by rw [getY j hjn];exact hm)
    ·simp only [List.getD_eq_getElem?_getD] at hm;rw [List.getElem?_eq_none (by omega)] at hm;simp at hm
   rcases ih j i hb' hi with h1 | ⟨m,h1,h2⟩
   ·exact .inl h1
   ·have:=hb' j m h1
    exact .inr ⟨m,h1,by rw [getA _ m (by omega)];exact h2⟩
  ·by_cases hjn:j=n
   ·subst hjn
    have e1:∀z:List Nat,(A ++ [z]).getD j []=z:=by
     intro z;simp only [List.getD_eq_getElem?_getD];rw [List.getElem?_append_right (by omega)];simp [hl,hy]
    have e2:(ys ++ [y]).getD j []=y:=by
     simp only [List.getD_eq_getElem?_getD];rw [List.getElem?_append_right (by omega)];simp [hy]
    rw [e1] at hi
    rw [e2]
    rw [List.mem_eraseDups,List.mem_append] at hi
    rcases hi with hi | hi
    ·exact .inl hi
    ·rw [List.mem_flatten] at hi
     obtain ⟨s,hs,hi⟩:=hi
     obtain ⟨m,hm,rfl⟩:=List.mem_map.1 hs
     have hmj:=hb j m (by rw [e2];exact hm)
     exact .inr ⟨m,hm,by rw [getA _ m hmj];exact hi⟩
   ·simp only [List.getD_eq_getElem?_getD] at hi;rw [List.getElem?_eq_none (by simp;omega)] at hi;simp at hi
structure DrawEnd (ds:List DS) (e:Nat):Prop where
 le:e<=ds.length
 b:∀(i:Nat) (d:DS),ds[i]?=some d->d.cl=.B->i < e
 x:∀(i:Nat) (d:DS),ds[i]?=some d->d.cl=.X->e<=i
theorem xAK {S0:St} {ds:List DS} {i:Nat} {d:DS} (h:ds[i]?=some d):storeAt S0 ds (i + 1)=d.T:=by simp [storeAt,h]
section
variable (D:DrawOK P g l aft F FF S0 R ds G)
include D
theorem DrawOK.same {i j : Nat} (hij : i ≤ j) (hj : j ≤ ds.length) (h : ∀ (k : Nat) (d : DS), i ≤ k → k < j → ds[k]? = some d → d.cl.heavy = false) : storeAt S0 ds j = storeAt S0 ds i := by
  induction j with
  | zero => have : i = 0 := by omega
            rw [this]
  | succ j ih =>
    by_cases e : i = j + 1
    · rw [e]
    · have hlt : j < ds.length := by omega
      have hd : ds[j]? = some ds[j] := xgG hlt
      rw [xAK hd, D.light j _ hd (h j _ (by omega) (by omega) hd)]
      exact ih (by omega) (by omega) (fun k d h1 h2 => h k d h1 (by omega))
theorem DrawOK.mono {e : Nat} (E : DrawEnd ds e) {i j : Nat} (hij : i ≤ j) (hj : j ≤ e) : (storeAt S0 ds i).next ≤ (storeAt S0 ds j).next := by
  have := E.le
  induction j with
  | zero => have : i = 0 := by omega
            rw [this]; exact Nat.le_refl _
  | succ j ih =>
    by_cases h : i = j + 1
    · rw [h]; exact Nat.le_refl _
    · have hd : ds[j]? = some ds[j] := xgG (by omega)
      refine Nat.le_trans (ih (by omega) (by omega)) ?_
      rw [xAK hd]
      cases hc : ds[j].cl
      · rw [D.light j _ hd (by rw [hc]; rfl)]; exact Nat.le_refl _
      · rw [D.light j _ hd (by rw [hc]; rfl)]; exact Nat.le_refl _
      · have hl : l[j]? = some (l[j]'(by have := D.len; omega)) := xgG _
        exact (D.pB j _ _ hl hd hc).1
      · have := E.x j _ hd hc; omega
theorem DrawOK.laid {e:Nat} (E:DrawEnd ds e) (q:Nat):∀j,j<=e->(∀(i:Nat) (d:DS),i < j->ds[i]?=some d->d.cl=.B->(storeAt S0 ds i).next<=q->q < d.T.next->(storeAt S0 ds j).obj q=d.T.obj q) /\
  ((∀(i:Nat) (d:DS),i < j->ds[i]?=some d->d.cl=.B->¬ ((storeAt S0 ds i).next<=q/\q < d.T.next))->(storeAt S0 ds j).obj q=S0.obj q):=by
 have hle:=E.le
 intro j
 induction j with
 | zero=>intro _;exact ⟨fun i d h=>absurd h (by omega),fun _=>rfl⟩
 | succ j ih =>
  intro hj
  obtain ⟨ih1,ih2⟩:=ih (by omega)
  have hd:ds[j]?=some ds[j]:=xgG (by omega)
  rw [xAK hd]
  by_cases hB:ds[j].cl=.B
  ·have hl:l[j]?=some (l[j]'(by have:=D.len;omega)):=xgG _
   obtain ⟨h1,h2,_⟩:=D.pB j _ _ hl hd hB
   refine ⟨?_,?_⟩
   ·intro i d hi hdi hbi q1 q2
    by_cases hij:i=j
    ·subst hij;rw [hd] at hdi;cases hdi;rfl
    ·have hmono:=D.mono E (i:=i + 1) (j:=j) (by omega) (by omega)
     rw [xAK hdi] at hmono
     rw [h2 q,if_neg (by simp only [isIn,decide_eq_true_eq];omega)]
     exact ih1 i d (by omega) hdi hbi q1 q2
   ·intro hno
    have:=hno j _ (by omega) hd hB
    rw [h2 q,if_neg (by simp only [isIn,decide_eq_true_eq];omega)]
    exact ih2 (fun i d hi=>hno i d (by omega))
  ·have hl:ds[j].cl.heavy=false:=by
    cases hc:ds[j].cl
    ·rfl
    ·rfl
    ·exact absurd hc hB
    ·have:=E.x j _ hd hc;omega
   rw [D.light j _ hd hl]
   refine ⟨fun i d hi hdi hbi=>?_,fun hno=>ih2 (fun i d hi=>hno i d (by omega))⟩
   by_cases hij:i=j
   ·subst hij;rw [hd] at hdi;cases hdi;exact absurd hbi hB
   ·exact ih1 i d (by omega) hdi hbi
end
structure DrawAt (l:List VOper) (aft:List (List Nat)) (F FF:AFrame) (S0:St) (ds:List DS) (e:Nat) (L:Nat->Bool) (C:Ctx) (F':AFrame):Prop where
 down:∀j i,L j=true->i ∈ aft.getD j []->L i=true
 yes:∀(t i:Nat) (o:VOper),l[i]?=some o->o.dst=some t->L i=true->F' t=FF t
 no:∀t,(∀(i:Nat) (o:VOper),l[i]?=some o->o.dst=some t->L i=false)->F' t=F t
 store:((∀(i:Nat) (d:DS),ds[i]?=some d->d.cl=.X->L i=false)/\C.S.next=(storeAt S0 ds e).next /\
   (∀q,(∀(i:Nat) (d:DS),ds[i]?=some d->d.cl=.B->L i=true->(storeAt S0 ds i).next<=q->q < d.T.next->C.S.obj q=d.T.obj q) /\
    ((∀(i:Nat) (d:DS),ds[i]?=some d->d.cl=.B->L i=true->¬ ((storeAt S0 ds i).next<=q/\q < d.T.next))->C.S.obj q=S0.obj q)) /\
   (∀(q i:Nat) (d:DS),ds[i]?=some d->d.cl=.B->L i=false->(storeAt S0 ds i).next<=q->q < d.T.next->C.μ q=none)) \/
  (∃ (x:Nat) (dx:DS),ds[x]?=some dx/\dx.cl=.X/\(∀(i:Nat) (d:DS),ds[i]?=some d->d.cl.heavy=true->(L i=true ↔ i<=x))/\C.S=storeAt S0 ds (x + 1))
theorem DrawAt.anc {e:Nat} {L:Nat->Bool} {C:Ctx} {F':AFrame} (A:DrawAt l aft F FF S0 ds e L C F') (hb:∀j i,i ∈ aft.getD j []->i < j):∀j i,(∀m,m ∈ aft.getD j []->L m=true)->i ∈ (ancs aft).getD j []->L i=true:=by
 intro j
 induction j using Nat.strongRecOn with
 | ind j ih =>
  intro i hj hi
  rcases xOe aft j i hb hi with h | ⟨m,h1,h2⟩
  ·exact hj i h
  ·exact ih m (hb j m h1) i (fun m' hm'=>A.down m m' (hj m h1) hm') h2
theorem St.ext' {A B:St} (h1:A.next=B.next) (h2:∀q,A.obj q=B.obj q):A=B:=by
 cases A;cases B;simp only [St.mk.injEq] at *;exact ⟨h1,funext h2⟩
theorem DrawAt.storeIs (D:DrawOK P g l aft F FF S0 R ds G) {e:Nat} (E:DrawEnd ds e) {L:Nat->Bool} {C:Ctx} {F':AFrame} (A:DrawAt l aft F FF S0 ds e L C F') {i:Nat} (hei:e<=i) (hlen:i<=ds.length)
  (hahead:∀(k:Nat) (dk:DS),ds[k]?=some dk->dk.cl.heavy=true->k < i->L k=true) (hbehind:∀(k:Nat) (dk:DS),ds[k]?=some dk->dk.cl.heavy=true->i<=k->L k=false):C.S=storeAt S0 ds i:=by
 rcases A.store with ⟨s1,s2,s3,s4⟩ | ⟨x,dx,x1,x2,x3,x4⟩
 ·have hallB:∀(k:Nat) (dk:DS),ds[k]?=some dk->dk.cl=.B->L k=true:=fun k dk hk hB=>hahead k dk hk (by rw [hB];rfl) (by have:=E.b k dk hk hB;omega)
  have h1:storeAt S0 ds i=storeAt S0 ds e:=by
   refine D.same hei (by omega) (fun k dk h1 h2 hk=>?_)
   cases hc':dk.cl
   ·rfl
   ·rfl
   ·have:=E.b k dk hk hc';omega
   ·have:=hahead k dk hk (by rw [hc'];rfl) h2
    rw [s1 k dk hk hc'] at this;cases this
  rw [h1]
  refine St.ext' s2 (fun q=>?_)
  obtain ⟨l1,l2⟩:=D.laid E q e (Nat.le_refl _)
  by_cases hq:∃ (k:Nat) (dk:DS),ds[k]?=some dk/\dk.cl=.B/\(storeAt S0 ds k).next<=q/\q < dk.T.next
  ·obtain ⟨k,dk,hk,hB,q1,q2⟩:=hq
   rw [(s3 q).1 k dk hk hB (hallB k dk hk hB) q1 q2,l1 k dk (E.b k dk hk hB) hk hB q1 q2]
  ·rw [(s3 q).2 (fun k dk hk hB _ hh=>hq ⟨k,dk,hk,hB,hh.1,hh.2⟩),l2 (fun k dk _ hk hB hh=>hq ⟨k,dk,hk,hB,hh.1,hh.2⟩)]
 ·have hxi:x < i:=by
   have h2:=(x3 x dx x1 (by rw [x2];rfl)).2 (Nat.le_refl _)
   rcases Nat.lt_or_ge x i with h | h
   ·exact h
   ·rw [hbehind x dx x1 (by rw [x2];rfl) h] at h2;cases h2
  rw [x4]
  refine (D.same (by omega) (by omega) (fun k dk h1 h2 hk=>?_)).symm
  cases hh:dk.cl.heavy
  ·rfl
  ·have:=(x3 k dk hk hh).1 (hahead k dk hk hh h2);omega
theorem DrawAt.step (D:DrawOK P g l aft F FF S0 R ds G) {e:Nat} (E:DrawEnd ds e) (hlow:∀q,S0.next<=q->S0.obj q=none) {n B:Nat} {ro:Option Nat} {ops:Array Oper} {L:Nat->Bool} {C:Ctx} {F':AFrame} {a:Act} {K:Act->World->Prop} {Q':Exit->Act->World->Prop}
  (A:DrawAt l aft F FF S0 ds e L C F') (hA:AtC g C F' n B ro a) {i:Nat} {oper:Oper} {o:VOper} {d:DS} (hi:ops[i]?=some oper) (hc:compOper P n ops oper=some o) (hl:l[i]?=some o) (hd:ds[i]?=some d) (hL:L i=false) (hr:∀m,m ∈ aft.getD i []->L m=true)
  (hK:∀u C' L',(∀k,L' k=if k=i then true else L k)->Le C C'->AtC g C' (put F' o.dst d.v) n B ro (a.put o.dst u)->DrawAt l aft F FF S0 ds e L' C' (put F' o.dst d.v)->K (a.put o.dst u) C'.w):wpOpIn (fence ro) 0 P ops Q' i K a C.w:=by
 have hreads:∀t ∈ o.reads,F' t=G i t:=by
  intro t ht
  rcases D.reads i o t hl ht with ⟨k,o',h1,h2,h3,h4⟩ | ⟨h1,h2⟩
  ·rw [h4];exact A.yes t k o' h1 h2 (hr k h3)
  ·rw [h2]
   refine A.no t (fun k o' a b=>?_)
   rcases h1 k o' a b with rfl | h
   ·exact hL
   ·cases hLk:L k
    ·rfl
    ·have:=A.down k i hLk h
     rw [hL] at this;cases this
 have hdst:=(xA8 hc).2.2
 have frame:∀(C':Ctx) (L':Nat->Bool),(∀k,L' k=if k=i then true else L k)->(((∀(k:Nat) (d:DS),ds[k]?=some d->d.cl=.X->L' k=false)/\C'.S.next=(storeAt S0 ds e).next /\
   (∀q,(∀(k:Nat) (d:DS),ds[k]?=some d->d.cl=.B->L' k=true->(storeAt S0 ds k).next<=q->q < d.T.next->C'.S.obj q=d.T.obj q) /\
    ((∀(k:Nat) (d:DS),ds[k]?=some d->d.cl=.B->L' k=true->¬ ((storeAt S0 ds k).next<=q/\q < d.T.next))->C'.S.obj q=S0.obj q)) /\
   (∀(q k:Nat) (d:DS),ds[k]?=some d->d.cl=.B->L' k=false->(storeAt S0 ds k).next<=q->q < d.T.next->C'.μ q=none)) \/
  (∃ (x:Nat) (dx:DS),ds[x]?=some dx/\dx.cl=.X/\(∀(k:Nat) (d:DS),ds[k]?=some d->d.cl.heavy=true->(L' k=true ↔ k<=x))/\C'.S=storeAt S0 ds (x + 1)))->DrawAt l aft F FF S0 ds e L' C' (put F' o.dst d.v):=by
  intro C' L' hL' hst
  refine ⟨?_,?_,?_,hst⟩
  ·intro j m hj hm
   rw [hL' m]
   split
   ·rfl
   ·rename_i hmi
    rw [hL' j] at hj
    split at hj
    ·rename_i e1;subst e1;exact hr m hm
    ·exact A.down j m hj hm
  ·intro t k o' hk hkt hLk
   by_cases hki:k=i
   ·subst hki
    rw [hl] at hk;cases hk
    rw [hkt];simp only [put,upd,if_true]
    exact (D.fin k o d t hl hd hkt).symm
   ·rw [hL' k,if_neg hki] at hLk
    have:o.dst ≠ some t:=fun h=>hki (D.one k i o' o t hk hl hkt h)
    cases hod:o.dst with
    | none=>exact A.yes t k o' hk hkt hLk
    | some t' =>
     rw [hod] at this
     have hne:t ≠ t':=fun h=>this (by rw [h])
     simp only [put,upd,if_neg hne]
     exact A.yes t k o' hk hkt hLk
  ·intro t ht
   have h1:=ht i o hl
   have:o.dst ≠ some t:=by
    intro h;have:=h1 h;rw [hL' i,if_pos rfl] at this;cases this
   have h2:F' t=F t:=A.no t (fun k o' a b=>by have:=ht k o' a b;rw [hL' k] at this;split at this;cases this;exact this)
   cases hod:o.dst with
   | none=>exact h2
   | some t' =>
    rw [hod] at this
    have hne:t ≠ t':=fun h=>this (by rw [h])
    simp only [put,upd,if_neg hne];exact h2
 have free0:∀id,id<=C.S.next->Free C id 0 C.S.next:=fun id h=>⟨fun q h1 h2=>by omega,by omega,Nat.le_refl _⟩
 have lay:∀(S:St) (ob:Nat->Option AObj) (id:Nat),(⟨S.next,fun q=>if id<=q/\q < id + 0 then ob (q - id) else S.obj q⟩:St)=S:=fun S ob id=>lay0.symm
 have keepStore:d.cl.heavy=false->∀(C':Ctx) (L':Nat->Bool),(∀k,L' k=if k=i then true else L k)->C'.S=C.S->(∀q,C'.μ q=C.μ q)->DrawAt l aft F FF S0 ds e L' C' (put F' o.dst d.v):=by
  intro hlt C' L' hL' hS hμ
  have hLk:∀(k:Nat) (dk:DS),ds[k]?=some dk->dk.cl.heavy=true->L' k=L k:=by
   intro k dk hk hh
   rw [hL' k,if_neg]
   rintro rfl;rw [hd] at hk;cases hk;rw [hlt] at hh;cases hh
  refine frame C' L' hL' ?_
  rcases A.store with ⟨s1,s2,s3,s4⟩ | ⟨x,dx,x1,x2,x3,x4⟩
  ·refine .inl ⟨fun k dk hk hX=>by rw [hLk k dk hk (by rw [hX];rfl)];exact s1 k dk hk hX,by rw [hS];exact s2,fun q=>⟨fun k dk hk hB hLt=>?_,fun hno=>?_⟩,fun q k dk hk hB hLf a b=>?_⟩
   ·rw [hS];rw [hLk k dk hk (by rw [hB];rfl)] at hLt;exact (s3 q).1 k dk hk hB hLt
   ·rw [hS];exact (s3 q).2 (fun k dk hk hB hLt=>hno k dk hk hB (by rw [hLk k dk hk (by rw [hB];rfl)];exact hLt))
   ·rw [hμ];rw [hLk k dk hk (by rw [hB];rfl)] at hLf;exact s4 q k dk hk hB hLf a b
  ·exact .inr ⟨x,dx,x1,x2,fun k dk hk hh=>by rw [hLk k dk hk hh];exact x3 k dk hk hh,by rw [hS];exact x4⟩
 have hsubR:d.cl=.L->Sub R C.S:=by
  intro hdL q y hq
  rcases A.store with ⟨s1,s2,s3,s4⟩ | ⟨x,dx,x1,x2,x3,x4⟩
  ·have h0:=D.subR q y hq
   rw [(s3 q).2 ?_];exact h0
   rintro k dk hk hB _ ⟨q1,_⟩
   have:=hlow q (Nat.le_trans (D.mono E (i:=0) (j:=k) (Nat.zero_le _) (Nat.le_of_lt (E.b k dk hk hB))) q1)
   rw [this] at h0;cases h0
  ·rw [x4,xAK x1]
   rcases D.subX x dx x1 x2 with h | h
   ·exact h q y hq
   ·have hLx:L x=true:=(x3 x dx x1 (by rw [x2];rfl)).2 (Nat.le_refl _)
    have:=A.anc D.before x i (fun m hm=>A.down x m hLx hm) (h i d hd hdL)
    rw [hL] at this;cases this
 cases hcl:d.cl with
 | P =>
  refine (D.pP i o d hl hd hcl St.empty) ops i n B ro a C oper K Q' F' hi hc hA hreads (by intro q y hq;cases hq) (free0 0 (Nat.zero_le _)) ?_
  intro u C' h1 h2 h3 h4 h5
  have h1:C'.S=C.S:=h1.trans (lay C.S (fun _=>none) 0)
  exact hK u C' _ (fun k=>rfl) h3 (hA.next h3 h4 h5 hdst) (keepStore (by rw [hcl];rfl) C' _ (fun k=>rfl) h1 (fun q=>h2 q (by omega)))
 | L =>
  refine (D.pL i o d hl hd hcl) ops i n B ro a C oper K Q' F' hi hc hA hreads (hsubR hcl) (free0 0 (Nat.zero_le _)) ?_
  intro u C' h1 h2 h3 h4 h5
  have h1:C'.S=C.S:=h1.trans (lay C.S (fun _=>none) 0)
  exact hK u C' _ (fun k=>rfl) h3 (hA.next h3 h4 h5 hdst) (keepStore (by rw [hcl];rfl) C' _ (fun k=>rfl) h1 (fun q=>h2 q (by omega)))
 | B =>
  obtain ⟨hb1,hb2,hb3⟩:=D.pB i o d hl hd hcl
  have hie:=E.b i d hd hcl
  rcases A.store with ⟨s1,s2,s3,s4⟩ | ⟨x,dx,x1,x2,x3,x4⟩
  ·have hsub:Sub S0 C.S:=by
    intro q y hq
    rw [(s3 q).2 ?_];exact hq
    rintro k dk hk hB _ ⟨q1,_⟩
    have:=hlow q (Nat.le_trans (D.mono E (i:=0) (j:=k) (Nat.zero_le _) (Nat.le_of_lt (E.b k dk hk hB))) q1)
    rw [this] at hq;cases hq
   have htop:=D.mono E (i:=i + 1) (j:=e) (by omega) (Nat.le_refl _)
   rw [xAK hd] at htop
   have hbase:=D.mono E (i:=0) (j:=i) (Nat.zero_le _) (by omega)
   have hbase:S0.next<=(storeAt S0 ds i).next:=hbase
   have disj:∀(k:Nat) (dk:DS) (q:Nat),ds[k]?=some dk->dk.cl=.B->k ≠ i->(storeAt S0 ds k).next<=q->q < dk.T.next->¬ ((storeAt S0 ds i).next<=q/\q < d.T.next):=by
    rintro k dk q hk hB hne q1 q2 ⟨q3,q4⟩
    have hke:=E.b k dk hk hB
    rcases Nat.lt_or_gt_of_ne hne with h | h
    ·have:=D.mono E (i:=k + 1) (j:=i) (by omega) (by omega)
     rw [xAK hk] at this;omega
    ·have:=D.mono E (i:=i + 1) (j:=k) (by omega) (by omega)
     rw [xAK hd] at this;omega
   have hfree:Free C (storeAt S0 ds i).next (d.T.next - (storeAt S0 ds i).next) C.S.next:=by
    refine ⟨fun q h1 h2=>⟨?_,s4 q i d hd hcl hL h1 (by omega)⟩,by rw [s2];omega,Nat.le_refl _⟩
    rw [(s3 q).2 ?_]
    ·exact hlow q (by omega)
    ·rintro k dk hk hB hLk ⟨q1,q2⟩
     have hki:k ≠ i:=by rintro rfl;rw [hL] at hLk;cases hLk
     exact disj k dk q hk hB hki q1 q2 ⟨h1,by omega⟩
   refine hb3 ops i n B ro a C oper K Q' F' hi hc hA hreads hsub hfree ?_
   intro u C' h1 h2 h3 h4 h5
   refine hK u C' _ (fun k=>rfl) h3 (hA.next h3 h4 h5 hdst) (frame C' _ (fun k=>rfl) (.inl ⟨?_,?_,?_,?_⟩))
   ·intro k dk hk hX
    rw [if_neg]
    ·exact s1 k dk hk hX
    ·rintro rfl;rw [hd] at hk;cases hk;rw [hcl] at hX;cases hX
   ·rw [h1];exact s2
   ·intro q
    have hobj:C'.S.obj q=if (storeAt S0 ds i).next<=q/\q < (storeAt S0 ds i).next + (d.T.next - (storeAt S0 ds i).next) then d.T.obj q else C.S.obj q:=by
     rw [h1]
     simp only
     by_cases hq:(storeAt S0 ds i).next<=q/\q < (storeAt S0 ds i).next + (d.T.next - (storeAt S0 ds i).next)
     ·rw [if_pos hq,if_pos hq];congr 1;omega
     ·rw [if_neg hq,if_neg hq]
    refine ⟨fun k dk hk hB hLk q1 q2=>?_,fun hno=>?_⟩
    ·by_cases hki:k=i
     ·subst hki;rw [hd] at hk;cases hk
      rw [hobj,if_pos (by omega)]
     ·simp only [if_neg hki] at hLk
      have:=disj k dk q hk hB hki q1 q2
      rw [hobj,if_neg (by omega)]
      exact (s3 q).1 k dk hk hB hLk q1 q2
    ·have:=hno i d hd hcl (by simp)
     rw [hobj,if_neg (by omega)]
     refine (s3 q).2 (fun k dk hk hB hLk=>hno k dk hk hB ?_)
     split
     ·rfl
     ·exact hLk
   ·intro q k dk hk hB hLk q1 q2
    split at hLk
    ·cases hLk
    ·rename_i hki
     have:=disj k dk q hk hB hki q1 q2
     rw [h2 q (by omega)]
     exact s4 q k dk hk hB hLk q1 q2
  ·have:=(x3 i d hd (by rw [hcl];rfl)).2 (by have:=E.x x dx x1 x2;omega)
   rw [hL] at this;cases this
 | X =>
  have hei:=E.x i d hd hcl
  have hlen:i < ds.length:=(xgS hd).1
  have hahead:∀(k:Nat) (dk:DS),ds[k]?=some dk->dk.cl.heavy=true->k < i->L k=true:=fun k dk hk hh hlt=>A.anc D.before i k hr (D.anc i d hd hcl k dk hk hh hlt)
  have hS:C.S=storeAt S0 ds i:=by
   refine A.storeIs D E hei (by omega) hahead (fun k dk hk hh hik=>?_)
   cases hLk:L k
   ·rfl
   ·exfalso
    rcases A.store with ⟨s1,s2,s3,s4⟩ | ⟨x,dx,x1,x2,x3,x4⟩
    ·cases hc':dk.cl
     ·rw [hc'] at hh;cases hh
     ·rw [hc'] at hh;cases hh
     ·have:=E.b k dk hk hc';omega
     ·rw [s1 k dk hk hc'] at hLk;cases hLk
    ·have h1:=(x3 k dk hk hh).1 hLk
     have:=(x3 i d hd (by rw [hcl];rfl)).2 (by omega)
     rw [hL] at this;cases this
  refine D.pX i o d hl hd hcl F' hreads ops i n B ro a C oper K Q' hi hc hS hA ?_
  rintro u y C' ⟨rfl,hT⟩ h3 h4 h5
  refine hK u C' _ (fun k=>rfl) h3 (hA.next h3 h4 h5 hdst) (frame C' _ (fun k=>rfl) (.inr ⟨i,d,hd,hcl,?_,by rw [hT,xAK hd]⟩))
  intro k dk hk hh
  by_cases hki:k=i
  ·subst hki;simp
  ·rw [if_neg hki]
   refine ⟨fun hLk=>?_,fun hle=>hahead k dk hk hh (by omega)⟩
   rcases A.store with ⟨s1,s2,s3,s4⟩ | ⟨x,dx,x1,x2,x3,x4⟩
   ·cases hc':dk.cl
    ·rw [hc'] at hh;cases hh
    ·rw [hc'] at hh;cases hh
    ·have:=E.b k dk hk hc';omega
    ·rw [s1 k dk hk hc'] at hLk;cases hLk
   ·have h1:=(x3 k dk hk hh).1 hLk
    have h2:¬ i<=x:=fun h=>by have:=(x3 i d hd (by rw [hcl];rfl)).2 h;rw [hL] at this;cases this
    omega
theorem xLH {ops:Array Oper} {i m:Nat} {oper:Oper} (hi:ops[i]?=some oper):m ∈ (afts ops).getD i [] ↔ ∃ e ∈ oper.after,Region.binds .any e=true/\e.on=m:=by
 have h:(afts ops)[i]?=some (((oper.after.toList.filter (Region.binds .any)).map (·.on)).eraseDups):=by
  unfold afts
  rw [List.getElem?_map,Array.getElem?_toList,hi];rfl
 rw [List.getD_eq_getElem?_getD,h]
 simp only [Option.getD_some,List.mem_eraseDups,List.mem_map,List.mem_filter,Array.mem_toList_iff]
 constructor
 ·rintro ⟨e,⟨h1,h2⟩,h3⟩;exact ⟨e,h1,h2,h3⟩
 ·rintro ⟨e,h1,h2,h3⟩;exact ⟨e,⟨h1,h2⟩,h3⟩
theorem xOf {n:Nat} {ops:Array Oper} {f:Oper->Option VOper}:∀{os:List Oper} {l:List VOper},mapOpt f os=some l->∀(i:Nat) (o:VOper),l[i]?=some o->∃ oper,os[i]?=some oper/\f oper=some o
 | os,l,h,i,o,ho=>by
  rcases xAs h with ⟨rfl,rfl⟩ | ⟨x,xs,y,ys,rfl,rfl,h1,h2⟩
  ·simp at ho
  ·cases i with
   | zero=>simp at ho;subst ho;exact ⟨x,rfl,h1⟩
   | succ i=>exact xOf (n:=n) (ops:=ops) h2 i o (by simpa using ho)
 termination_by os=>os.length
theorem xGc {listed:Array Bool} {i:Nat} (h:i < listed.size):listed.getD i true=listed.getD i false:=by
 simp [Array.getD,h]
theorem xQF (D:DrawOK P g l aft F FF S0 R ds G) {e:Nat} (E:DrawEnd ds e) (hlow:∀q,S0.next<=q->S0.obj q=none) {n B:Nat} {ro:Option Nat} {ops:Array Oper} (hm:mapOpt (compOper P n ops) ops.toList=some l) (haft:aft=afts ops)
  {C0:Ctx} {Q':Exit->Act->World->Prop} (hQ:∀a' C',AtC g C' FF n B ro a'->Le C0 C'->C'.S=storeAt S0 ds ds.length->Q' .normal a' C'.w) :
  ∀(fuel:Nat) (listed:Array Bool) (C:Ctx) (F':AFrame) (a:Act),listed.size=ops.size->((List.range ops.size).filter fun i=>!listed.getD i true).length<=fuel->DrawAt l aft F FF S0 ds e (fun i=>listed.getD i false) C F'->AtC g C F' n B ro a->Le C0 C ->
   wpAnyIn (fence ro) 0 P .any ops Q' fuel listed a C.w:=by
 have hlen:l.length=ops.size:=by rw [xBk hm];simp
 have hsub:∀i,i < ops.size->∃ oper o d,ops[i]?=some oper/\l[i]?=some o/\ds[i]?=some d/\compOper P n ops oper=some o:=by
  intro i hi
  have h1:l[i]?=some (l[i]'(by omega)):=xgG _
  obtain ⟨oper,h2,h3⟩:=xOf (n:=n) (ops:=ops) hm i _ h1
  have h4:ds[i]?=some (ds[i]'(by have:=D.len;omega)):=xgG _
  exact ⟨oper,_,_,by simpa using h2,h1,h4,h3⟩
 have done:∀(listed:Array Bool) (C:Ctx) (F':AFrame) (a:Act),listed.size=ops.size->(∀i,i < ops.size->listed.getD i false=true)->DrawAt l aft F FF S0 ds e (fun i=>listed.getD i false) C F'->AtC g C F' n B ro a->Le C0 C->Q' .normal a C.w:=by
  intro listed C F' a hs hall A hA hL
  have hF:F'=FF:=by
   funext t
   by_cases h:∃ (k:Nat) (o':VOper),l[k]?=some o'/\o'.dst=some t
   ·obtain ⟨k,o',h1,h2⟩:=h
    exact A.yes t k o' h1 h2 (hall k (by have:=(xgS h1).1;omega))
   ·rw [A.no t (fun k o' h1 h2=>absurd ⟨k,o',h1,h2⟩ h),D.rest t (fun k o' h1 h2=>h ⟨k,o',h1,h2⟩)]
  subst hF
  refine hQ a C hA hL ?_
  refine A.storeIs D E E.le (Nat.le_refl _) (fun k dk hk _ hlt=>hall k (by have:=D.len;omega)) (fun k dk hk _ hlt=>?_)
  have:=(xgS hk).1;omega
 have stuck:∀(listed:Array Bool),listed.size=ops.size->Region.ready .any ops listed=[]->∀i,i < ops.size->listed.getD i false=true:=by
  intro listed hs hr i
  induction i using Nat.strongRecOn with
  | ind i ih =>
   intro hi
   cases hb:listed.getD i false
   ·exfalso
    obtain ⟨oper,o,d,h1,h2,h3,h4⟩:=hsub i hi
    have:i ∈ Region.ready .any ops listed:=by
     rw [mem_ready]
     refine ⟨by rw [xGc (by omega)];exact hb,oper,h1,fun e he hbi=>?_⟩
     have hmem:e.on ∈ aft.getD i []:=by rw [haft,xLH h1];exact ⟨e,he,hbi,rfl⟩
     have hlt:=D.before i e.on hmem
     exact ih e.on hlt (by omega)
    rw [hr] at this;cases this
   ·rfl
 intro fuel
 induction fuel with
 | zero =>
  intro listed C F' a hs hf A hA hL
  have hall:∀i,i < ops.size->listed.getD i false=true:=by
   intro i hi
   cases hb:listed.getD i false
   ·have:i ∈ (List.range ops.size).filter fun i=>!listed.getD i true:=by rw [List.mem_filter,xGc (show i < listed.size by omega),hb];simp [hi]
    have:=List.length_pos_of_mem this
    omega
   ·rfl
  refine ⟨?_,done listed C F' a hs hall A hA hL⟩
  cases hr:Region.ready .any ops listed with
  | nil=>rfl
  | cons x xs =>
   have hx:x ∈ Region.ready .any ops listed:=by rw [hr];simp
   obtain ⟨h1,o,h2,_⟩:=mem_ready.1 hx
   have hlt:x < ops.size:=(Array.getElem?_eq_some_iff.1 h2).1
   rw [xGc (by omega),hall x hlt] at h1;cases h1
 | succ fuel ih =>
  intro listed C F' a hs hf A hA hL
  refine ⟨fun hr=>done listed C F' a hs (stuck listed hs hr) A hA hL,fun i hi=>?_⟩
  obtain ⟨h1,oper,h2,h3⟩:=mem_ready.1 hi
  have hlt:i < ops.size:=(Array.getElem?_eq_some_iff.1 h2).1
  obtain ⟨oper',o,d,k1,k2,k3,k4⟩:=hsub i hlt
  rw [h2] at k1;cases k1
  rw [xGc (by omega)] at h1
  refine A.step D E hlow hA h2 k4 k2 k3 h1 (fun m hmem=>?_) ?_
  ·rw [haft,xLH h2] at hmem
   obtain ⟨e,he,hb,rfl⟩:=hmem
   exact h3 e he hb
  ·intro u C' L' hL' hLe hA' A'
   refine ih (listed.setIfInBounds i true) C' _ _ (by simpa using hs) ?_ ?_ hA' (hL.trans hLe)
   ·have hlt2:((List.range ops.size).filter fun k=>!(listed.setIfInBounds i true).getD k true).length < ((List.range ops.size).filter fun k=>!listed.getD k true).length:=by
     have e1:((List.range ops.size).filter fun k=>!(listed.setIfInBounds i true).getD k true)=(((List.range ops.size).filter fun k=>!listed.getD k true).filter fun k=>decide (k ≠ i)):=by
      rw [List.filter_filter]
      apply List.filter_congr
      intro k hk
      have hk:k < ops.size:=by simpa using hk
      by_cases hki:k=i
      ·subst hki;simp [Array.getD,hs,hk]
      ·rw [getD_set_ne true (Ne.symm hki)];simp [hki]
     rw [e1,List.length_filter_lt_length_iff_exists]
     exact ⟨i,by rw [List.mem_filter,xGc (show i < listed.size by omega),h1];simp [hlt],by simp⟩
    omega
   ·have:L'=fun k=>(listed.setIfInBounds i true).getD k false:=by
     funext k
     rw [hL' k]
     by_cases hki:k=i
     ·subst hki;simp [Array.getD,hs,hlt]
     ·rw [if_neg hki,getD_set_ne false (Ne.symm hki)]
    rw [<- this];exact A'
theorem W.draw {Q:Res->Prop} (hm:P.follows .mixedOrders=true) (D:DrawOK P g l aft F FF S0 R ds G) {e:Nat} (E:DrawEnd ds e) (h:Q (.code .normal FF (storeAt S0 ds ds.length))):W P g (.code (.region true l aft) F S0) Q:=by
 intro code n B ro a C hc hS hA
 obtain ⟨id,ops,rfl,hmap,haft⟩:=xA9 hc
 simp only [if_true] at haft
 subst hS
 refine wpIn_region_any hm ?_
 have hlow:∀q,C.S.next<=q->C.S.obj q=none:=by
  intro q hq
  cases ho:C.S.obj q with
  | none=>rfl
  | some x=>have:=hA.rel.lt q x ho;omega
 let C1:Ctx:={ C with w:={ C.w with drawn:=C.w.drawn + 1 },S:=⟨(storeAt C.S ds e).next,C.S.obj⟩ }
 have hnx:C.S.next<=(storeAt C.S ds e).next:=D.mono E (i:=0) (j:=e) (Nat.zero_le _) (Nat.le_refl _)
 have hbad:∀b,C1.bad b ↔ C.bad b:=fun b=>Iff.rfl
 have hB:Below C.w.heap.size C.w C1.w:=⟨rfl,rfl,rfl,Nat.le_refl _,fun _ _=>rfl⟩
 have hLe:Le C C1:=⟨rfl,rfl,fun _ _ h=>h,Nat.le_refl _,fun b c e f h=>⟨c,f,h,rfl⟩,fun b _ h=>⟨rfl,h⟩,hB.mono hA.rel.basele,fun b r h=>⟨r,h⟩⟩
 have hR1:Rel C1:=by
  refine ⟨fun o x ho=>?_,hA.rel.inj,fun o x ho=>?_,fun o l hl=>?_,hA.rel.low,hA.rel.basele⟩
  ·exact (hA.rel.obj o x ho).mono hLe (fun h=>h) (fun l hl=>rfl)
  ·have:=hA.rel.lt o x ho;show o < (storeAt C.S ds e).next;omega
  ·have:=hA.rel.fresh o l hl;show o < (storeAt C.S ds e).next;omega
 have hA1:AtC g C1 F n B ro a:=hA.then hLe hR1 (hA.fr.mono hLe) hA.size (hA.marks.mono hLe)
 have A0:DrawAt l aft F FF C.S ds e (fun i=>(Array.replicate ops.size false).getD i false) C1 F:=by
  have hno:∀i,(Array.replicate ops.size false).getD i false=false:=by
   intro i;simp only [Array.getD_eq_getD_getElem?,Array.getElem?_replicate];split <;> rfl
  refine ⟨fun j i h=>?_,fun t i o _ _ h=>?_,fun t _=>rfl,.inl ⟨fun i d _ _=>hno i,rfl,fun q=>⟨fun i d _ _ h=>?_,fun _=>rfl⟩,fun q i d hd hB _ q1 q2=>?_⟩⟩
  ·simp only [hno] at h;cases h
  ·simp only [hno] at h;cases h
  ·simp only [hno] at h;cases h
  ·show C.μ q=none
   have h1:=D.mono E (i:=0) (j:=i) (Nat.zero_le _) (Nat.le_of_lt (E.b i d hd hB))
   have h1:C.S.next<=(storeAt C.S ds i).next:=h1
   cases hq:C.μ q with
   | none=>rfl
   | some l=>have:=hA.rel.fresh q l hq;omega
 refine xQF D E hlow hmap haft (C0:=C) ?_ ops.size _ C1 F a (by simp) ?_ A0 hA1 hLe
 ·intro a' C' hA' hL' hS'
  exact ⟨.normal,FF,C',trivial,by rw [hS'];exact h,rfl,hL',hA'.rel,hA'.fr,hA'.size,hA'.marks⟩
 ·exact Nat.le_trans (List.length_filter_le _ _) (by simp)
end
section
variable {P:Program} {g:Glob}
def LPost (C:Ctx) (n:Nat) (ds:List Deferred) (Q:VExit->AFrame->Prop) (e:Exit) (a':Act) (w':World):Prop :=
 ∃ ve F' C',exitRel e ve/\Q ve F'/\C'.S=C.S/\C'.μ=C.μ/\C'.w=w'/\Le C C'/\Rel C'/\FrameOK C' F' a'/\a'.tmps.size=n/\a'.defers=ds
theorem LPost.from {C C':Ctx} {n:Nat} {ds:List Deferred} {Q:VExit->AFrame->Prop} {e:Exit} {a:Act} {w:World} (h1:C'.S=C.S) (h2:C'.μ=C.μ) (h3:Le C C') (h:LPost C' n ds Q e a w):LPost C n ds Q e a w:=by
 obtain ⟨ve,F',C'',k1,k2,k3,k4,k5,k6,k7⟩:=h
 exact ⟨ve,F',C'',k1,k2,k3.trans h1,k4.trans h2,k5,h3.trans k6,k7⟩
def LC (P:Program) (g:Glob) (R:St) (c:VCode) (F:AFrame) (Q:VExit->AFrame->Prop):Prop :=
 ∀(code:Code) (n B:Nat) (ro:Option Nat) (a:Act) (C:Ctx),compCode P n code=some c->Sub R C.S->AtC g C F n B ro a->WP ro P code (LPost C n a.defers Q) a C.w
def LO (P:Program) (g:Glob) (R:St) (l:List VOper) (F:AFrame) (Q:AFrame->Prop):Prop :=
 ∀(ops:Array Oper) (idx:List Nat) (n B:Nat) (ro:Option Nat) (a:Act) (C:Ctx) (Q':Exit->Act->World->Prop),(∀e a' w',LPost C n a.defers (fun ve F=>ve=.normal/\Q F) e a' w'->Q' e a' w')->OpsAt P n ops idx l->Sub R C.S->AtC g C F n B ro a->wpOpsIn (fence ro) 0 P ops Q' idx a C.w
theorem LO.nil {R:St} {F:AFrame} {Q:AFrame->Prop} (h:Q F):LO P g R [] F Q:=by
 intro ops idx n B ro a C Q' hQ hO hS hA
 cases hO
 exact hQ .normal _ _ ⟨.normal,F,C,trivial,⟨rfl,h⟩,rfl,rfl,rfl,Le.refl C,hA.rel,hA.fr,hA.size,rfl⟩
theorem LO.cons {R:St} {F:AFrame} {Q:AFrame->Prop} {o:VOper} {l:List VOper} {v:AV} (hb:Ben P g o F R 0 v 0 (fun _=>none)) (h:LO P g R l (put F o.dst v) Q):LO P g R (o :: l) F Q:=by
 intro ops idx n B ro a C Q' hQ hO hS hA
 cases hO
 rename_i i oper idx hi hc ht
 rw [wpOpsIn_cons]
 obtain ⟨h1,h2,h3⟩:=xA8 hc
 refine hb ops i n B ro a C oper _ Q' F hi hc hA (fun _ _=>rfl) hS ⟨fun q _ _=>by omega,by omega,Nat.le_refl _⟩ ?_
 intro u C' k1 k2 k3 k4 k5
 have e1:C'.S=C.S:=k1.trans (lay0 (id:=0) (ob:=fun _=>none)).symm
 have e2:C'.μ=C.μ:=funext fun q=>k2 q (by omega)
 have hd:(a.put oper.dst u).defers=a.defers:=xEF _ _ _
 rw [h2] at *
 refine h ops idx n B ro _ C' Q' (fun e a' w' hp=>hQ _ _ _ ?_) ht (by rw [e1];exact hS) (hA.next k3 k4 k5 h3)
 rw [xEF] at hp
 exact LPost.from e1 e2 k3 hp
theorem LC.region {R:St} {F:AFrame} {Q:VExit->AFrame->Prop} {l:List VOper} {af:List (List Nat)} (h:LO P g R l F (fun F'=>Q .normal F')):LC P g R (.region false l af) F Q:=by
 intro code n B ro a C hc hS hA
 obtain ⟨id,ops,rfl,hm,_⟩:=xA9 hc
 refine wpIn_region (h ops _ n B ro a C _ (fun e a' w' hp=>?_) (xF6 hm) hS hA)
 obtain ⟨ve,F',C',h1,⟨h2,h2'⟩,r⟩:=hp
 exact ⟨ve,F',C',h1,by rw [h2];exact h2',r⟩
theorem LC.ret {R:St} {F:AFrame} {Q:VExit->AFrame->Prop} (h:Q .ret F):LC P g R .ret F Q:=by
 intro code n B ro a C hc hS hA
 have:=xAQ.2.1 hc;subst this
 exact wpIn_ret ⟨.ret,F,C,trivial,h,rfl,rfl,rfl,Le.refl C,hA.rel,hA.fr,hA.size,rfl⟩
theorem LC.seq {R:St} {F:AFrame} {Q:VExit->AFrame->Prop} {a b:VCode} (h:LC P g R a F (fun ve F1=>ve=.normal/\LC P g R b F1 Q)):LC P g R (.seq a b) F Q:=by
 intro code n B ro ac C hc hS hA
 obtain ⟨c1,c2,rfl,hc1,hc2⟩:=xCW hc
 refine wpIn_seq (wpIn_mono (h c1 n B ro ac C hc1 hS hA).wp fun e a' w' hp=>?_)
 obtain ⟨ve,F',C',h1,⟨h2,h2'⟩,k1,k2,rfl,k4,k5,k6,k7,k8⟩:=hp
 subst h2
 cases e <;> simp only [exitRel] at h1
 refine wpIn_mono (h2' c2 n B ro a' C' hc2 (by rw [k1];exact hS) (hA.then k4 k5 k6 k7 (by rw [k8];exact hA.marks.mono k4))).wp fun e a' w' hp=>?_
 rw [k8] at hp
 exact LPost.from k1 k2 k4 hp
def Looks (P:Program) (g:Glob) (f:Nat) (args:List AV) (R:St) (y:AV):Prop:=callable P f=true/\∀(vs:List Value) (C:Ctx),Sub R C.S->Rel C->VRs C vs args->g.N<=C.base->g.G C.w ->
 Calls P f vs.toArray C.w fun e w'=>∃ v C',e=.returned v/\C'.S=C.S/\C'.μ=C.μ/\C'.w=w'/\Le C C'/\Rel C'/\VR C' v y
theorem Looks.in {f n:Nat} {rs:List VRes} {c:VCode} {args:List AV} {R:St} {y:AV} (hF:Fun' P f n rs c) (hn:args.length<=n) (h:LC P g R c (entry args) (fun ve F=>(ve=.normal \/ ve=.ret)/\∀S,resV rs F S=some y)):Looks P g f args R y:=by
 refine ⟨hF.call,fun vs C hS hR hvs hN hG=>?_⟩
 have hcode:=hF.code
 simp only [xoB] at hcode
 obtain ⟨fn,hf,hv⟩:=hcode
 unfold compFunc at hv
 split at hv
 ·cases hv
 ·rename_i c' hb
  simp only [Option.bind_eq_bind,xoB,xoI] at hv
  obtain ⟨rs',hrs,k,hk,e⟩:=hv
  cases e
  refine (callsIn_wide (n:=0)).1 (callsIn_of_wp_marks hf hb trivial ?_)
  have hA:AtC g C (entry args) fn.ntmps C.w.heap.size none { tmps:=vs.toArray ++ Array.replicate (fn.ntmps - vs.toArray.size) Go.undef,defers:=[] }:=by
   refine ⟨?_,.nil,Nat.le_refl _,trivial,hR,xHk hvs _,hN,hG⟩
   have:=hvs.length;simp at hn ⊢;omega
  refine wpIn_mono (h c' fn.ntmps _ none _ C hk hS hA).wp ?_
  rintro e a' w' ⟨ve,F',C',h1,⟨h2,h2'⟩,k1,k2,rfl,k4,k5,k6,k7,k8⟩
  have fin:LeavesInM Fence.wide 0 P fn a'.tmps (fun e w'=>∃ v C',e=.returned v/\C'.S=C.S/\C'.μ=C.μ/\C'.w=w'/\Le C C'/\Rel C'/\VR C' v y) a'.defers .returning C'.w:=by
   rw [k8]
   obtain ⟨u,u1,u2⟩:=xD7 (P:=P) k5 k6 hrs (h2' C'.S)
   exact ⟨u,u1,u,C',rfl,k1,k2,rfl,k4,k5,u2⟩
  cases e <;> cases ve <;> simp only [exitRel] at h1
  ·exact fin
  ·simp at h2
  ·exact fin
theorem Ben.look {o:VOper} {F:AFrame} {R:St} {id:Nat} {ob:Nat->Option AObj} {f:Nat} {args:List AV} {y:AV} (hg:wantedV F o.guard=true) (hcal:callee o.op F=some (f,args)) (h:Looks P g f args R y):Ben P g o F R id y 0 ob:=by
 refine Ben.of_wop ?_
 intro F' S' hr hS ops i n B ro a C oper K Q' hi hcp hCS hA hK
 refine xFl hi hcp hA (by intro e;rw [e] at hcal;cases hcal) hr hg ?_
 intro h1 h2
 have hcal':callee o.op F'=some (f,args):=by
  rw [<- hcal];exact xCd (fun t ht=>hr t (by simp [VOper.reads,ht]))
 obtain ⟨vs,r1,r2⟩:=xBI hA.fr h1 hcal' h.1
 rw [r1,Oper.uponIn_enter]
 refine ⟨by simp,xAz (Calls.mono (h.2 vs C (by rw [hCS];exact hS) hA.rel r2 hA.lo hA.glob) ?_)⟩
 rintro e w' ⟨v,C',rfl,k1,k2,rfl,k4,k5,k6⟩
 show K (a.put oper.dst v) C'.w
 rw [h2]
 exact hK v C' k1 k2 k4 k5 k6
theorem Looks.cal {f:Nat} {args:List AV} {R S:St} {y:AV} {K:AV->St->Prop} (h:Looks P g f args R y) (hS:Sub R S) (hk:K y S):callable P f=true/\W P g (.call f args S) (fun r=>match r with
  | .val v S'=>K v S'
  | _=>False):=by
 refine ⟨h.1,fun vs C hCS hR hvs hN hG=>?_⟩
 subst hCS
 refine Calls.mono (h.2 vs C hS hR hvs hN hG) ?_
 rintro e w' ⟨v,C',rfl,k1,k2,rfl,k4,k5,k6⟩
 exact ⟨v,y,C',rfl,by rw [k1];exact hk,rfl,k4,k5,k6⟩
end
end Go.Proofs.YtnhfofmhkfdpgaaGreatDoor.Vm
