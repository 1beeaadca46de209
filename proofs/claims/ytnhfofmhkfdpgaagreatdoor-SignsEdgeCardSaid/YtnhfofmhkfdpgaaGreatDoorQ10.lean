/- A part of the proof: Vx Vy. -/
import Derived.IntWalk
import Derived.KernelRfl
import Derived.Test.YtnhfofmhkfdpgaaGreatDoorQ09
set_option linter.unusedVariables false
set_option linter.unusedSimpArgs false
set_option linter.constructorNameAsVariable false
namespace Go.Proofs.YtnhfofmhkfdpgaaGreatDoor.Vm
open Go Go.RowKit
section
variable {P:Program} {g:Glob}
theorem Ben.obs {o:VOper} {F:AFrame} {S:St} {id:Nat} {v:AV} {k:Nat} {ob ob':Nat->Option AObj} (h:Ben P g o F S id v k ob) (ho:∀q,q < k->ob q=ob' q):Ben P g o F S id v k ob':=by
 intro ops i n B ro a C oper K Q' F' hi hc hA hrd hS hf hK
 refine h ops i n B ro a C oper K Q' F' hi hc hA hrd hS hf (fun u C' h1 h2=>hK u C' ?_ h2)
 rw [h1]
 congr 1
 funext q
 by_cases hq:id<=q/\q < id + k
 ·rw [if_pos hq,if_pos hq];exact ho _ (by omega)
 ·rw [if_neg hq,if_neg hq]
theorem Ben.conP {o:VOper} {F:AFrame} {S:St} {id:Nat} {ob:Nat->Option AObj} {f:Nat} {args:List AV} {n:Nat} {xs:List AV} {c:RCon} {y:AV} (hg:wantedV F o.guard=true) (hcal:callee o.op F=some (f,args)) (hf:callable P f=true) (hc:ConOK P g f c) (hx:mapOpt (pict S [] n) args=some xs) (hp:c.pre xs)
  (hy:y.plain=true) (hq:∀res E,c.post xs res E->∃ m,pict E [] m res=some y):Ben P g o F S id y 0 ob:=by
 refine Ben.of_wop ?_
 intro F' S' hr hS ops i n' B ro a C oper K Q' hi hcp hCS hA hK
 refine xFl hi hcp hA (by intro e;rw [e] at hcal;cases hcal) hr hg ?_
 intro h1 h2
 subst hCS
 have hcal':callee o.op F'=some (f,args):=by
  rw [<- hcal];exact xCd (fun t ht=>hr t (by simp [VOper.reads,ht]))
 obtain ⟨vs,r1,r2⟩:=xBI hA.fr h1 hcal' hf
 rw [r1,Oper.uponIn_enter]
 refine ⟨by simp,xAz (Calls.mono (xJb hc (xAF (xH4 hS n) hx) hp hy hq hA.rel r2 hA.glob) ?_)⟩
 rintro e w' ⟨v,rfl,k1,k2,k3⟩
 show K (a.put oper.dst v) w'
 rw [h2]
 exact hK v (C.at w') rfl rfl k1 k2 k3
def pOp (o:VOper) (F:AFrame) (K:AV->Prop):Prop:=match wantedV F o.guard with
 | false=>K .none
 | true=>match o.op with
  | .pk k xs=>Ok (pk k (xs.map (VX.eval F))) K
  | .eqNil neg x=>∃ m,lenV (x.eval F)=some (m + 1)/\K (.bool neg)
  | _=>False
def lOp (P:Program) (g:Glob) (o:VOper) (F:AFrame) (R:St) (K:AV->Prop):Prop:=match wantedV F o.guard with
 | false=>K .none
 | true=>match o.op with
  | .sk k xs=>k.isRead=true/\Ok (sk k (xs.map (VX.eval F)) R) (fun r=>K r.1)
  | .callF f xs=>∃ y,Looks P g f (xs.map (VX.eval F)) R y/\K y
  | _=>False
def BCal (P:Program) (g:Glob) (f:Nat) (args:List AV) (S0 S:St) (K:AV->St->Prop):Prop :=
 (∃ b n xs y,Ret P g b f xs y/\mapOpt (pict S0 [] n) args=some xs/\(b || y.plain || solids args)=true/\K y S) \/
 (∃ n xs y E,Own P g f xs y E/\mapOpt (pict S0 [] n) args=some xs/\K (y.shift S.next) (S.add E))
def bOp (P:Program) (g:Glob) (o:VOper) (F:AFrame) (S0 S:St) (K:AV->St->Prop):Prop:=match wantedV F o.guard with
 | false=>K .none S
 | true=>match o.op with
  | .sk k xs=>if k.isRead=true then Ok (sk k (xs.map (VX.eval F)) S0) (fun r=>K r.1 S) else k.isMake=true/\Ok (sk k (xs.map (VX.eval F)) S) (fun r=>K r.1 r.2)
  | op=>Ok (callee op F) (fun r=>BCal P g r.1 r.2 S0 S K)
def XCal (P:Program) (g:Glob) (f:Nat) (args:List AV) (S:St) (K:AV->St->Prop):Prop:=∃ v S',Cal P g f args S (fun v' S''=>v'=v/\S''=S')/\K v S'
def xOp (P:Program) (g:Glob) (o:VOper) (F:AFrame) (S:St) (K:AV->St->Prop):Prop:=match wantedV F o.guard with
 | false=>K .none S
 | true=>match o.op with
  | .pk k xs=>Ok (pk k (xs.map (VX.eval F))) (fun v=>K v S)
  | .sk k xs=>Ok (sk k (xs.map (VX.eval F)) S) (fun r=>K r.1 r.2)
  | .callF f xs=>XCal P g f (xs.map (VX.eval F)) S K
  | .callV x xs=>Ok (callee (.callV x xs) F) (fun r=>XCal P g r.1 r.2 S K)
  | .callI x name xs=>∃ v S',CalI P g (x.eval F) name (xs.map (VX.eval F)) S (fun v' S''=>v'=v/\S''=S')/\K v S'
  | _=>False
theorem xOg {o:VOper} {F:AFrame} {K:AV->Prop} (h:pOp o F K):∃ v,(∀S,Ben P g o F S 0 v 0 (fun _=>none))/\K v:=by
 unfold pOp at h
 split at h
 ·rename_i hg;exact ⟨_,fun S=>Ben.off hg,h⟩
 ·rename_i hg
  split at h
  ·rename_i k xs ho
   obtain ⟨v,h1,h2⟩:=h.out
   exact ⟨v,fun S=>Ben.pk hg ho h1,h2⟩
  ·rename_i neg x ho
   obtain ⟨m,h1,h2⟩:=h
   exact ⟨_,fun S=>Ben.eqNil hg ho h1,h2⟩
  ·exact h.elim
theorem xOh {o:VOper} {F:AFrame} {R:St} {K:AV->Prop} (h:lOp P g o F R K):∃ v,Ben P g o F R 0 v 0 (fun _=>none)/\K v:=by
 unfold lOp at h
 split at h
 ·rename_i hg;exact ⟨_,Ben.off hg,h⟩
 ·rename_i hg
  split at h
  ·rename_i k xs ho
   obtain ⟨v,h1,h2⟩:=h.2.out
   exact ⟨v.1,Ben.read (S1:=v.2) hg ho h.1 (by rw [h1]),h2⟩
  ·rename_i f xs ho
   obtain ⟨y,h1,h2⟩:=h
   exact ⟨y,Ben.look hg (by rw [ho];rfl) h1,h2⟩
  ·exact h.elim
def qOp (P:Program) (g:Glob) (o:VOper) (F:AFrame) (R:St) (K:AV->Prop):Prop:=match o.op with
 | .pk _ _=>pOp o F K
 | _=>lOp P g o F R K
theorem LO.step {R:St} {F:AFrame} {Q:AFrame->Prop} {o:VOper} {l:List VOper} (h:qOp P g o F R (fun v=>LO P g R l (put F o.dst v) Q)):LO P g R (o :: l) F Q:=by
 unfold qOp at h
 split at h
 ·obtain ⟨v,h1,h2⟩:=xOg (P:=P) (g:=g) h
  exact LO.cons (h1 R) h2
 ·obtain ⟨v,h1,h2⟩:=xOh h
  exact LO.cons h1 h2
theorem xLI {id k q:Nat}:isIn id k q=true ↔ id<=q/\q < id + k:=by simp [isIn]
theorem xSu {o : VOper} {F : AFrame} {S0 S : St} {K : AV → St → Prop} (h : bOp P g o F S0 S K) : ∃ v T, K v T ∧ S.next ≤ T.next ∧ (∀ q, T.obj q = if isIn S.next (T.next - S.next) q then T.obj q else S.obj q) ∧ Ben P g o F S0 S.next v (T.next - S.next) (fun q => T.obj (S.next + q)) := by
  have noT : ∀ v, K v S → Ben P g o F S0 S.next v 0 (fun _ => none) → ∃ v T, K v T ∧ S.next ≤ T.next ∧ (∀ q, T.obj q = if isIn S.next (T.next - S.next) q then T.obj q else S.obj q) ∧ Ben P g o F S0 S.next v (T.next - S.next) (fun q => T.obj (S.next + q)) := by
    intro v hK hb
    refine ⟨v, S, hK, Nat.le_refl _, fun q => by split <;> rfl, ?_⟩
    rw [Nat.sub_self]
    exact hb.obs (fun q hq => absurd hq (by omega))
  have newT : ∀ v x, K v (S.new x) → Ben P g o F S0 S.next v 1 (fun _ => some x) → ∃ v T, K v T ∧ S.next ≤ T.next ∧ (∀ q, T.obj q = if isIn S.next (T.next - S.next) q then T.obj q else S.obj q) ∧ Ben P g o F S0 S.next v (T.next - S.next) (fun q => T.obj (S.next + q)) := by
    intro v x hK hb
    refine ⟨v, S.new x, hK, by simp [St.new], fun q => ?_, ?_⟩
    · by_cases hq : isIn S.next ((S.new x).next - S.next) q = true
      · rw [if_pos hq]
      · rw [if_neg hq]
        rw [xLI] at hq
        have : q ≠ S.next := by rintro rfl; exact hq ⟨Nat.le_refl _, by simp [St.new]⟩
        simp only [St.new, if_neg this]
    · have : (S.new x).next - S.next = 1 := by simp [St.new]
      rw [this]
      exact hb.obs (fun q hq => by have : q = 0 := by omega
                                   subst this; simp [St.new])
  have calT : ∀ f args, callee o.op F = some (f, args) → wantedV F o.guard = true → BCal P g f args S0 S K → ∃ v T, K v T ∧ S.next ≤ T.next ∧ (∀ q, T.obj q = if isIn S.next (T.next - S.next) q then T.obj q else S.obj q) ∧ Ben P g o F S0 S.next v (T.next - S.next) (fun q => T.obj (S.next + q)) := by
    rintro f args hcal hg (⟨b, n, xs, y, hr, hx, hs, hk⟩ | ⟨n, xs, y, E, hr, hx, hk⟩)
    · refine noT y hk ?_
      by_cases hy : y.plain = true
      · exact Ben.conP hg hcal hr.call hr.con hx rfl hy (fun res E h => h.1)
      · refine Ben.conF hg hcal hr.call hr.con hx rfl ?_
        rintro res E ⟨⟨m, hm⟩, hb⟩
        refine ⟨?_, m, hm⟩
        cases hb' : b
        · simp [hb', hy] at hs; exact .inl hs
        · exact .inr (hb hb')
    · refine ⟨_, _, hk, by simp [St.add], fun q => ?_, ?_⟩
      · by_cases hq : isIn S.next ((S.add E).next - S.next) q = true
        · rw [if_pos hq]
        · rw [if_neg hq]
          rw [xLI] at hq
          have e1 : (S.add E).next = S.next + E.next := rfl
          rw [e1] at hq
          simp only [St.add]
          rw [if_neg (by omega)]
      · have e1 : (S.add E).next - S.next = E.next := by simp [St.add]
        rw [e1]
        refine (Ben.con (c := ⟨fun zs => zs = xs, fun _ res E' => (res = y ∧ E' = E) ∧ (y.young = true ∧ youngo E)⟩) (res := y) (objs := E) hg hcal hr.call hr.con hx rfl (fun res' E' h => ⟨h.1, .inr h.2⟩)).obs ?_
        intro q hq
        simp only [St.add]
        rw [if_pos (by omega)]
        congr 2; omega
  unfold bOp at h
  split at h
  · rename_i hg; exact noT _ h (Ben.off hg)
  · rename_i hg
    split at h
    · rename_i k xs ho
      split at h
      · rename_i hk
        obtain ⟨r, h1, h2⟩ := h.out
        exact noT r.1 h2 (Ben.read (S1 := r.2) hg ho hk (by rw [h1]))
      · obtain ⟨hk, h⟩ := h
        obtain ⟨r, h1, h2⟩ := h.out
        obtain ⟨x, hx, _⟩ := xOc hk (v := r.1) (S1 := r.2) (by rw [h1])
        rw [hx] at h2
        exact newT r.1 x h2 (Ben.make hg ho hk (by rw [h1, ← hx]))
    · obtain ⟨r, h1, h2⟩ := h.out
      exact calT r.1 r.2 (by rw [h1]) hg h2
theorem xJd {o:VOper} {F F':AFrame} {S:St} {K:AV->St->Prop} (hr:∀t ∈ o.reads,F' t=F t):stepOp P g o F' S K=stepOp P g o F S K:=by
 unfold stepOp
 rw [xCc (F:=F) (fun t ht=>hr t (by simp [VOper.reads,ht]))]
 have hr':∀t ∈ o.op.reads,F' t=F t:=fun t ht=>hr t (by simp [VOper.reads,ht])
 obtain ⟨dst,op,gd⟩:=o
 cases op <;> simp only [VOp.reads] at hr' ⊢
 ·rw [xAD hr']
 ·rw [xAD hr']
 ·rw [xAD hr']
 ·rename_i x xs
  rw [xBW (F:=F) (fun t ht=>hr' t (by simp [ht])),xAD (F:=F) (fun t ht=>hr' t (by simp [ht]))]
 ·rename_i x name xs
  rw [xBW (F:=F) (fun t ht=>hr' t (by simp [ht])),xAD (F:=F) (fun t ht=>hr' t (by simp [ht]))]
 ·rw [xBW hr']
theorem xSv {o:VOper} {F:AFrame} {S:St} {K:AV->St->Prop} (h:xOp P g o F S K):∃ v T,K v T/\∀F',(∀t ∈ o.reads,F' t=F t)->WOp P g o F' S (fun v' S'=>v'=v/\S'=T):=by
 suffices H:∃ v T,K v T/\stepOp P g o F S (fun v' S'=>v'=v/\S'=T) by
  obtain ⟨v,T,h1,h2⟩:=H
  exact ⟨v,T,h1,fun F' hr=>xHn (by rw [xJd hr];exact h2)⟩
 unfold xOp at h
 split at h
 ·rename_i hg;exact ⟨_,_,h,by unfold stepOp;rw [hg];exact ⟨rfl,rfl⟩⟩
 ·rename_i hg
  split at h
  ·rename_i k xs ho
   obtain ⟨v,h1,h2⟩:=h.out
   exact ⟨v,S,h2,by unfold stepOp;rw [hg];simp only [ho,h1,ok_some,and_self]⟩
  ·rename_i k xs ho
   obtain ⟨v,h1,h2⟩:=h.out
   exact ⟨v.1,v.2,h2,by unfold stepOp;rw [hg];simp only [ho,h1,ok_some,and_self]⟩
  ·rename_i f xs ho
   obtain ⟨v,T,h1,h2⟩:=h
   exact ⟨v,T,h2,by unfold stepOp;rw [hg];simp only [ho];exact h1⟩
  ·rename_i x xs ho
   obtain ⟨r,h1,v,T,h2,h3⟩:=h.out
   refine ⟨v,T,h3,?_⟩
   simp only [callee] at h1
   split at h1
   ·rename_i f first cap hx
    cases h1
    unfold stepOp;rw [hg];simp only [ho];rw [hx];exact h2
   ·cases h1
  ·rename_i x name xs ho
   obtain ⟨v,T,h1,h2⟩:=h
   exact ⟨v,T,h2,by unfold stepOp;rw [hg];simp only [ho];exact h1⟩
  ·exact h.elim
def vcD (P:Program) (g:Glob) (S0 R:St):List (VOper × DC)->AFrame->St->(AFrame->St->Prop)->Prop
 | [],F,S,K=>K F S
 | (o,.P) :: r,F,S,K=>pOp o F (fun v=>vcD P g S0 R r (put F o.dst v) S K)
 | (o,.L) :: r,F,S,K=>lOp P g o F R (fun v=>vcD P g S0 R r (put F o.dst v) S K)
 | (o,.B) :: r,F,S,K=>bOp P g o F S0 S (fun v S'=>vcD P g S0 R r (put F o.dst v) S' K)
 | (o,.X) :: r,F,S,K=>xOp P g o F S (fun v S'=>(match r with
  | []=>True
  | _ :: _=>Sub R S')/\vcD P g S0 R r (put F o.dst v) S' K)
def Spec (P:Program) (g:Glob) (S0 R:St) (o:VOper) (F:AFrame) (S:St) (d:DS):Prop:=match d.cl with
 | .P=>(∀S,Ben P g o F S 0 d.v 0 (fun _=>none))/\d.T=S
 | .L=>Ben P g o F R 0 d.v 0 (fun _=>none)/\d.T=S
 | .B=>S.next<=d.T.next/\(∀q,d.T.obj q=if isIn S.next (d.T.next - S.next) q then d.T.obj q else S.obj q)/\Ben P g o F S0 S.next d.v (d.T.next - S.next) (fun q=>d.T.obj (S.next + q))
 | .X=>∀F',(∀t ∈ o.reads,F' t=F t)->WOp P g o F' S (fun v' S'=>v'=d.v/\S'=d.T)
theorem xC6 {S:St} {d:DS} {ds:List DS}:∀i,storeAt S (d :: ds) (i + 1)=storeAt d.T ds i
 | 0=>rfl
 | i + 1=>by
  show (match (d :: ds)[i + 1]? with | some d=>d.T | none=>storeAt S (d :: ds) (i + 1))=(match ds[i]? with | some d=>d.T | none=>storeAt d.T ds i)
  rw [List.getElem?_cons_succ,xC6 i]
def frameAt (F:AFrame):List (VOper × DC)->List DS->Nat->AFrame
 | (o,_) :: l,d :: ds,i + 1=>frameAt (put F o.dst d.v) l ds i
 | _,_,_=>F
theorem xOi {S0 R:St} {K:AFrame->St->Prop}:∀{l:List (VOper × DC)} {F:AFrame} {S:St},vcD P g S0 R l F S K->∃ ds:List DS,ds.length=l.length/\K (frameAt F l ds l.length) (storeAt S ds ds.length) /\
  ∀(i:Nat) (o:VOper) (c:DC) (d:DS),l[i]?=some (o,c)->ds[i]?=some d->d.cl=c/\Spec P g S0 R o (frameAt F l ds i) (storeAt S ds i) d/\(c=.X->i + 1 < l.length->Sub R d.T)
 | [],F,S,h=>⟨[],rfl,h,fun i o c d hi=>by simp at hi⟩
 | (o,c) :: l,F,S,h=>by
  have fin:∀v T,Spec P g S0 R o F S ⟨c,v,T⟩->(c=.X->l ≠ []->Sub R T)->vcD P g S0 R l (put F o.dst v) T K->∃ ds:List DS,ds.length=((o,c) :: l).length/\K (frameAt F ((o,c) :: l) ds ((o,c) :: l).length) (storeAt S ds ds.length) /\
    ∀(i:Nat) (o':VOper) (c':DC) (d:DS),((o,c) :: l)[i]?=some (o',c')->ds[i]?=some d->d.cl=c'/\Spec P g S0 R o' (frameAt F ((o,c) :: l) ds i) (storeAt S ds i) d/\(c'=.X->i + 1 < ((o,c) :: l).length->Sub R d.T):=by
   intro v T hs hsub hv
   obtain ⟨ds,h1,h2,h3⟩:=xOi hv
   refine ⟨⟨c,v,T⟩ :: ds,by simp [h1],?_,?_⟩
   ·show K _ (storeAt S (⟨c,v,T⟩ :: ds) (ds.length + 1))
    rw [xC6];exact h2
   ·intro i o' c' d hi hd
    cases i with
    | zero =>
     simp at hi hd;obtain ⟨rfl,rfl⟩:=hi;subst hd
     exact ⟨rfl,hs,fun hX hl=>hsub hX fun e=>by subst e;simp at hl⟩
    | succ i =>
     rw [xC6]
     obtain ⟨k1,k2,k3⟩:=h3 i o' c' d (by simpa using hi) (by simpa using hd)
     exact ⟨k1,k2,fun hX hl=>k3 hX (by simp at hl;omega)⟩
  cases c with
  | P=>obtain ⟨v,h1,h2⟩:=xOg (P:=P) (g:=g) h;exact fin v S ⟨h1,rfl⟩ (fun e=>by cases e) h2
  | L=>obtain ⟨v,h1,h2⟩:=xOh (P:=P) (g:=g) h;exact fin v S ⟨h1,rfl⟩ (fun e=>by cases e) h2
  | B=>obtain ⟨v,T,h1,h2⟩:=xSu h;exact fin v T h2 (fun e=>by cases e) h1
  | X =>
   obtain ⟨v,T,⟨h0,h1⟩,h2⟩:=xSv h
   refine fin v T h2 (fun _ hne=>?_) h1
   cases l with
   | nil=>exact absurd rfl hne
   | cons a l=>exact h0
def drawChk (l:List (VOper × DC)) (aft:List (List Nat)):Bool :=
 let n:=l.length
 let an:=ancs aft
 let ds:=l.map fun x=>x.1.dst
 decide (aft.length=n) &&
 (List.range n).all (fun j=>((aft.getD j []).all fun i=>decide (i < j)) &&
  (match l[j]? with
  | some (o,c)=>o.reads.all (fun t=>(List.range n).all fun i=>if (ds.getD i none)=some t then decide (i ∈ aft.getD j [] \/ i=j \/ j ∈ aft.getD i []) else true) &&
    (List.range j).all (fun i=>(match o.dst with | some t=>decide ((ds.getD i none) ≠ some t) | none=>true) &&
     (match l[i]? with
     | some (_,c')=>(if c=.X/\(c'.heavy=true \/ (j + 1=n/\c'=.L)) then decide (i ∈ an.getD j []) else true) && (if c=.B then decide (c' ≠ .X) else true)
     | none=>true))
  | none=>true))
theorem xCe:∀{l:List (VOper × DC)} {ds:List DS} {F:AFrame} {i:Nat} {o:VOper} {c:DC} {d:DS},l[i]?=some (o,c)->ds[i]?=some d->frameAt F l ds (i + 1)=put (frameAt F l ds i) o.dst d.v
 | [],ds,F,i,o,c,d,h,_=>by simp at h
 | _ :: _,[],F,i,o,c,d,_,h=>by simp at h
 | (o',c') :: l,d' :: ds,F,0,o,c,d,h,k=>by
  simp at h k;obtain ⟨rfl,rfl⟩:=h;subst k
  cases l <;> cases ds <;> rfl
 | (o',c') :: l,d' :: ds,F,i + 1,o,c,d,h,k=>xCe (l:=l) (ds:=ds) (by simpa using h) (by simpa using k)
theorem xFm {l:List (VOper × DC)} {ds:List DS} {F:AFrame}:frameAt F l ds 0=F:=by
 cases l <;> cases ds <;> rfl
theorem xLJ {l : List (VOper × DC)} {aft : List (List Nat)} {F : AFrame} {S R : St} {Q : Res → Prop} (hm : P.follows .mixedOrders = true) (hR : Sub R S) (hc : drawChk l aft = true) (h : vcD P g S R l F S (fun F' S' => Q (.code .normal F' S'))) :
    W P g (.code (.region true (l.map (·.1)) aft) F S) Q := by
  obtain ⟨ds, h1, h2, h3⟩ := xOi h
  unfold drawChk at hc
  simp only [Bool.and_eq_true, decide_eq_true_eq, List.all_eq_true, List.mem_range] at hc
  obtain ⟨c1, c2⟩ := hc
  have cl : ∀ (j : Nat) (o : VOper), (l.map (·.1))[j]? = some o → ∃ c, l[j]? = some (o, c) := by
    intro j o hj
    rw [List.getElem?_map] at hj
    cases e : l[j]? with
    | none => rw [e] at hj; cases hj
    | some x => rw [e] at hj; simp at hj; obtain ⟨o', c⟩ := x; simp at hj; subst hj; exact ⟨c, rfl⟩
  have dl : ∀ (j : Nat) (d : DS), ds[j]? = some d → ∃ o c, l[j]? = some (o, c) ∧ d.cl = c := by
    intro j d hd
    have hlt := (xgS hd).1
    obtain ⟨⟨o, c⟩, e⟩ : ∃ x, l[j]? = some x := ⟨_, xgG (by omega)⟩
    exact ⟨o, c, e, (h3 j o c d e hd).1⟩
  have c3 : ∀ (j : Nat) (o : VOper) (c : DC), l[j]? = some (o, c) → (∀ i, i ∈ aft.getD j [] → i < j) ∧ (∀ t ∈ o.reads, ∀ i, i < l.length → (l.map fun x => x.1.dst).getD i none = some t → i ∈ aft.getD j [] ∨ i = j ∨ j ∈ aft.getD i []) ∧
      (∀ i, i < j → (∀ t, o.dst = some t → (l.map fun x => x.1.dst).getD i none ≠ some t) ∧ (∀ o' c', l[i]? = some (o', c') → (c = .X → (c'.heavy = true ∨ (j + 1 = l.length ∧ c' = .L)) → i ∈ (ancs aft).getD j []) ∧ (c = .B → c' ≠ .X))) := by
    intro j o c hj
    have hlt := (xgS hj).1
    obtain ⟨k1, k2⟩ := c2 j hlt
    rw [hj] at k2
    simp only [Bool.and_eq_true, List.all_eq_true, List.mem_range] at k2
    obtain ⟨k2, k3⟩ := k2
    refine ⟨k1, ?_, ?_⟩
    · intro t ht i hi hd
      have := k2 t ht i hi
      rw [if_pos hd] at this
      simpa using this
    · intro i hi
      obtain ⟨k4, k5⟩ := k3 i hi
      refine ⟨fun t ht => ?_, fun o' c' hi' => ?_⟩
      · rw [ht] at k4; simpa using k4
      · rw [hi'] at k5
        simp only [Bool.and_eq_true] at k5
        refine ⟨fun hX hh => ?_, fun hB => ?_⟩
        · have := k5.1; rw [if_pos ⟨hX, hh⟩] at this; simpa using this
        · have := k5.2; rw [if_pos hB] at this; simpa using this
  have dst : ∀ (i : Nat) (o : VOper) (c : DC), l[i]? = some (o, c) → (l.map fun x => x.1.dst).getD i none = o.dst := by
    intro i o c hi; rw [List.getD_eq_getElem?_getD, List.getElem?_map, hi]; rfl
  have one : ∀ (i j : Nat) (o o' : VOper) (c c' : DC) (t : Nat), l[i]? = some (o, c) → l[j]? = some (o', c') → o.dst = some t → o'.dst = some t → i = j := by
    intro i j o o' c c' t hi hj ht ht'
    rcases Nat.lt_trichotomy i j with h | h | h
    · exact absurd (by rw [dst i o c hi]; exact ht) ((((c3 j o' c' hj).2.2) i h).1 t ht')
    · exact h
    · exact absurd (by rw [dst j o' c' hj]; exact ht') ((((c3 i o c hi).2.2) j h).1 t ht)
  have keep : ∀ (i : Nat) (o : VOper) (c : DC) (d : DS) (t : Nat), l[i]? = some (o, c) → ds[i]? = some d → o.dst = some t → ∀ j, i < j → j ≤ l.length → frameAt F l ds j t = d.v := by
    intro i o c d t hi hd ht j hij
    induction j with
    | zero => omega
    | succ j ih =>
      intro hj
      obtain ⟨⟨oj, cj⟩, ej⟩ : ∃ x, l[j]? = some x := ⟨_, xgG (by omega)⟩
      obtain ⟨dj, ed⟩ : ∃ x, ds[j]? = some x := ⟨_, xgG (by omega)⟩
      rw [xCe ej ed]
      by_cases hj' : i = j
      · subst hj'
        rw [hi] at ej; rw [hd] at ed
        cases ej; cases ed
        simp [ht]
      · have hne : oj.dst ≠ some t := fun h => hj' (one i j o _ c _ t hi ej ht h)
        cases hd' : oj.dst with
        | none => simp only [xH6]; exact ih (by omega) (by omega)
        | some t' =>
          rw [hd'] at hne
          simp only [xH5, xOd]
          rw [if_neg (by rintro rfl; exact hne rfl)]
          exact ih (by omega) (by omega)
  have kept : ∀ (t : Nat) (i : Nat), (∀ (k : Nat) (o : VOper) (c : DC), i ≤ k → l[k]? = some (o, c) → o.dst ≠ some t) → ∀ j, i ≤ j → j ≤ l.length → frameAt F l ds j t = frameAt F l ds i t := by
    intro t i hno j hij
    induction j with
    | zero => intro _; have : i = 0 := by omega
              rw [this]
    | succ j ih =>
      intro hj
      by_cases e : i = j + 1
      · rw [e]
      · obtain ⟨⟨oj, cj⟩, ej⟩ : ∃ x, l[j]? = some x := ⟨_, xgG (by omega)⟩
        obtain ⟨dj, ed⟩ : ∃ x, ds[j]? = some x := ⟨_, xgG (by omega)⟩
        rw [xCe ej ed]
        have hne := hno j _ _ (by omega) ej
        cases hd' : oj.dst with
        | none => simp only [xH6]; exact ih (by omega) (by omega)
        | some t' =>
          rw [hd'] at hne
          simp only [xH5, xOd]
          rw [if_neg (by rintro rfl; exact hne rfl)]
          exact ih (by omega) (by omega)
  have ahead : ∀ (t : Nat) (j : Nat), j ≤ l.length → (∀ (k : Nat) (o : VOper) (c : DC), k < j → l[k]? = some (o, c) → o.dst ≠ some t) → frameAt F l ds j t = F t := by
    intro t j
    induction j with
    | zero => intro _ _; rw [xFm]
    | succ j ih =>
      intro hj hno
      obtain ⟨⟨oj, cj⟩, ej⟩ : ∃ x, l[j]? = some x := ⟨_, xgG (by omega)⟩
      obtain ⟨dj, ed⟩ : ∃ x, ds[j]? = some x := ⟨_, xgG (by omega)⟩
      rw [xCe ej ed]
      have hne := hno j _ _ (by omega) ej
      have ih := ih (by omega) (fun k o c hk => hno k o c (by omega))
      cases hd' : oj.dst with
      | none => simp only [xH6]; exact ih
      | some t' =>
        rw [hd'] at hne
        simp only [xH5, xOd]
        rw [if_neg (by rintro rfl; exact hne rfl)]
        exact ih
  have sp : ∀ (i : Nat) (o : VOper) (d : DS), (l.map (·.1))[i]? = some o → ds[i]? = some d → Spec P g S R o (frameAt F l ds i) (storeAt S ds i) d := by
    intro i o d hi hd
    obtain ⟨c, hc⟩ := cl i o hi
    exact (h3 i o c d hc hd).2.1
  obtain ⟨e, he1, he2, he3⟩ : ∃ e, e ≤ ds.length ∧ (∀ (i : Nat) (d : DS), ds[i]? = some d → d.cl = .B → i < e) ∧ (∀ (i : Nat) (d : DS), ds[i]? = some d → d.cl = .X → e ≤ i) := by
    by_cases hX : ∃ (x : Nat) (d : DS), ds[x]? = some d ∧ d.cl = .X
    ·
      obtain ⟨x, ⟨dx, hx1, hx2⟩, hmin⟩ : ∃ x : Nat, (∃ d : DS, ds[x]? = some d ∧ d.cl = .X) ∧ ∀ y : Nat, y < x → ¬ ∃ d : DS, ds[y]? = some d ∧ d.cl = .X := by
        obtain ⟨x0, hx0⟩ := hX
        induction x0 using Nat.strongRecOn with
        | ind x0 ih =>
          by_cases hh : ∃ y : Nat, y < x0 ∧ ∃ d : DS, ds[y]? = some d ∧ d.cl = .X
          · obtain ⟨y, hy, hd⟩ := hh; exact ih y hy hd
          · exact ⟨x0, hx0, fun y hy hd => hh ⟨y, hy, hd⟩⟩
      refine ⟨x, by have := (xgS hx1).1; omega, fun i d hd hB => ?_, fun i d hd hX' => ?_⟩
      · obtain ⟨o, c, ho, hc'⟩ := dl i d hd
        obtain ⟨o', c', ho', hc''⟩ := dl x dx hx1
        rcases Nat.lt_trichotomy i x with h | h | h
        · exact h
        · subst h; rw [hd] at hx1; cases hx1; rw [hB] at hx2; cases hx2
        · exact absurd (hc''.symm.trans hx2) ((((c3 i o c ho).2.2 x h).2 o' c' ho').2 (hc'.symm.trans hB))
      · rcases Nat.lt_or_ge i x with h | h
        · exact absurd ⟨d, hd, hX'⟩ (hmin i h)
        · exact h
    · exact ⟨ds.length, Nat.le_refl _, fun i d hd _ => (xgS hd).1, fun i d hd hh => absurd ⟨i, d, hd, hh⟩ hX⟩
  refine W.draw (FF := frameAt F l ds l.length) (R := R) (ds := ds) (G := fun i => frameAt F l ds i) (e := e) hm ?_ ⟨he1, he2, he3⟩ h2
  refine ⟨by simp [h1], by simp [c1], ?_, ?_, ?_, ?_, ?_, ?_, ?_, hR, ?_, ?_, ?_, ?_, ?_, ?_⟩
  · intro i o d t hi hd ht
    obtain ⟨c, hc⟩ := cl i o hi
    have := (xgS hc).1
    exact keep i o c d t hc hd ht l.length this (Nat.le_refl _)
  · intro t ht
    have := kept t 0 (fun k o c _ hk => ht k o (by rw [List.getElem?_map, hk]; rfl)) l.length (Nat.zero_le _) (Nat.le_refl _)
    rw [this, xFm]
  · intro i j o o' t hi hj
    obtain ⟨c, hc⟩ := cl i o hi
    obtain ⟨c', hc'⟩ := cl j o' hj
    exact one i j o o' c c' t hc hc'
  · intro j o t hj ht
    obtain ⟨c, hc⟩ := cl j o hj
    have hjl := (xgS hc).1
    have hw : ∀ (i : Nat) (o' : VOper), (l.map (·.1))[i]? = some o' → o'.dst = some t → i ∈ aft.getD j [] ∨ i = j ∨ j ∈ aft.getD i [] := by
      intro i o' hi hd
      obtain ⟨c', hc'⟩ := cl i o' hi
      exact (c3 j o c hc).2.1 t ht i (xgS hc').1 (by rw [dst i o' c' hc']; exact hd)
    by_cases hex : ∃ (i : Nat) (o' : VOper), (l.map (·.1))[i]? = some o' ∧ o'.dst = some t ∧ i ∈ aft.getD j []
    · obtain ⟨i, o', h4, h5, h6⟩ := hex
      refine .inl ⟨i, o', h4, h5, h6, ?_⟩
      obtain ⟨c', hc'⟩ := cl i o' h4
      have hij := (c3 j o c hc).1 i h6
      obtain ⟨di, ed⟩ : ∃ x, ds[i]? = some x := ⟨_, xgG (by omega)⟩
      show frameAt F l ds j t = frameAt F l ds l.length t
      rw [keep i o' c' di t hc' ed h5 j hij (by omega), keep i o' c' di t hc' ed h5 l.length (by omega) (Nat.le_refl _)]
    · refine .inr ⟨fun i o' h4 h5 => (hw i o' h4 h5).resolve_left fun h6 => hex ⟨i, o', h4, h5, h6⟩, ?_⟩
      refine ahead t j (by omega) fun k o' c' hk hk' hd => ?_
      have hk2 : (l.map (·.1))[k]? = some o' := by rw [List.getElem?_map, hk']; rfl
      rcases hw k o' hk2 hd with h6 | h6 | h6
      · exact hex ⟨k, o', hk2, hd, h6⟩
      · omega
      · have := (c3 k o' c' hk').1 j h6
        omega
  · intro j i hi
    by_cases hj : j < l.length
    · have e : l[j]? = some (l[j]) := xgG _
      exact (c3 j _ _ e).1 i hi
    · rw [List.getD_eq_getElem?_getD, List.getElem?_eq_none (by omega)] at hi; simp at hi
  · intro j dj hj hX i di hi hh hij
    obtain ⟨o, c, ho, hc'⟩ := dl j dj hj
    obtain ⟨o', c', ho', hc''⟩ := dl i di hi
    exact (((c3 j o c ho).2.2 i hij).2 o' c' ho').1 (hc'.symm.trans hX) (.inl (by rw [← hc'']; exact hh))
  · intro i j di dj hi hj hB hX
    have := he2 i di hi hB
    have := he3 j dj hj hX
    omega
  · intro j dj hj hX
    obtain ⟨o, c, ho, hc'⟩ := dl j dj hj
    by_cases hl : j + 1 < l.length
    · exact .inl ((h3 j o c dj ho hj).2.2 (hc'.symm.trans hX) hl)
    · refine .inr fun i di hi hdL => ?_
      obtain ⟨o', c', ho', hc''⟩ := dl i di hi
      have hjl := (xgS ho).1
      have hil := (xgS ho').1
      have hij : i < j := by
        rcases Nat.lt_or_ge i j with h | h
        · exact h
        · have : i = j := by omega
          subst this
          rw [hi] at hj; cases hj
          rw [hX] at hdL; cases hdL
      exact (((c3 j o c ho).2.2 i hij).2 o' c' ho').1 (hc'.symm.trans hX) (.inr ⟨by omega, by rw [← hc'']; exact hdL⟩)
  · intro i d hd hl
    obtain ⟨o, c, ho, hc'⟩ := dl i d hd
    have := sp i o d (by rw [List.getElem?_map, ho]; rfl) hd
    unfold Spec at this
    cases hcl : d.cl <;> rw [hcl] at this hl
    · exact this.2
    · exact this.2
    · cases hl
    · cases hl
  · intro i o d hi hd hcl S'
    have := sp i o d hi hd
    simp only [Spec, hcl] at this
    exact this.1 S'
  · intro i o d hi hd hcl
    have := sp i o d hi hd
    simp only [Spec, hcl] at this
    exact this.1
  · intro i o d hi hd hcl
    have := sp i o d hi hd
    simp only [Spec, hcl] at this
    exact this
  · intro i o d hi hd hcl F' hF'
    have := sp i o d hi hd
    simp only [Spec, hcl] at this
    exact this F' hF'
end
section
variable {P:Program} {g:Glob}
def classes (xs ls:List Nat):List VOper->Nat->Bool->List DC
 | [],_,_=>[]
 | o :: l,i,seen=>match o.op with
  | .pk _ _=>.P :: classes xs ls l (i + 1) seen
  | .eqNil _ _=>.P :: classes xs ls l (i + 1) seen
  | .sk k _=>if ls.contains i then .L :: classes xs ls l (i + 1) seen else if seen=false/\(k.isRead=true \/ k.isMake=true) then .B :: classes xs ls l (i + 1) seen else .X :: classes xs ls l (i + 1) true
  | _=>if ls.contains i then .L :: classes xs ls l (i + 1) seen else if seen=true \/ xs.contains i=true then .X :: classes xs ls l (i + 1) true else .B :: classes xs ls l (i + 1) seen
def vcDs (P:Program) (g:Glob) (S0 R:St) (l:List VOper) (cs:List DC) (F:AFrame) (S:St) (Q:Res->Prop):Prop:=vcD P g S0 R (l.zip cs) F S (fun F' S'=>Q (.code .normal F' S'))
def KDv (P:Program) (g:Glob) (S0 R:St) (d:Option Nat) (l:List VOper) (cs:List DC) (F:AFrame) (S:St) (Q:Res->Prop) (v:AV):Prop:=vcDs P g S0 R l cs (put F d v) S Q
def KDs (P:Program) (g:Glob) (S0 R:St) (d:Option Nat) (l:List VOper) (cs:List DC) (F:AFrame) (Q:Res->Prop) (v:AV) (S:St):Prop:=vcDs P g S0 R l cs (put F d v) S Q
def KDx (P:Program) (g:Glob) (S0 R:St) (d:Option Nat) (l:List VOper) (cs:List DC) (F:AFrame) (Q:Res->Prop) (v:AV) (S:St):Prop:=(match l.zip cs with
  | []=>True
  | _ :: _=>Sub R S)/\vcDs P g S0 R l cs (put F d v) S Q
@[simp] theorem xWo {S0 R F S Q}:vcDs P g S0 R [] [] F S Q=Q (.code .normal F S):=_root_.id rfl
@[simp] theorem xX8 {S0 R o l cs F S Q}:vcDs P g S0 R (o :: l) (.P :: cs) F S Q=pOp o F (KDv P g S0 R o.dst l cs F S Q):=_root_.id rfl
@[simp] theorem xX9 {S0 R o l cs F S Q}:vcDs P g S0 R (o :: l) (.L :: cs) F S Q=lOp P g o F R (KDv P g S0 R o.dst l cs F S Q):=_root_.id rfl
@[simp] theorem xYa {S0 R o l cs F S Q}:vcDs P g S0 R (o :: l) (.B :: cs) F S Q=bOp P g o F S0 S (KDs P g S0 R o.dst l cs F Q):=_root_.id rfl
@[simp] theorem xYb {S0 R o l cs F S Q}:vcDs P g S0 R (o :: l) (.X :: cs) F S Q=xOp P g o F S (KDx P g S0 R o.dst l cs F Q):=_root_.id rfl
@[simp] theorem kDv {S0 R d l cs F S Q v}:KDv P g S0 R d l cs F S Q v=vcDs P g S0 R l cs (put F d v) S Q:=_root_.id rfl
@[simp] theorem kDs {S0 R d l cs F Q v S}:KDs P g S0 R d l cs F Q v S=vcDs P g S0 R l cs (put F d v) S Q:=_root_.id rfl
@[simp] theorem xJe {S:St}:Sub St.empty S:=fun q x h=>by cases h
@[simp] theorem kDx {S0 d l cs F Q v S}:KDx P g S0 St.empty d l cs F Q v S=vcDs P g S0 St.empty l cs (put F d v) S Q:=by
 simp only [KDx]
 split <;> simp only [xJe,true_and]
theorem xKJ {α β:Type}:∀{l:List α} {m:List β},m.length=l.length->(l.zip m).map (·.1)=l
 | [],_,_=>by simp
 | x :: l,[],h=>by simp at h
 | x :: l,y :: m,h=>by simp;exact xKJ (by simpa using h)
theorem drawn {l:List VOper} {aft:List (List Nat)} {F:AFrame} {S:St} {Q:Res->Prop} (cs:List DC) (hm:P.follows .mixedOrders=true) (hc:(decide (cs.length=l.length) && drawChk (l.zip cs) aft)=true) (h:vcDs P g S St.empty l cs F S Q):W P g (.code (.region true l aft) F S) Q:=by
 simp only [Bool.and_eq_true,decide_eq_true_eq] at hc
 have:=xLJ (P:=P) (g:=g) (l:=l.zip cs) (aft:=aft) (F:=F) (S:=S) (R:=St.empty) (Q:=Q) hm xJe hc.2 h
 rwa [xKJ hc.1] at this
theorem drawnR {l:List VOper} {aft:List (List Nat)} {F:AFrame} {S:St} {Q:Res->Prop} (R:St) (hR:Sub R S) (cs:List DC) (hm:P.follows .mixedOrders=true) (hc:(decide (cs.length=l.length) && drawChk (l.zip cs) aft)=true) (h:vcDs P g S R l cs F S Q):W P g (.code (.region true l aft) F S) Q:=by
 simp only [Bool.and_eq_true,decide_eq_true_eq] at hc
 have:=xLJ (P:=P) (g:=g) (l:=l.zip cs) (aft:=aft) (F:=F) (S:=S) (R:=R) (Q:=Q) hm hR hc.2 h
 rwa [xKJ hc.1] at this
def Dra (P:Program) (g:Glob) (l:List VOper) (aft:List (List Nat)) (F:AFrame) (S:St) (Q:Res->Prop):Prop:=W P g (.code (.region true l aft) F S) Q
theorem Dra.by {l:List VOper} {aft:List (List Nat)} {F:AFrame} {S:St} {Q:Res->Prop} (cs:List DC) (hm:P.follows .mixedOrders=true) (hc:(decide (cs.length=l.length) && drawChk (l.zip cs) aft)=true) (h:vcDs P g S St.empty l cs F S Q):Dra P g l aft F S Q:=drawn cs hm hc h
section
variable {d:Option Nat} {F:AFrame} {S S0 R:St} {af:List Nat}
@[simp] theorem xYd {k xs K}:pOp ⟨d,.pk k xs,none⟩ F K=Ok (pk k (xs.map (VX.eval F))) K:=_root_.id rfl
@[simp] theorem xYe {k xs K}:lOp P g ⟨d,.sk k xs,none⟩ F R K=(k.isRead=true/\Ok (sk k (xs.map (VX.eval F)) R) (fun r=>K r.1)):=_root_.id rfl
@[simp] theorem xUA {f xs K}:lOp P g ⟨d,.callF f xs,none⟩ F R K=(∃ y,Looks P g f (xs.map (VX.eval F)) R y/\K y):=_root_.id rfl
@[simp] theorem xYf {k xs K}:qOp P g ⟨d,.pk k xs,none⟩ F R K=Ok (pk k (xs.map (VX.eval F))) K:=_root_.id rfl
@[simp] theorem xYg {k xs K}:qOp P g ⟨d,.sk k xs,none⟩ F R K=(k.isRead=true/\Ok (sk k (xs.map (VX.eval F)) R) (fun r=>K r.1)):=_root_.id rfl
@[simp] theorem xYh {k xs K}:bOp P g ⟨d,.sk k xs,none⟩ F S0 S K=if k.isRead=true then Ok (sk k (xs.map (VX.eval F)) S0) (fun r=>K r.1 S) else k.isMake=true/\Ok (sk k (xs.map (VX.eval F)) S) (fun r=>K r.1 r.2):=_root_.id rfl
@[simp] theorem xUB {f xs K}:bOp P g ⟨d,.callF f xs,none⟩ F S0 S K=BCal P g f (xs.map (VX.eval F)) S0 S K:=_root_.id rfl
def CalB (P:Program) (g:Glob) (v:AV) (xs:List AV) (S0 S:St) (K:AV->St->Prop):Prop:=match v with
 | .func (.func f) first cap=>BCal P g f (first ++ xs ++ cap) S0 S K
 | _=>False
@[simp] theorem calB {f first cap xs K}:CalB P g (.func (.func f) first cap) xs S0 S K=BCal P g f (first ++ xs ++ cap) S0 S K:=_root_.id rfl
@[simp] theorem xUC {x xs K}:bOp P g ⟨d,.callV x xs,none⟩ F S0 S K=CalB P g (x.eval F) (xs.map (VX.eval F)) S0 S K:=by
 simp only [bOp,wantedV,callee,CalB]
 generalize x.eval F=v
 cases v <;> try rfl
 rename_i fn a b
 cases fn <;> rfl
@[simp] theorem xYj {k xs K}:xOp P g ⟨d,.sk k xs,none⟩ F S K=Ok (sk k (xs.map (VX.eval F)) S) (fun r=>K r.1 r.2):=_root_.id rfl
@[simp] theorem xUD {f xs K}:xOp P g ⟨d,.callF f xs,none⟩ F S K=XCal P g f (xs.map (VX.eval F)) S K:=_root_.id rfl
def GuaD (d:Option Nat) (op:VOp) (b:Bool) (v:AV) (yes:VOper->Prop) (no:Prop):Prop:=match v with
 | .bool x=>if x=b then yes ⟨d,op,none⟩ else no
 | _=>no
@[simp] theorem xXb {op yes no}:GuaD d op true (.bool true) yes no=yes ⟨d,op,none⟩:=_root_.id rfl
@[simp] theorem xXc {op yes no}:GuaD d op false (.bool false) yes no=yes ⟨d,op,none⟩:=_root_.id rfl
@[simp] theorem xXd {op yes no}:GuaD d op true (.bool false) yes no=no:=_root_.id rfl
@[simp] theorem xXe {op yes no}:GuaD d op false (.bool true) yes no=no:=_root_.id rfl
@[simp] theorem xXf {op t b K}:pOp ⟨d,op,some (t,b)⟩ F K=GuaD d op b (F t) (fun o=>pOp o F K) (K .none):=by
 simp only [pOp,wantedV,GuaD]
 generalize F t=v
 cases v <;> simp only []
 rename_i x;cases x <;> cases b <;> rfl
@[simp] theorem xXh {op t b K}:bOp P g ⟨d,op,some (t,b)⟩ F S0 S K=GuaD d op b (F t) (fun o=>bOp P g o F S0 S K) (K .none S):=by
 simp only [bOp,wantedV,GuaD]
 generalize F t=v
 cases v <;> simp only []
 rename_i x;cases x <;> cases b <;> rfl
@[simp] theorem xXi {op t b K}:xOp P g ⟨d,op,some (t,b)⟩ F S K=GuaD d op b (F t) (fun o=>xOp P g o F S K) (K .none S):=by
 simp only [xOp,wantedV,GuaD]
 generalize F t=v
 cases v <;> simp only []
 rename_i x;cases x <;> cases b <;> rfl
end
theorem Ret.b {b f args S0 S K n xs y} (h:Ret P g b f xs y) (hx:mapOpt (pict S0 [] n) args=some xs) (hs:(b || y.plain || solids args)=true) (hk:K y S):BCal P g f args S0 S K:=.inl ⟨b,n,xs,y,h,hx,hs,hk⟩
theorem Own.b {f args S0 S K n xs y E} (h:Own P g f xs y E) (hx:mapOpt (pict S0 [] n) args=some xs) (hk:K (y.shift S.next) (S.add E)):BCal P g f args S0 S K:=.inr ⟨n,xs,y,E,h,hx,hk⟩
end
section
variable {P:Program} {g:Glob}
@[simp] theorem xXj {x}:pk .move [x]=some x:=_root_.id rfl
@[simp] theorem xXk {c a b}:pk .pick [.bool c,a,b]=some (if c then a else b):=_root_.id rfl
def iand (k:IntKind) (a b:Int):Int:=k.wrap (BitVec.ofInt k.bits a &&& BitVec.ofInt k.bits b).toNat
def ior (k:IntKind) (a b:Int):Int:=k.wrap (BitVec.ofInt k.bits a ||| BitVec.ofInt k.bits b).toNat
def ixor (k:IntKind) (a b:Int):Int:=k.wrap (BitVec.ofInt k.bits a ^^^ BitVec.ofInt k.bits b).toNat
def iandNot (k:IntKind) (a b:Int):Int:=k.wrap (BitVec.ofInt k.bits a &&& ~~~(BitVec.ofInt k.bits b)).toNat
theorem xBa {op k a b} (h:¬ (op=.shl \/ op=.shr)):pk (.ibin op) [.int k a,.int k b]=ibin op k a b:=by
 simp only [pk]
 rw [if_neg h];simp
@[simp] theorem xYk {k a b}:pk (.ibin .add) [.int k a,.int k b]=some (.int k (k.wrap (a + b))):=by rw [xBa (by simp)];rfl
@[simp] theorem xYl {k a b}:pk (.ibin .sub) [.int k a,.int k b]=some (.int k (k.wrap (a - b))):=by rw [xBa (by simp)];rfl
@[simp] theorem xYm {k a b}:pk (.ibin .mul) [.int k a,.int k b]=some (.int k (k.wrap (a * b))):=by rw [xBa (by simp)];rfl
@[simp] theorem xYn {k a b}:pk (.ibin .quo) [.int k a,.int k b]=if b=0 then none else some (.int k (k.wrap (a.tdiv b))):=by rw [xBa (by simp)];rfl
@[simp] theorem xYp {k a b}:pk (.ibin .and) [.int k a,.int k b]=some (.int k (iand k a b)):=by rw [xBa (by simp)];rfl
@[simp] theorem xYO {k a b}:pk (.ibin .or) [.int k a,.int k b]=some (.int k (ior k a b)):=by rw [xBa (by simp)];rfl
@[simp] theorem xYq {k a b}:pk (.ibin .xor) [.int k a,.int k b]=some (.int k (ixor k a b)):=by rw [xBa (by simp)];rfl
@[simp] theorem xUE {k a b}:pk (.ibin .andNot) [.int k a,.int k b]=some (.int k (iandNot k a b)):=by rw [xBa (by simp)];rfl
@[simp] theorem xYr {k a b}:pk (.ibin .eql) [.int k a,.int k b]=some (.bool (decide (a=b))):=by rw [xBa (by simp)];simp only [ibin];congr 2
@[simp] theorem xYs {k a b}:pk (.ibin .neq) [.int k a,.int k b]=some (.bool (!decide (a=b))):=by rw [xBa (by simp)];simp only [ibin];congr 2
@[simp] theorem xYt {k a b}:pk (.ibin .lss) [.int k a,.int k b]=some (.bool (decide (a < b))):=by rw [xBa (by simp)];rfl
@[simp] theorem xYu {k a b}:pk (.ibin .leq) [.int k a,.int k b]=some (.bool (decide (a<=b))):=by rw [xBa (by simp)];rfl
@[simp] theorem xYv {k a b}:pk (.ibin .gtr) [.int k a,.int k b]=some (.bool (decide (b < a))):=by rw [xBa (by simp)];rfl
@[simp] theorem xYw {k a b}:pk (.ibin .geq) [.int k a,.int k b]=some (.bool (decide (b<=a))):=by rw [xBa (by simp)];rfl
@[simp] theorem xYx {k j a b}:pk (.ibin .shl) [.int k a,.int j b]=ishift .shl k a b:=by simp [pk]
@[simp] theorem xYy {k j a b}:pk (.ibin .shr) [.int k a,.int j b]=ishift .shr k a b:=by simp [pk]
@[simp] theorem xXl {neg a b}:pk (.bbin neg) [.bool a,.bool b]=some (.bool (if neg then !(a == b) else a == b)):=_root_.id rfl
@[simp] theorem xXm {op a b}:pk (.sbin op) [.str a,.str b]=sbin op a b:=_root_.id rfl
def sEq (a b:ByteArray):Bool:=a.toList == b.toList
@[simp] theorem xWp {a b}:sbin .eql a b=some (.bool (sEq a b)):=_root_.id rfl
@[simp] theorem xWq {a b}:sbin .neq a b=some (.bool (!sEq a b)):=_root_.id rfl
theorem xDF (a b:List Nat):sEq (bs a) (bs b)=decide (a.map UInt8.ofNat=b.map UInt8.ofNat):=by
 simp only [sEq,bs,ByteArray.toList_eq]
 rw [Bool.eq_iff_iff];simp
@[simp] theorem xTL {neg o i q}:pk (.ptrNil neg) [.ptr o i q]=some (.bool neg):=_root_.id rfl
@[simp] theorem xUF {neg t v}:pk (.ifNil neg) [.iface t v]=some (.bool neg):=_root_.id rfl
@[simp] theorem xUG {neg}:pk (.ifNil neg) [.niliface]=some (.bool !neg):=_root_.id rfl
@[simp] theorem xTM {neg ks xs ys}:pk (.cellsEq neg ks) [.agg xs,.agg ys]=if fitsAll ks xs=true/\fitsAll ks ys=true then some (.bool (if neg then !(eqCells xs ys) else eqCells xs ys)) else none:=_root_.id rfl
@[simp] theorem xYz {b}:pk (.un .not) [.bool b]=some (.bool !b):=_root_.id rfl
@[simp] theorem xXn {k j n}:pk (.convInt k) [.int j n]=some (.int k (k.wrap n)):=_root_.id rfl
@[simp] theorem xWr {t x}:pk (.iface t) [x]=some (.iface t x):=_root_.id rfl
@[simp] theorem xUH {fn n xs}:pk (.mkfunc fn n) xs=if n<=xs.length then some (.func fn (xs.take n) (xs.drop n)) else none:=_root_.id rfl
@[simp] theorem xTN {i vs}:pk (.extract i) [.tuple vs]=vs[i]?:=_root_.id rfl
@[simp] theorem xWs {ag off sz cs}:pk (.field ag off sz) [.agg cs]=partV ag cs off sz:=_root_.id rfl
@[simp] theorem xQG {off o i q}:pk (.fieldAddr off) [.ptr o i q]=some (.ptr o i (q + off)):=_root_.id rfl
@[simp] theorem xQH {off cs q}:pk (.fieldAddr off) [.fptr cs q]=some (.fptr cs (q + off)):=_root_.id rfl
@[simp] theorem xXo {x}:pk .lenS [x]=(lenV x).map fun n=>.int .i64 (n:Int):=by
 simp only [pk];cases lenV x <;> rfl
@[simp] theorem xXp {k a xs}:pk .minI (.int k a :: xs)=foldI (fun x y=>if y < x then y else x) k a xs:=_root_.id rfl
@[simp] theorem xXq {k a xs}:pk .maxI (.int k a :: xs)=foldI (fun x y=>if y > x then y else x) k a xs:=_root_.id rfl
@[simp] theorem xUK {f k x}:foldI f k x []=some (.int k x):=_root_.id rfl
@[simp] theorem xTO {f k x y ys}:foldI f k x (.int k y :: ys)=foldI f k (f x y) ys:=by simp [foldI]
@[simp] theorem xRS {o i q}:pk .nilCheck [.ptr o i q]=some (.ptr o i q):=_root_.id rfl
@[simp] theorem xWt {zero places xs}:pk (.build zero places) xs=if places.length=xs.length then (fillV zero (places.zip xs)).map .agg else none:=_root_.id rfl
theorem xAL {sz es i}:pk (.indexAddr sz) [.fsl sz es,.int .i64 i]=if 0<=i then (es[i.toNat]?).map fun e=>.fptr e 0 else none:=by simp [pk]
theorem xEa {sz o off len i}:pk (.indexAddr sz) [.sl sz o off len,.int .i64 i]=if 0<=i/\i < len then some (.ptr o (off + i.toNat) 0) else none:=by simp [pk]
@[simp] theorem xWu {sz es}:lenV (.fsl sz es)=some es.length:=_root_.id rfl
@[simp] theorem xXr {sz o off len}:lenV (.sl sz o off len)=some len:=_root_.id rfl
@[simp] theorem xTP:lenV .nilsl=some 0:=_root_.id rfl
@[simp] theorem xUL {cs}:AV.cells (.agg cs)=cs:=_root_.id rfl
@[simp] theorem xUM {k n}:AV.cells (.int k n)=[.int k n]:=_root_.id rfl
@[simp] theorem xTQ {b}:AV.cells (.bool b)=[.bool b]:=_root_.id rfl
@[simp] theorem xUN {b}:AV.cells (.str b)=[.str b]:=_root_.id rfl
@[simp] theorem xUO {o i q}:AV.cells (.ptr o i q)=[.ptr o i q]:=_root_.id rfl
@[simp] theorem xUP {sz es}:AV.cells (.fsl sz es)=[.fsl sz es]:=_root_.id rfl
@[simp] theorem xWw {sz o off len}:AV.cells (.sl sz o off len)=[.sl sz o off len]:=_root_.id rfl
@[simp] theorem xUR {o}:AV.cells (.map o)=[.map o]:=_root_.id rfl
@[simp] theorem xTR {f a b}:AV.cells (.func f a b)=[.func f a b]:=_root_.id rfl
@[simp] theorem xSx {t v}:AV.cells (.iface t v)=[.iface t v]:=_root_.id rfl
attribute [simp] partV fillV over fitsAll EK.fits eqCells valEq scalarEq okEl mapOpt SK.isRead SK.isMake
@[simp] theorem xXs {k n}:(AV.int k n).one=true:=_root_.id rfl
@[simp] theorem xWx {b}:(AV.bool b).one=true:=_root_.id rfl
@[simp] theorem xXu {o i q}:(AV.ptr o i q).one=true:=_root_.id rfl
@[simp] theorem xUS:AV.nilsl.one=true:=_root_.id rfl
@[simp] theorem xXv {sz es}:(AV.fsl sz es).one=true:=_root_.id rfl
@[simp] theorem xYB {sz o q n}:(AV.sl sz o q n).one=true:=_root_.id rfl
@[simp] theorem xXx {o}:(AV.map o).one=true:=_root_.id rfl
@[simp] theorem xWz {f a b}:(AV.func f a b).one=true:=_root_.id rfl
@[simp] theorem xXy {c}:(AV.agg c).one=false:=_root_.id rfl
attribute [simp] AV.plain plains AV.solid solids AV.young youngs youngss
@[simp] theorem xYC {x S}:sk .box [x] S=if 0 < x.cells.length then some (.ptr S.next 0 0,S.new (.row x.cells.length [x.cells])) else none:=_root_.id rfl
@[simp] theorem xWA {z S}:sk (.alloc z) [] S=some (.ptr S.next 0 0,S.new (.row z.length [z])):=_root_.id rfl
@[simp] theorem xTU {S}:sk .makeMap [] S=some (.map S.next,S.new (.map [])):=_root_.id rfl
@[simp] theorem xWB {ag sz cs off S}:sk (.load ag sz) [.fptr cs off] S=(partV ag cs off sz).map fun v=>(v,S):=_root_.id rfl
def rowAt (x:Option AObj) (i:Nat):Option (List AV):=match x with
 | some (.row _ es)=>es[i]?
 | _=>none
@[simp] theorem xUW {sz es i}:rowAt (some (.row sz es)) i=es[i]?:=_root_.id rfl
@[simp] theorem xXz {ag sz o i off S}:sk (.load ag sz) [.ptr o i off] S=(rowAt (S.obj o) i).bind fun e=>(partV ag e off sz).map fun v=>(v,S):=by
 simp only [sk,rowAt]
 cases S.obj o with
 | none=>rfl
 | some x =>
  cases x <;> try rfl
  rename_i es
  simp only []
  cases es[i]? <;> rfl
@[simp] theorem xWC {sz o i off x S}:sk (.store sz) [.ptr o i off,x] S=if okEl sz x.cells=true then (setCells S o i off x.cells).map fun S'=>(.tuple [],S') else none:=_root_.id rfl
@[simp] theorem xSz {S:St} {x:AObj} {q:Nat}:(S.new x).obj q=if q=S.next then some x else S.obj q:=_root_.id rfl
@[simp] theorem xCL {S:St} {x:AObj}:(S.new x).next=S.next + 1:=_root_.id rfl
@[simp] theorem xKK {S:St} {o:Nat} {x:AObj} {q:Nat}:(S.set o x).obj q=if q=o then some x else S.obj q:=_root_.id rfl
@[simp] theorem xLK {S:St} {o:Nat} {x:AObj}:(S.set o x).next=S.next:=_root_.id rfl
@[simp] theorem xH7 {S:St} {o:Nat} {q:Nat}:(S.drop o).obj q=if q=o then none else S.obj q:=_root_.id rfl
@[simp] theorem xUX {S:St} {o:Nat}:(S.drop o).next=S.next:=_root_.id rfl
@[simp] theorem xUY {q:Nat}:St.empty.obj q=none:=_root_.id rfl
@[simp] theorem xTV:St.empty.next=0:=_root_.id rfl
def setRow (S:St) (o i off:Nat) (vs:List AV):Option AObj->Option St
 | some (.row sz es)=>match es[i]? with
  | some e=>if off + vs.length<=e.length then some (S.set o (.row sz (es.set i (over e off vs)))) else none
  | none=>none
 | _=>none
@[simp] theorem xSA {S:St} {o i off:Nat} {vs:List AV}:setCells S o i off vs=setRow S o i off vs (S.obj o):=by
 unfold setCells setRow
 cases S.obj o with
 | none=>rfl
 | some x=>cases x <;> rfl
@[simp] theorem xTW {S:St} {o i off:Nat} {vs:List AV} {sz:Nat} {es:List (List AV)}:setRow S o i off vs (some (.row sz es))=(es[i]?).bind fun e=>if off + vs.length<=e.length then some (S.set o (.row sz (es.set i (over e off vs)))) else none:=by
 simp only [setRow];cases es[i]? <;> rfl
@[simp] theorem xRY {zero sz bytes l c S}:sk (.makeSlice zero sz bytes) [.int .i64 l,.int .i64 c] S=if l=c/\0<=l/\l<=room then some (.sl sz S.next 0 l.toNat,S.new (.row sz (List.replicate l.toNat zero))) else none:=_root_.id rfl
@[simp] theorem xQJ {zero sz len idx xs S} : sk (.buildSlice zero sz len idx) xs S = if idx.length = xs.length then
      (fillV (List.replicate len zero).flatten ((idx.map fun i => (i * sz, sz)).zip xs)).map fun cells => (.sl sz S.next 0 len, S.new (.row sz (cutL sz len cells)))
    else none := _root_.id rfl
def okAll (sz:Nat) (ys:List (List AV)):Prop:=ys.all (okEl sz)=true
instance (sz:Nat) (ys:List (List AV)):Decidable (okAll sz ys):=by unfold okAll;exact inferInstance
@[simp] theorem xOj {sz}:okAll sz []=True:=eq_true rfl
@[simp] theorem xMM {sz e es}:okAll sz (e :: es)=(okEl sz e=true/\okAll sz es):=by simp only [okAll,List.all_cons,Bool.and_eq_true]
def rowOf:Option AObj->Option (Nat × List (List AV))
 | some (.row sz es)=>some (sz,es)
 | _=>none
@[simp] theorem xGd {sz es}:rowOf (some (.row sz es))=some (sz,es):=_root_.id rfl
def mapOf:Option AObj->Option (List (AV × AV))
 | some (.map es)=>some es
 | _=>none
@[simp] theorem xUZ {es}:mapOf (some (.map es))=some es:=_root_.id rfl
def appV (sz:Nat) (x:AV) (S:St) (ys:List (List AV)):Option (AV × St) :=
 if ys.length=0 then (if (lenV x).isSome then some (x,S) else none) else
 if ys.length > room \/ ¬ okAll sz ys then none else
 match x with
 | .nilsl=>some (.sl sz S.next 0 ys.length,S.new (.row sz ys))
 | .sl sz' o off len=>(rowOf (S.obj o)).bind fun r=>if sz=sz'/\sz'=r.1/\off + len<=r.2.length/\len + ys.length<=room then some (.sl sz S.next 0 (len + ys.length),(S.drop o).new (.row sz ((r.2.drop off).take len ++ ys))) else none
 | _=>none
theorem xOk {sz b x y S}:sk (.append sz b) [x,y] S=(elems S y).bind (appV sz x S):=by
 simp only [sk,appV]
 cases elems S y with
 | none=>rfl
 | some ys =>
  simp only [Option.bind_some,appV]
  by_cases h1:ys.length=0
  ·rw [if_pos h1,if_pos h1]
  ·rw [if_neg h1,if_neg h1]
   by_cases h2:ys.length > room \/ ¬ (ys.all (okEl sz))=true
   ·rw [if_pos h2,if_pos (show ys.length > room \/ ¬ okAll sz ys from h2)]
   ·rw [if_neg h2,if_neg (show ¬ (ys.length > room \/ ¬ okAll sz ys) from h2)]
    cases x <;> try rfl
    rename_i sz' o off len
    simp only [rowOf]
    cases S.obj o with
    | none=>rfl
    | some ob=>cases ob <;> rfl
@[simp] theorem xTX {sz b x y S}:sk (.append sz b) [x,y] S=(elems S y).bind (appV sz x S):=xOk
@[simp] theorem xFG {sz S ys}:appV sz .nilsl S ys=if ys.length=0 then some (.nilsl,S) else if ys.length > room \/ ¬ okAll sz ys then none else some (.sl sz S.next 0 ys.length,S.new (.row sz ys)):=_root_.id rfl
@[simp] theorem xH8 {sz sz' o off len S ys}:appV sz (.sl sz' o off len) S ys=if ys.length=0 then some (.sl sz' o off len,S) else if ys.length > room \/ ¬ okAll sz ys then none else (rowOf (S.obj o)).bind fun r=>if sz=sz'/\sz'=r.1/\off + len<=r.2.length/\len + ys.length<=room then some (.sl sz S.next 0 (len + ys.length),(S.drop o).new (.row sz ((r.2.drop off).take len ++ ys))) else none:=_root_.id rfl
@[simp] theorem xXA {sz sz' o off len y S}:sk (.copy sz) [.sl sz' o off len,y] S=(rowOf (S.obj o)).bind fun r=>(elems S y).bind fun ys=>if sz=sz'/\sz'=r.1/\off + len<=r.2.length/\okAll sz ys then
  some (.int .i64 (min ys.length len:Nat),S.set o (.row sz (r.2.take off ++ ys.take len ++ r.2.drop (off + min ys.length len)))) else none:=by
 simp only [sk]
 cases S.obj o with
 | none=>rfl
 | some ob =>
  cases ob <;> try rfl
  rename_i sz'' es
  simp only [rowOf,Option.bind_some]
  cases elems S y <;> rfl
@[simp] theorem xRZ {kk o k v S}:sk (.mapUpdate kk) [.map o,k,v] S=(mapOf (S.obj o)).bind fun es=>if ¬ kk.fits k=true then none else (putV k v es).map fun es'=>(.tuple [],S.set o (.map es')):=by
 simp only [sk]
 cases S.obj o with
 | none=>rfl
 | some ob=>cases ob <;> rfl
@[simp] theorem xU0 {kk zero ok o k S} : sk (.lookup kk zero ok) [.map o, k] S = (mapOf (S.obj o)).bind fun es => if ¬ kk.fits k = true then none else (findV k es).map fun r => (match r with
        | some v => if ok then .tuple [v, .bool true] else v
        | none => if ok then .tuple [zero, .bool false] else zero, S) := by
  simp only [sk]
  cases S.obj o with
  | none => rfl
  | some ob => cases ob <;> rfl
@[simp] theorem xJf {t ok zero t' v}:pk (.assert t ok zero) [.iface t' v]=if t=t' then some (if ok=true then .tuple [v,.bool true] else v) else if ok=true then some (.tuple [zero,.bool false]) else none:=_root_.id rfl
@[simp] theorem xSB {sz n lo hi mx o i q xs}:pk (.sliceArr sz n lo hi mx) (.ptr o i q :: xs)=(bnds lo hi mx n n xs).map fun r=>.asl sz o i (q + r.1 * sz) (r.2.1 - r.1):=_root_.id rfl
@[simp] theorem xU3 {sz lo hi mx sz' o off len xs}:pk (.slice sz lo hi mx) (.sl sz' o off len :: xs)=if sz=sz' then (bnds lo hi mx len len xs).bind fun r=>if mx=true/\r.2.2=0 then some .nilsl else some (.sl sz o (off + r.1) (r.2.1 - r.1)) else none:=_root_.id rfl
@[simp] theorem xU4 {n m}:bnds false false false n m []=some (0,n,m):=_root_.id rfl
@[simp] theorem xU6 {n m k h}:bnds false true false n m [.int k h]=if 0<=h/\h<=m then some (0,h.toNat,m) else none:=_root_.id rfl
@[simp] theorem xU9 {zero sz o off len S}:sk (.clear zero) [.sl sz o off len] S=(rowOf (S.obj o)).bind fun r=>if sz=r.1/\okEl sz zero=true/\off + len<=r.2.length then some (.tuple [],S.set o (.row sz (r.2.take off ++ List.replicate len zero ++ r.2.drop (off + len)))) else none:=by
 simp only [sk]
 cases S.obj o with
 | none=>rfl
 | some ob=>cases ob <;> rfl
@[simp] theorem xVa {zero sz o i off len S}:sk (.clear zero) [.asl sz o i off len] S=if okEl sz zero=true then (setCells S o i off (List.replicate len zero).flatten).map fun S'=>(.tuple [],S') else none:=_root_.id rfl
def arrEl (x:Option AObj) (sz i off len:Nat):Option (List (List AV)):=(rowOf x).bind fun r=>(r.2[i]?).bind fun e=>if off + len * sz<=e.length then some (cutL sz len (e.drop off)) else none
@[simp] theorem xVb {sz' es sz i off len}:arrEl (some (.row sz' es)) sz i off len=(es[i]?).bind fun e=>if off + len * sz<=e.length then some (cutL sz len (e.drop off)) else none:=_root_.id rfl
@[simp] theorem xOl {S sz o i off len}:elems S (.asl sz o i off len)=arrEl (S.obj o) sz i off len:=by
 simp only [elems,arrEl,rowOf]
 cases S.obj o with
 | none=>rfl
 | some ob =>
  cases ob <;> try rfl
  rename_i es
  simp only [Option.bind_some]
  cases es[i]? <;> rfl
theorem xAG {sz len o j off i}:pk (.indexAddrArr sz len) [.ptr o j off,.int .i64 i]=if 0<=i/\i < len then some (.ptr o j (off + i.toNat * sz)) else none:=by simp [pk]
attribute [simp] KK.fits cutL
def tupV:List AV->AV
 | [v]=>v
 | vs=>.tuple vs
def KR (K:AV->St->Prop) (F:AFrame) (S:St):List VRes->List AV->Prop
 | [],vs=>K (tupV vs.reverse) S
 | .tmp t :: rs,vs=>KR K F S rs (F t :: vs)
 | .cell t ag sz :: rs,vs=>Ok (sk (.load ag sz) [F t] S) (fun r=>KR K F S rs (r.1 :: vs))
theorem xSD {K:AV->St->Prop} {F:AFrame} {S:St}:∀(rs:List VRes) (vs:List AV),KR K F S rs vs=Ok (mapOpt (res1 F S) rs) (fun us=>K (tupV (vs.reverse ++ us)) S)
 | [],vs=>by simp [KR]
 | .tmp t :: rs,vs=>by
  simp only [KR,mapOpt,res1]
  rw [xSD rs]
  cases mapOpt (res1 F S) rs <;> simp [Ok]
 | .cell t ag sz :: rs,vs=>by
  simp only [KR,mapOpt,res1]
  cases sk (.load ag sz) [F t] S with
  | none=>rfl
  | some r =>
   simp only [Option.map_some,ok_some]
   rw [xSD rs]
   cases mapOpt (res1 F S) rs <;> simp [Ok]
@[simp] theorem xXB {rs K F S}:KRes rs K F S=KR K F S rs []:=by
 rw [xSD,KRes,resV]
 cases mapOpt (res1 F S) rs with
 | none=>rfl
 | some vs =>
  match vs with
  | []=>rfl
  | [v]=>rfl
  | v :: w :: vs=>rfl
@[simp] theorem xYD {K F S vs}:KR K F S [] vs=K (tupV vs.reverse) S:=_root_.id rfl
@[simp] theorem xYE {K F S t rs vs}:KR K F S (.tmp t :: rs) vs=KR K F S rs (F t :: vs):=_root_.id rfl
@[simp] theorem xXC {K F S t ag sz rs vs}:KR K F S (.cell t ag sz :: rs) vs=Ok (sk (.load ag sz) [F t] S) (fun r=>KR K F S rs (r.1 :: vs)):=_root_.id rfl
@[simp] theorem xWD {v}:tupV [v]=v:=_root_.id rfl
@[simp] theorem xWE:tupV []=.tuple []:=_root_.id rfl
@[simp] theorem xWF {v w vs}:tupV (v :: w :: vs)=.tuple (v :: w :: vs):=_root_.id rfl
end
end Go.Proofs.YtnhfofmhkfdpgaaGreatDoor.Vm
