/- A part of the proof: Vs Vt Vu Vu2. -/
import Derived.Test.YtnhfofmhkfdpgaaGreatDoorQ07
set_option linter.unusedVariables false
set_option linter.unusedSimpArgs false
set_option linter.constructorNameAsVariable false
namespace Go.Proofs.YtnhfofmhkfdpgaaGreatDoor.Vm
open Go Go.RowKit
def VX.slot:VX->List Nat
 | .t n=>[n]
 | .c _=>[]
def slots:List VX->List Nat
 | []=>[]
 | x :: xs=>x.slot ++ slots xs
def VOp.reads:VOp->List Nat
 | .pk _ xs=>slots xs
 | .sk _ xs=>slots xs
 | .callF _ xs=>slots xs
 | .callV x xs=>x.slot ++ slots xs
 | .callI x _ xs=>x.slot ++ slots xs
 | .eqNil _ x=>x.slot
 | .bad=>[]
def gslot:Option (Nat × Bool)->List Nat
 | some (t,_)=>[t]
 | none=>[]
def VOper.reads (o:VOper):List Nat:=o.op.reads ++ gslot o.guard
theorem xBW {F F':AFrame}:∀{x:VX},(∀t ∈ x.slot,F' t=F t)->x.eval F'=x.eval F
 | .t n,h=>h n (by simp [VX.slot])
 | .c _,_=>rfl
theorem xAD {F F':AFrame}:∀{xs:List VX},(∀t ∈ slots xs,F' t=F t)->xs.map (VX.eval F')=xs.map (VX.eval F)
 | [],_=>rfl
 | x :: xs,h=>by
  simp only [List.map_cons]
  rw [xBW (fun t ht=>h t (by simp [slots,ht])),xAD (fun t ht=>h t (by simp [slots,ht]))]
theorem xCc {F F':AFrame}:∀{gd:Option (Nat × Bool)},(∀t ∈ gslot gd,F' t=F t)->wantedV F' gd=wantedV F gd
 | none,_=>rfl
 | some (t,b),h=>by simp only [wantedV];rw [h t (by simp [gslot])]
theorem xCd {F F':AFrame} {op:VOp} (h:∀t ∈ op.reads,F' t=F t):callee op F'=callee op F:=by
 cases op <;> simp only [callee]
 ·rw [xAD (F:=F) h]
 ·rename_i x xs
  rw [xBW (F:=F) (fun t ht=>h t (by simp [VOp.reads,ht])),xAD (F:=F) (fun t ht=>h t (by simp [VOp.reads,ht]))]
theorem xJa {S S':St} (h:Sub S S') {x:AV} {es:List (List AV)} (he:elems S x=some es):elems S' x=some es:=by
 cases x <;> simp only [elems] at he ⊢ <;> try exact he
 ·split at he
  ·rename_i h0;rw [if_pos h0];exact he
  ·rename_i h0
   rw [if_neg h0]
   split at he
   ·rename_i sz' es' ho;rw [h _ _ ho];exact he
   ·cases he
 ·split at he
  ·rename_i sz' es' ho;rw [h _ _ ho];exact he
  ·cases he
theorem xAF {α β:Type} {f f':α->Option β} (h:∀x y,f x=some y->f' x=some y):∀{l:List α} {m:List β},mapOpt f l=some m->mapOpt f' l=some m
 | [],m,hm=>hm
 | x :: xs,m,hm=>by
  simp only [mapOpt] at hm ⊢
  split at hm
  ·rename_i y ys h1 h2
   rw [h _ _ h1,xAF h h2];exact hm
  ·cases hm
theorem xH4 {S S':St} (h:Sub S S'):∀(n:Nat) (x y:AV),pict S [] n x=some y->pict S' [] n x=some y:=by
 intro n
 induction n with
 | zero=>intro x y hx;simp [pict] at hx
 | succ n ih =>
  intro x y hx
  cases x <;> simp only [pict] at hx ⊢ <;> try exact hx
  case sl sz o off len =>
   simp only [List.idxOf?_nil] at hx ⊢
   split at hx
   ·rename_i es he
    rw [xJa h he]
    simp only [Option.map_eq_some_iff] at hx ⊢
    obtain ⟨fs,h1,h2⟩:=hx
    exact ⟨fs,xAF (fun _ _ hh=>xAF ih hh) h1,h2⟩
   ·cases hx
  case asl sz o i off len =>
   split at hx
   ·rename_i es he
    rw [xJa h he]
    simp only [Option.map_eq_some_iff] at hx ⊢
    obtain ⟨fs,h1,h2⟩:=hx
    exact ⟨fs,xAF (fun _ _ hh=>xAF ih hh) h1,h2⟩
   ·cases hx
  case func fn a b =>
   split at hx
   ·rename_i a' b' h1 h2
    rw [xAF ih h1,xAF ih h2];exact hx
   ·cases hx
  case iface t v =>
   simp only [Option.map_eq_some_iff] at hx ⊢
   obtain ⟨z,h1,h2⟩:=hx;exact ⟨z,ih _ _ h1,h2⟩
  case agg cs =>
   simp only [Option.map_eq_some_iff] at hx ⊢
   obtain ⟨z,h1,h2⟩:=hx;exact ⟨z,xAF ih h1,h2⟩
  case tuple cs =>
   simp only [Option.map_eq_some_iff] at hx ⊢
   obtain ⟨z,h1,h2⟩:=hx;exact ⟨z,xAF ih h1,h2⟩
section
variable {P:Program} {g:Glob}
def Ben (P:Program) (g:Glob) (o:VOper) (F:AFrame) (S:St) (id:Nat) (v:AV) (k:Nat) (ob:Nat->Option AObj):Prop :=
 ∀(ops:Array Oper) (i n B:Nat) (ro:Option Nat) (a:Act) (C:Ctx) (oper:Oper) (K:Act->World->Prop) (Q':Exit->Act->World->Prop) (F':AFrame),ops[i]?=some oper->compOper P n ops oper=some o->AtC g C F' n B ro a ->
  (∀t ∈ o.reads,F' t=F t)->Sub S C.S->Free C id k C.S.next ->
  (∀u C',C'.S=⟨C.S.next,fun q=>if id<=q/\q < id + k then ob (q - id) else C.S.obj q⟩->(∀q,¬ (id<=q/\q < id + k)->C'.μ q=C.μ q)->Le C C'->Rel C'->VR C' u v->K (a.put o.dst u) C'.w)->wpOpIn (fence ro) 0 P ops Q' i K a C.w
theorem lay0 {S:St} {id:Nat} {ob:Nat->Option AObj}:S=⟨S.next,fun q=>if id<=q/\q < id + 0 then ob (q - id) else S.obj q⟩:=by
 have:(fun q=>if id<=q/\q < id + 0 then ob (q - id) else S.obj q)=S.obj:=by
  funext q;rw [if_neg (by omega)]
 rw [this]
theorem Ben.of_wop {o:VOper} {F:AFrame} {S:St} {id:Nat} {v:AV} {ob:Nat->Option AObj} (h:∀F' S',(∀t ∈ o.reads,F' t=F t)->Sub S S'->∀ops i n B ro a C oper K Q',ops[i]?=some oper->compOper P n ops oper=some o->C.S=S'->AtC g C F' n B ro a ->
  (∀u C',C'.S=C.S->C'.μ=C.μ->Le C C'->Rel C'->VR C' u v->K (a.put o.dst u) C'.w)->wpOpIn (fence ro) 0 P ops Q' i K a C.w):Ben P g o F S id v 0 ob:=by
 intro ops i n B ro a C oper K Q' F' hi hc hA hr hS hf hK
 refine h F' C.S hr hS ops i n B ro a C oper K Q' hi hc rfl hA ?_
 intro u C' h1 h2 h3 h4 h5
 exact hK u C' (by rw [h1];exact lay0) (fun q _=>by rw [h2]) h3 h4 h5
theorem Ben.off {o:VOper} {F:AFrame} {S:St} {id:Nat} {ob:Nat->Option AObj} (hg:wantedV F o.guard=false):Ben P g o F S id .none 0 ob:=by
 refine Ben.of_wop ?_
 intro F' S' hr hS ops i n B ro a C oper K Q' hi hc hCS hA hK
 obtain ⟨h1,h2,h3⟩:=xA8 hc
 have hw:=xD4 hc hA.fr
 rw [xCc (F:=F) (fun t ht=>hr t (by simp [VOper.reads,ht])),hg] at hw
 simp only [wpOpIn,hi,hw,Bool.false_eq_true,if_false,h2]
 exact ⟨fun f _=>xCK _ _,hK undef C rfl rfl (Le.refl C) hA.rel VR.undef⟩
theorem xFl {o:VOper} {F F':AFrame} {n B:Nat} {ro:Option Nat} {a:Act} {C:Ctx} {oper:Oper} {ops:Array Oper} {i:Nat} {K:Act->World->Prop} {Q':Exit->Act->World->Prop} (hi:ops[i]?=some oper) (hc:compOper P n ops oper=some o) (hA:AtC g C F' n B ro a)
  (hb:o.op ≠ .bad) (hr:∀t ∈ o.reads,F' t=F t) (hg:wantedV F o.guard=true) (h:compOp P oper.op=some o.op->oper.dst=o.dst->oper.uponIn (fence ro) 0 P a K Q' ((execOp a.eval oper).run P C.w)):wpOpIn (fence ro) 0 P ops Q' i K a C.w:=by
 obtain ⟨h1,h2,h3⟩:=xA8 hc
 have hw:=xD4 hc hA.fr
 rw [xCc (F:=F) (fun t ht=>hr t (by simp [VOper.reads,ht])),hg] at hw
 simp only [wpOpIn,hi,hw,if_true,Oper.wpIn]
 refine ⟨fun f _=>xCK _ _,?_⟩
 have h1:=xOa h1 hb
 rw [Oper.semAt_eq _ _ _ (xHl h1)]
 exact h h1 h2
theorem Ben.pk {o:VOper} {F:AFrame} {S:St} {id:Nat} {ob:Nat->Option AObj} {k:PK} {xs:List VX} {v:AV} (hg:wantedV F o.guard=true) (ho:o.op=.pk k xs) (hv:Vm.pk k (xs.map (VX.eval F))=some v):Ben P g o F S id v 0 ob:=by
 refine Ben.of_wop ?_
 intro F' S' hr hS ops i n B ro a C oper K Q' hi hc hCS hA hK
 refine xFl hi hc hA (by first | (rw [ho];simp) | (intro e;rw [e] at hcal;cases hcal)) hr hg ?_
 intro h1 h2
 rw [ho] at h1
 rw [<- xAD (F:=F) (F':=F') (fun t ht=>hr t (by simp [VOper.reads,ho,VOp.reads,ht]))] at hv
 obtain ⟨u,u1,u2⟩:=xLz hA.fr h1 hv
 rw [u1,Oper.uponIn_value,h2]
 exact hK u C rfl rfl (Le.refl C) hA.rel u2
theorem Ben.read {o:VOper} {F:AFrame} {S:St} {id:Nat} {ob:Nat->Option AObj} {k:SK} {xs:List VX} {v:AV} {S1:St} (hg:wantedV F o.guard=true) (ho:o.op=.sk k xs) (hk:k.isRead=true) (hv:sk k (xs.map (VX.eval F)) S=some (v,S1)):Ben P g o F S id v 0 ob:=by
 refine Ben.of_wop ?_
 intro F' S' hr hS ops i n B ro a C oper K Q' hi hc hCS hA hK
 refine xFl hi hc hA (by first | (rw [ho];simp) | (intro e;rw [e] at hcal;cases hcal)) hr hg ?_
 intro h1 h2
 rw [ho] at h1
 rw [<- xAD (F:=F) (F':=F') (fun t ht=>hr t (by simp [VOper.reads,ho,VOp.reads,ht]))] at hv
 subst hCS
 obtain ⟨rfl,hv'⟩:=xLC hk hS hv
 obtain ⟨u,hrun,hu⟩:=(xF2 hA.rel hA.rel.fits hA.fr h1 hv').1 hk
 rw [hrun,Oper.uponIn_value,h2]
 exact hK u C rfl rfl (Le.refl C) hA.rel hu
theorem xOc {k:SK} (hk:k.isMake=true) {xs:List AV} {S:St} {v:AV} {S1:St} (h:sk k xs S=some (v,S1)) :
  ∃ x,S1=S.new x/\∀f:Nat->Option AObj,sk k xs ⟨S.next,f⟩=some (v,(⟨S.next,f⟩:St).new x):=by
 cases k <;> simp [SK.isMake] at hk <;> simp only [sk] at h ⊢
 case box =>
  split at h
  ·split at h
   ·rename_i hn
    simp only [xoI,Prod.mk.injEq] at h
    obtain ⟨rfl,rfl⟩:=h
    exact ⟨_,rfl,fun f=>by rw [if_pos hn]⟩
   ·cases h
  ·cases h
 case alloc z =>
  split at h
  ·simp only [xoI,Prod.mk.injEq] at h
   obtain ⟨rfl,rfl⟩:=h
   exact ⟨_,rfl,fun f=>rfl⟩
  ·cases h
 case buildSlice z sz len idx =>
  split at h
  ·rename_i hn
   simp only [Option.map_eq_some_iff,Prod.mk.injEq] at h
   obtain ⟨y,h1,rfl,rfl⟩:=h
   exact ⟨_,rfl,fun f=>by rw [if_pos hn,h1];rfl⟩
  ·cases h
 case makeSlice z sz b =>
  split at h
  ·split at h
   ·rename_i hn
    simp only [xoI,Prod.mk.injEq] at h
    obtain ⟨rfl,rfl⟩:=h
    exact ⟨_,rfl,fun f=>by rw [if_pos hn]⟩
   ·cases h
  ·cases h
 case makeMap =>
  split at h
  ·simp only [xoI,Prod.mk.injEq] at h
   obtain ⟨rfl,rfl⟩:=h
   exact ⟨_,rfl,fun f=>rfl⟩
  ·cases h
theorem Ben.make {o:VOper} {F:AFrame} {S Si:St} {k:SK} {xs:List VX} {v:AV} {x:AObj} (hg:wantedV F o.guard=true) (ho:o.op=.sk k xs) (hk:k.isMake=true) (hv:sk k (xs.map (VX.eval F)) Si=some (v,Si.new x)):Ben P g o F S Si.next v 1 (fun _=>some x):=by
 intro ops i n B ro a C oper K Q' F' hi hc hA hr hS hf hK
 refine xFl hi hc hA (by first | (rw [ho];simp) | (intro e;rw [e] at hcal;cases hcal)) hr hg ?_
 intro h1 h2
 rw [ho] at h1
 rw [<- xAD (F:=F) (F':=F') (fun t ht=>hr t (by simp [VOper.reads,ho,VOp.reads,ht]))] at hv
 obtain ⟨x',hx,hall⟩:=xOc hk hv
 have hxx:x'=x:=by
  have:=congrArg (fun S:St=>S.obj Si.next) hx
  simp only [St.new,if_true,xoI] at this
  exact this.symm
 subst hxx
 obtain ⟨hno1,hno2⟩:=hf.no Si.next (Nat.le_refl _) (by omega)
 have hfit:Fits C Si.next C.S.next:=⟨hno1,hno2,by have:=hf.le;omega,Nat.le_refl _⟩
 obtain ⟨u,C',r1,r2,r3,r4,r5,r6,_⟩:=(xF2 hA.rel hfit hA.fr h1 (hall C.S.obj)).2.1 hk
 rw [r1,Oper.uponIn_value,h2]
 refine hK u C' ?_ ?_ r3 r4 r5
 ·rw [r2]
  simp only [St.new]
  congr 1
  funext q
  by_cases e:q=Si.next
  ·rw [if_pos e,if_pos (by omega)]
  ·rw [if_neg e,if_neg (by omega)]
 ·intro q hq
  exact r6 q (by omega)
theorem Ben.eqNil {o:VOper} {F:AFrame} {S:St} {id:Nat} {ob:Nat->Option AObj} {neg:Bool} {x:VX} {m:Nat} (hg:wantedV F o.guard=true) (ho:o.op=.eqNil neg x) (hx:lenV (x.eval F)=some (m + 1)):Ben P g o F S id (.bool neg) 0 ob:=by
 refine Ben.of_wop ?_
 intro F' S' hr hS ops i n B ro a C oper K Q' hi hc hCS hA hK
 have hx':lenV (x.eval F')=some (m + 1):=by
  rw [xBW (F:=F) (F':=F') (fun t ht=>hr t (by simp [VOper.reads,ho,VOp.reads,ht]))];exact hx
 have hg':wantedV F' o.guard=true:=by rw [xCc (F:=F) (fun t ht=>hr t (by simp [VOper.reads,ht]))];exact hg
 refine xFl hi hc hA (by first | (rw [ho];simp) | (intro e;rw [e] at hcal;cases hcal)) hr hg ?_
 intro h1 h2
 rw [ho] at h1
 obtain ⟨t,y,t',e,hop,het,hcx⟩:=xFk h1
 have hv:=xAf hA.fr hcx
 obtain ⟨q,len,cap,hq,hnil⟩:=xI8 hv hx'
 have hcn:a.eval (.const (.slice none 0 0))=.slice none 0 0:=rfl
 have hqn:q.isNone=false:=by
  cases hqn:q.isNone
  ·rfl
  ·have:=hnil hqn;omega
 have hrun:(execOp a.eval oper).run P C.w=.ok (.value (.bool neg)) C.w:=by
  cases q with
  | none=>cases hqn
  | some q=>cases neg <;> simp [execOp,hop,hq,hcn,eqGuard,binOp,xCX C.w _ _ _ het]
 rw [hrun,Oper.uponIn_value,h2]
 exact hK _ C rfl rfl (Le.refl C) hA.rel (.bool neg)
theorem Ben.con {o:VOper} {F:AFrame} {S:St} {id:Nat} {f:Nat} {args:List AV} {n:Nat} {xs:List AV} {c:RCon} {res:AV} {objs:St} (hg:wantedV F o.guard=true) (hcal:callee o.op F=some (f,args)) (hf:callable P f=true) (hc:ConOK P g f c) (hx:mapOpt (pict S [] n) args=some xs) (hp:c.pre xs)
  (hq:∀res' objs',c.post xs res' objs'->(res'=res/\objs'=objs)/\(solids args=true \/ (res.young=true/\youngo objs))):Ben P g o F S id (res.shift id) objs.next (fun q=>(objs.obj (q)).bind (AObj.shift id)):=by
 intro ops i n' B ro a C oper K Q' F' hi hcp hA hr hS hfree hK
 refine xFl hi hcp hA (by first | (rw [ho];simp) | (intro e;rw [e] at hcal;cases hcal)) hr hg ?_
 intro h1 h2
 have hcal':callee o.op F'=some (f,args):=by
  rw [<- hcal];exact xCd (fun t ht=>hr t (by simp [VOper.reads,ht]))
 obtain ⟨vs,r1,r2⟩:=xBI hA.fr h1 hcal' hf
 rw [r1,Oper.uponIn_enter]
 refine ⟨by simp,xAz (Calls.mono (xF7 hc (xAF (xH4 hS n) hx) hp (fun res' objs' h=>by obtain ⟨⟨rfl,rfl⟩,hy⟩:=hq _ _ h;exact hy) hA.rel r2 hA.glob) ?_)⟩
 rintro e w' ⟨v,res',objs',rfl,hpost,hh,_⟩
 obtain ⟨⟨rfl,rfl⟩,_⟩:=hq _ _ hpost
 obtain ⟨C',k1,k2,rfl,k3,k4,k5⟩:=hh id C.S.next hfree
 show K (a.put oper.dst v) C'.w
 rw [h2]
 exact hK v C' k1 k2 k3 k4 k5
theorem Ben.conF {o:VOper} {F:AFrame} {S:St} {id:Nat} {ob:Nat->Option AObj} {f:Nat} {args:List AV} {n:Nat} {xs:List AV} {c:RCon} {y:AV} (hg:wantedV F o.guard=true) (hcal:callee o.op F=some (f,args)) (hf:callable P f=true) (hc:ConOK P g f c) (hx:mapOpt (pict S [] n) args=some xs) (hp:c.pre xs)
  (hq:∀res objs,c.post xs res objs->(solids args=true \/ (res.young=true/\youngo objs))/\∃ m,pict (objs) [] m res=some y):Ben P g o F S id y 0 ob:=by
 refine Ben.of_wop ?_
 intro F' S' hr hS ops i n' B ro a C oper K Q' hi hcp hCS hA hK
 refine xFl hi hcp hA (by first | (rw [ho];simp) | (intro e;rw [e] at hcal;cases hcal)) hr hg ?_
 intro h1 h2
 subst hCS
 have hcal':callee o.op F'=some (f,args):=by
  rw [<- hcal];exact xCd (fun t ht=>hr t (by simp [VOper.reads,ht]))
 obtain ⟨vs,r1,r2⟩:=xBI hA.fr h1 hcal' hf
 rw [r1,Oper.uponIn_enter]
 refine ⟨by simp,xAz (Calls.mono (xF7 hc (xAF (xH4 hS n) hx) hp (fun res' objs' h=>(hq _ _ h).1) hA.rel r2 hA.glob) ?_)⟩
 rintro e w' ⟨v,res',objs',rfl,hpost,_,hh⟩
 obtain ⟨_,m,hm⟩:=hq _ _ hpost
 obtain ⟨C',k1,k2,rfl,k3,k4,k5⟩:=hh m y hm
 show K (a.put oper.dst v) C'.w
 rw [h2]
 exact hK v C' k1 k2 k3 k4 k5
end
def Ok {α:Type} (o:Option α) (K:α->Prop):Prop:=match o with
 | some x=>K x
 | none=>False
@[simp] theorem ok_some {α:Type} (x:α) (K:α->Prop):Ok (some x) K=K x:=_root_.id rfl
@[simp] theorem xXZ {α:Type} (c:Prop) [Decidable c] (x:Option α) (K:α->Prop):Ok (if c then x else none) K=(c/\Ok x K):=by
 by_cases h:c <;> simp [h,Ok]
theorem Ok.out {α:Type} {o:Option α} {K:α->Prop} (h:Ok o K):∃ x,o=some x/\K x:=by
 cases o with
 | none=>exact h.elim
 | some x=>exact ⟨x,rfl,h⟩
section
variable {P:Program} {g:Glob}
def Cal (P:Program) (g:Glob) (f:Nat) (args:List AV) (S:St) (K:AV->St->Prop):Prop:=callable P f=true/\W P g (.call f args S) (retR K)
def Yie (P:Program) (g:Glob) (q:Nat) (xs:List AV) (S:St) (K:AV->St->Prop):Prop :=
 ∃ n ps LF asg body ca cb,S.obj q=some (.loop n ps LF asg body .ready)/\xs.length=ps.size/\ps.all (· < n)=true/\compCode P n asg=some ca/\compCode P n body=some cb /\
  W P g (.code ca (puts LF ps.toList xs) S) (asgQ P g K q n ps LF asg body cb)
def CalV (P:Program) (g:Glob) (v:AV) (xs:List AV) (S:St) (K:AV->St->Prop):Prop :=
 match v with
 | .func (.func f) first cap=>Cal P g f (first ++ xs ++ cap) S K
 | .yield q=>Yie P g q xs S K
 | _=>False
@[simp] theorem xUs {f first cap xs S K}:CalV P g (.func (.func f) first cap) xs S K=Cal P g f (first ++ xs ++ cap) S K:=_root_.id rfl
@[simp] theorem xTC {q xs S K}:CalV P g (.yield q) xs S K=Yie P g q xs S K:=_root_.id rfl
def CalI (P:Program) (g:Glob) (v:AV) (name:String) (xs:List AV) (S:St) (K:AV->St->Prop):Prop :=
 match v with
 | .iface t (.ptr p i q)=>(∃ f,(∀a w,(method (P.types.size + Made.depth) t (.pointer (some a)) name).run P w=.ok (f,.pointer (some a)) w)/\Cal P g f (.ptr p i q :: xs) S K) \/
  (∃ f te sz gg y,sizeT P te=some sz/\aggT P te=some gg/\(∀a w,(method (P.types.size + Made.depth) t (.pointer (some a)) name).run P w=((loadVar te a).run P w).andThen fun v w=>.ok (f,v) w)/\sk (.load gg sz) [.ptr p i q] S=some (y,S)/\Cal P g f (y :: xs) S K)
 | .iface t (.agg cs)=>∃ f,(∀v w,(method (P.types.size + Made.depth) t v name).run P w=.ok (f,v) w)/\Cal P g f (.agg cs :: xs) S K
 | _=>False
def stepOp (P:Program) (g:Glob) (o:VOper) (F:AFrame) (S:St) (K:AV->St->Prop):Prop :=
 match wantedV F o.guard with
 | false=>K .none S
 | true=>match o.op with
  | .pk k xs=>Ok (pk k (xs.map (VX.eval F))) (fun v=>K v S)
  | .sk k xs=>Ok (sk k (xs.map (VX.eval F)) S) (fun r=>K r.1 r.2)
  | .callF f xs=>Cal P g f (xs.map (VX.eval F)) S K
  | .callV x xs=>CalV P g (x.eval F) (xs.map (VX.eval F)) S K
  | .callI x name xs=>CalI P g (x.eval F) name (xs.map (VX.eval F)) S K
  | .eqNil neg x=>Ok (lenV (x.eval F)) (fun m=>K (.bool neg) S/\(m=0->K (.bool !neg) S))
  | .bad=>False
theorem xHn {o F S K} (h:stepOp P g o F S K):WOp P g o F S K:=by
 unfold stepOp at h
 split at h
 ·rename_i hg;exact WOp.off hg h
 ·rename_i hg
  split at h
  ·rename_i k xs ho
   obtain ⟨v,h1,h2⟩:=h.out
   exact WOp.op (v:=v) (S':=S) hg (by rw [ho];simp [aop,h1]) h2
  ·rename_i k xs ho
   obtain ⟨v,h1,h2⟩:=h.out
   exact WOp.op (v:=v.1) (S':=v.2) hg (by rw [ho];simp [aop,h1]) h2
  ·rename_i f xs ho
   exact WOp.call hg (by rw [ho];rfl) h.1 h.2
  ·rename_i x xs ho
   unfold CalV at h
   split at h
   ·rename_i f first cap hx
    exact WOp.call hg (f:=f) (args:=first ++ xs.map (VX.eval F) ++ cap) (by rw [ho];simp only [callee,hx]) h.1 h.2
   ·rename_i q hx
    obtain ⟨n,ps,LF,asg,body,ca,cb,h1,h2,h3,h4,h5,h6⟩:=h
    exact WOp.yield hg ho hx h1 (by simpa using h2) h3 h4 h5 h6
   ·exact h.elim
  ·rename_i x name xs ho
   unfold CalI at h
   split at h
   ·rename_i t p i q hx
    rcases h with ⟨f,h1,h2,h3⟩ | ⟨f,te,sz,gg,y,h1,h2,h3,h4,h5,h6⟩
    ·exact WOp.callI hg ho hx h1 h2 h3
    ·exact WOp.callIV hg ho hx h1 h2 h3 h4 h5 h6
   ·rename_i t cs hx
    obtain ⟨f,h1,h2,h3⟩:=h
    exact WOp.callIA hg ho hx h1 h2 h3
   ·exact h.elim
  ·rename_i neg x ho
   obtain ⟨m,h1,h2,h3⟩:=h.out
   exact WOp.eqNil hg ho h1 h2 h3
  ·exact h.elim
def vcOps (P:Program) (g:Glob):List VOper->AFrame->St->(Res->Prop)->Prop
 | [],F,S,Q=>Q (.code .normal F S)
 | o :: l,F,S,Q=>stepOp P g o F S fun v S'=>vcOps P g l (put F o.dst v) S' Q
def KOps (P:Program) (g:Glob) (d:Option Nat) (l:List VOper) (F:AFrame) (Q:Res->Prop) (v:AV) (S:St):Prop:=vcOps P g l (put F d v) S Q
theorem xF8:∀{l F S Q},vcOps P g l F S Q->W P g (.ops l F S) Q
 | [],F,S,Q,h=>W.nil h
 | o :: l,F,S,Q,h=>W.cons (xHn h) fun v S' hk=>xF8 hk
def KSeqOf (vb:AFrame->St->Prop) (Q:Res->Prop):Res->Prop
 | .code .normal F S=>vb F S
 | r=>Q r
def vc (P:Program) (g:Glob):VCode->AFrame->St->(Res->Prop)->Prop
 | .skip,F,S,Q=>Q (.code .normal F S)
 | .label,F,S,Q=>Q (.code .normal F S)
 | .exit id,F,S,Q=>Q (.code (.exit id) F S)
 | .ret,F,S,Q=>Q (.code .ret F S)
 | .region false l af,F,S,Q=>vcOps P g l F S Q
 | .region true l af,F,S,Q=>W P g (.code (.region true l af) F S) Q
 | .seq a b,F,S,Q=>vc P g a F S (KSeqOf (fun F S=>vc P g b F S Q) Q)
 | .cond x a b,F,S,Q=>match x.eval F with
  | .bool true=>vc P g a F S Q
  | .bool false=>vc P g b F S Q
  | _=>False
 | .block id c,F,S,Q=>vc P g c F S (blockQ id Q)
 | .loop c,F,S,Q=>W P g (.code (.loop c) F S) Q
 | .rangeFunc n x ps a b,F,S,Q=>W P g (.code (.rangeFunc n x ps a b) F S) Q
 | .scope c,F,S,Q=>vc P g c F S Q
 | .bad,F,S,Q=>False
def KSeq (P:Program) (g:Glob) (b:VCode) (Q:Res->Prop):Res->Prop:=KSeqOf (fun F S=>vc P g b F S Q) Q
def Bra (P:Program) (g:Glob) (v:AV) (a b:VCode) (F:AFrame) (S:St) (Q:Res->Prop):Prop:=match v with
 | .bool true=>vc P g a F S Q
 | .bool false=>vc P g b F S Q
 | _=>False
theorem xA1:∀{c F S Q},vc P g c F S Q->W P g (.code c F S) Q
 | .skip,F,S,Q,h=>W.skip h
 | .label,F,S,Q,h=>W.label h
 | .exit id,F,S,Q,h=>W.exit h
 | .ret,F,S,Q,h=>W.ret h
 | .region false l af,F,S,Q,h=>W.region (xF8 h)
 | .region true l af,F,S,Q,h=>h
 | .seq a b,F,S,Q,h=>W.seqR (xA1 h) (fun F1 S1 k=>xA1 k) (fun e F1 S1 he k=>by cases e <;> first | exact absurd rfl he | exact k)
 | .cond x a b,F,S,Q,h=>by
  simp only [vc] at h
  split at h
  ·rename_i hx;exact W.cond (t:=true) hx (xA1 h)
  ·rename_i hx;exact W.cond (t:=false) hx (xA1 h)
  ·exact h.elim
 | .block id c,F,S,Q,h=>W.block (xA1 h)
 | .loop c,F,S,Q,h=>h
 | .rangeFunc n x ps a b,F,S,Q,h=>h
 | .scope c,F,S,Q,h=>W.scope (xA1 h)
 | .bad,F,S,Q,h=>h.elim
@[simp] theorem xW4 {F S Q}:vc P g .skip F S Q=Q (.code .normal F S):=_root_.id rfl
@[simp] theorem xWh {F S Q}:vc P g .label F S Q=Q (.code .normal F S):=_root_.id rfl
@[simp] theorem xW5 {id F S Q}:vc P g (.exit id) F S Q=Q (.code (.exit id) F S):=_root_.id rfl
@[simp] theorem xX0 {F S Q}:vc P g .ret F S Q=Q (.code .ret F S):=_root_.id rfl
@[simp] theorem xUt {l af F S Q}:vc P g (.region false l af) F S Q=vcOps P g l F S Q:=_root_.id rfl
@[simp] theorem xW6 {l af F S Q}:vc P g (.region true l af) F S Q=W P g (.code (.region true l af) F S) Q:=_root_.id rfl
@[simp] theorem xX1 {a b F S Q}:vc P g (.seq a b) F S Q=vc P g a F S (KSeq P g b Q):=_root_.id rfl
@[simp] theorem xW7 {x a b F S Q}:vc P g (.cond x a b) F S Q=Bra P g (x.eval F) a b F S Q:=_root_.id rfl
@[simp] theorem xWi {id c F S Q}:vc P g (.block id c) F S Q=vc P g c F S (blockQ id Q):=_root_.id rfl
@[simp] theorem xW8 {c F S Q}:vc P g (.loop c) F S Q=W P g (.code (.loop c) F S) Q:=_root_.id rfl
@[simp] theorem xRP {n x ps a b F S Q}:vc P g (.rangeFunc n x ps a b) F S Q=W P g (.code (.rangeFunc n x ps a b) F S) Q:=_root_.id rfl
@[simp] theorem xWj {c F S Q}:vc P g (.scope c) F S Q=vc P g c F S Q:=_root_.id rfl
@[simp] theorem xUu {F S Q}:vcOps P g [] F S Q=Q (.code .normal F S):=_root_.id rfl
@[simp] theorem xTD {o l F S Q}:vcOps P g (o :: l) F S Q=stepOp P g o F S (KOps P g o.dst l F Q):=_root_.id rfl
@[simp] theorem kOps {d l F Q v S}:KOps P g d l F Q v S=vcOps P g l (put F d v) S Q:=_root_.id rfl
@[simp] theorem xSo {b Q F S}:KSeq P g b Q (.code .normal F S)=vc P g b F S Q:=_root_.id rfl
@[simp] theorem xUv {b Q id F S}:KSeq P g b Q (.code (.exit id) F S)=Q (.code (.exit id) F S):=_root_.id rfl
@[simp] theorem xWk {b Q F S}:KSeq P g b Q (.code .ret F S)=Q (.code .ret F S):=_root_.id rfl
@[simp] theorem xQA {id Q F S}:blockQ id Q (.code .normal F S)=Q (.code .normal F S):=_root_.id rfl
@[simp] theorem xTE {id Q F S}:blockQ id Q (.code .ret F S)=Q (.code .ret F S):=_root_.id rfl
@[simp] theorem xSp {id i Q F S}:blockQ id Q (.code (.exit i) F S)=if i=id then Q (.code .normal F S) else Q (.code (.exit i) F S):=_root_.id rfl
@[simp] theorem xWl {a b F S Q}:Bra P g (.bool true) a b F S Q=vc P g a F S Q:=_root_.id rfl
@[simp] theorem xUw {a b F S Q}:Bra P g (.bool false) a b F S Q=vc P g b F S Q:=_root_.id rfl
@[simp] theorem xW9 {d op F S K}:stepOp P g ⟨d,op,none⟩ F S K=(match op with
  | .pk k xs=>Ok (pk k (xs.map (VX.eval F))) (fun v=>K v S)
  | .sk k xs=>Ok (sk k (xs.map (VX.eval F)) S) (fun r=>K r.1 r.2)
  | .callF f xs=>Cal P g f (xs.map (VX.eval F)) S K
  | .callV x xs=>CalV P g (x.eval F) (xs.map (VX.eval F)) S K
  | .callI x name xs=>CalI P g (x.eval F) name (xs.map (VX.eval F)) S K
  | .eqNil neg x=>Ok (lenV (x.eval F)) (fun m=>K (.bool neg) S/\(m=0->K (.bool !neg) S))
  | .bad=>False):=_root_.id rfl
def Gua (P:Program) (g:Glob) (v:AV) (b:Bool) (d:Option Nat) (op:VOp) (F:AFrame) (S:St) (K:AV->St->Prop):Prop:=match v with
 | .bool x=>if x == b then stepOp P g ⟨d,op,none⟩ F S K else K .none S
 | _=>K .none S
@[simp] theorem xTF {d op t b F S K}:stepOp P g ⟨d,op,some (t,b)⟩ F S K=Gua P g (F t) b d op F S K:=by
 simp only [stepOp,wantedV,Gua]
 generalize F t=v
 cases v <;> simp only []
 rename_i x
 cases x <;> cases b <;> rfl
@[simp] theorem xX2 {d op F S K}:Gua P g (.bool true) true d op F S K=stepOp P g ⟨d,op,none⟩ F S K:=_root_.id rfl
@[simp] theorem xX3 {d op F S K}:Gua P g (.bool false) false d op F S K=stepOp P g ⟨d,op,none⟩ F S K:=_root_.id rfl
@[simp] theorem xX4 {d op F S K}:Gua P g (.bool true) false d op F S K=K .none S:=_root_.id rfl
@[simp] theorem xX5 {d op F S K}:Gua P g (.bool false) true d op F S K=K .none S:=_root_.id rfl
theorem xAj {c:Prop} [Decidable c] {a b F S Q} (h1:c->vc P g a F S Q) (h2:¬ c->vc P g b F S Q):Bra P g (.bool (decide c)) a b F S Q:=by
 by_cases h:c
 ·rw [decide_eq_true h];exact h1 h
 ·rw [decide_eq_false h];exact h2 h
theorem xQB {t:Bool} {a b F S Q} (h1:t=true->vc P g a F S Q) (h2:t=false->vc P g b F S Q):Bra P g (.bool t) a b F S Q:=by
 cases t
 ·exact h2 rfl
 ·exact h1 rfl
theorem xSq {t:Bool} {a b F S Q} (h1:t=false->vc P g a F S Q) (h2:t=true->vc P g b F S Q):Bra P g (.bool !t) a b F S Q:=by
 cases t
 ·exact h1 rfl
 ·exact h2 rfl
@[simp] theorem xOd {F:AFrame} {d:Nat} {v:AV} {t:Nat}:upd F d v t=if t=d then v else F t:=_root_.id rfl
@[simp] theorem xH5 {F:AFrame} {d:Nat} {v:AV}:put F (some d) v=upd F d v:=_root_.id rfl
@[simp] theorem xH6 {F:AFrame} {v:AV}:put F none v=F:=_root_.id rfl
@[simp] theorem xX6 {F:AFrame} {t:Nat}:VX.eval F (.t t)=F t:=_root_.id rfl
@[simp] theorem xX7 {F:AFrame} {v:AV}:VX.eval F (.c v)=v:=_root_.id rfl
@[simp] theorem xTG {x:AV} {xs:List AV}:entry (x :: xs) 0=x:=_root_.id rfl
@[simp] theorem xTH {x:AV} {xs:List AV} {t:Nat}:entry (x :: xs) (t + 1)=entry xs t:=by simp [entry]
def KRound {α:Type} (I:α->AFrame->St->Prop) (m:α->Nat) (a:α) (Q:Res->Prop):Res->Prop
 | .code .normal F S=>∃ a',m a' < m a/\I a' F S
 | r=>Q r
@[simp] theorem xQC {α:Type} {I:α->AFrame->St->Prop} {m:α->Nat} {a:α} {Q F S}:KRound I m a Q (.code .normal F S)=∃ a',m a' < m a/\I a' F S:=_root_.id rfl
@[simp] theorem xSr {α:Type} {I:α->AFrame->St->Prop} {m:α->Nat} {a:α} {Q id F S}:KRound I m a Q (.code (.exit id) F S)=Q (.code (.exit id) F S):=_root_.id rfl
@[simp] theorem xTI {α:Type} {I:α->AFrame->St->Prop} {m:α->Nat} {a:α} {Q F S}:KRound I m a Q (.code .ret F S)=Q (.code .ret F S):=_root_.id rfl
theorem W.whileI {α:Type} {c:VCode} {Q:Res->Prop} (I:α->AFrame->St->Prop) (m:α->Nat) (h:∀a F S,I a F S->vc P g c F S (KRound I m a Q)):∀a F S,I a F S->W P g (.code (.loop c) F S) Q:=by
 intro a
 induction hm:m a using Nat.strongRecOn generalizing a with
 | ind n ih =>
  intro F S hI
  refine W.loopR (xA1 (h a F S hI)) ?_ ?_
  ·rintro F1 S1 ⟨a',h1,h2⟩
   exact ih (m a') (by omega) a' rfl F1 S1 h2
  ·intro e F1 S1 he k
   cases e <;> first | exact absurd rfl he | exact k
def KRes (rs:List VRes) (K:AV->St->Prop) (F:AFrame) (S:St):Prop:=Ok (resV rs F S) (fun v=>K v S)
def KBody (rs:List VRes) (K:AV->St->Prop):Res->Prop
 | .code .normal F S=>KRes rs K F S
 | .code .ret F S=>KRes rs K F S
 | _=>False
@[simp] theorem xRQ {rs K F S}:KBody rs K (.code .normal F S)=KRes rs K F S:=_root_.id rfl
@[simp] theorem xUy {rs K F S}:KBody rs K (.code .ret F S)=KRes rs K F S:=_root_.id rfl
theorem Fun'.in {f n rs c args S K} (h:Fun' P f n rs c) (hn:args.length<=n) (hv:vc P g c (entry args) S (KBody rs K)):Cal P g f args S K:=by
 refine ⟨h.call,?_⟩
 have hc:=h.code
 cases hf:P.funcs[f]? with
 | none=>rw [hf] at hc;cases hc
 | some fn =>
  rw [hf] at hc
  refine W.inl hf hc hn (W.mono (xA1 hv) ?_)
  intro r hr
  cases r with
  | val v S=>exact hr.elim
  | code e F S =>
   cases e with
   | exit id=>exact hr.elim
   | normal=>exact hr.out
   | ret=>exact hr.out
theorem Cal.mono {f args S} {K K':AV->St->Prop} (h:Cal P g f args S K) (hk:∀v S',K v S'->K' v S'):Cal P g f args S K' :=
 ⟨h.1,W.mono h.2 fun r hr=>by cases r with
  | val v S=>exact hk v S hr
  | code e F S=>exact hr⟩
end
mutual
def AV.plain:AV->Bool
 | .int _ _=>true
 | .bool _=>true
 | .str _=>true
 | .nilptr=>true
 | .nilmap=>true
 | .nilfunc=>true
 | .niliface=>true
 | .anyi _=>true
 | .nilsl=>true
 | .agg cs=>plains cs
 | .tuple vs=>plains vs
 | _=>false
def plains:List AV->Bool
 | []=>true
 | x :: xs=>x.plain && plains xs
end
def AV.stab:AV->Bool
 | .int _ _=>true
 | .bool _=>true
 | .str _=>true
 | .nilptr=>true
 | .nilmap=>true
 | .nilfunc=>true
 | .niliface=>true
 | .anyi _=>true
 | .nilsl=>true
 | .fsl _ _=>true
 | _=>false
section
variable {S:St} {own:List Nat} {n:Nat}
@[simp] theorem xLE {k m}:pict S own (n + 1) (.int k m)=some (.int k m):=_root_.id rfl
@[simp] theorem xCv {k}:pict S own (n + 1) (.bool k)=some (.bool k):=_root_.id rfl
@[simp] theorem xWm {k}:pict S own (n + 1) (.str k)=some (.str k):=_root_.id rfl
@[simp] theorem xTJ:pict S own (n + 1) .nilsl=some .nilsl:=_root_.id rfl
@[simp] theorem xWn {k m}:pict S own (n + 1) (.fsl k m)=some (.fsl k m):=_root_.id rfl
@[simp] theorem xB4 {cs}:pict S own (n + 1) (.agg cs)=(mapOpt (pict S own n) cs).map .agg:=_root_.id rfl
@[simp] theorem xHo {cs}:pict S own (n + 1) (.tuple cs)=(mapOpt (pict S own n) cs).map .tuple:=_root_.id rfl
theorem xEJ {sz o off len}:pict S [] (n + 1) (.sl sz o off len)=(elems S (.sl sz o off len)).bind fun es=>(mapOpt (mapOpt (pict S [] n)) es).map (.fsl sz):=by
 simp only [pict,List.idxOf?_nil]
 cases elems S (.sl sz o off len) <;> rfl
theorem xB5 {fn a b} : pict S own (n + 1) (.func fn a b) = match mapOpt (pict S own n) a, mapOpt (pict S own n) b with
      | some a, some b => some (.func fn a b)
      | _, _ => none := rfl
end
theorem xAc {S:St} {own:List Nat} {n:Nat} {x:AV} (h:x.stab=true):pict S own (n + 1) x=some x:=by
 cases x <;> simp [AV.stab] at h <;> rfl
theorem xF9 {α:Type} {f:α->Option α}:∀{l:List α},(∀x ∈ l,f x=some x)->mapOpt f l=some l
 | [],_=>rfl
 | x :: xs,h=>by simp [mapOpt,h x (by simp),xF9 (l:=xs) (fun y hy=>h y (by simp [hy]))]
theorem xHp {S:St} {own:List Nat} {n:Nat} {l:List AV} (h:∀x ∈ l,x.stab=true):mapOpt (pict S own (n + 1)) l=some l:=xF9 fun x hx=>xAc (h x hx)
theorem xKI {S:St} {own:List Nat} {n:Nat} {l:List (List AV)} (h:∀e ∈ l,∀x ∈ e,x.stab=true):mapOpt (mapOpt (pict S own (n + 1))) l=some l:=xF9 fun e he=>xHp (h e he)
theorem xQE {S:St} {own:List Nat} {n:Nat} {l:List AV} (h:∀x ∈ l,x.stab=true):pict S own (n + 2) (.agg l)=some (.agg l):=by
 simp [xHp h]
section
variable {P:Program} {g:Glob}
theorem ConOK.of {f:Nat} {c:RCon} (h:∀xs,c.pre xs->Cal P g f xs St.empty fun v S=>c.post xs v S):ConOK P g f c:=by
 intro w av vs xs hG hvs hp
 have hR:Rel ⟨w,w.heap.size,av,fun _=>none,St.empty⟩:=by
  refine ⟨?_,?_,?_,?_,?_,Nat.le_refl _⟩
  ·intro o x h;cases h
  ·intro o o' l l' x x' h;cases h
  ·intro o x h;cases h
  ·intro o l h;cases h
  ·intro o x l h;cases h
 refine Calls.mono ((h xs hp).2 vs ⟨w,w.heap.size,av,fun _=>none,St.empty⟩ rfl hR hvs (g.size w hG) hG) ?_
 rintro e w' ⟨v,res,C',rfl,hq,rfl,hL,hR',hv⟩
 obtain ⟨w',base,av',μ',S'⟩:=C'
 have h1:base=w.heap.size:=hL.base
 have h2:av'=av:=hL.av
 subst h1 h2
 exact ⟨v,res,S',μ',rfl,hq,hL.below,hR',hv⟩
mutual
theorem xLF {C D:Ctx}:∀{v:Value} {x:AV},VR C v x->x.plain=true->VR D v x
 | _,_,.int k n,_=>.int k n
 | _,_,.bool b,_=>.bool b
 | _,_,.str s,_=>.str s
 | _,_,.nilptr,_=>.nilptr
 | _,_,.ptr o i off l h,hs=>by simp [AV.plain] at hs
 | _,_,.fptr b q off vs cells hc hv hso hb hl,hs=>by simp [AV.plain] at hs
 | _,_,.nilsl a,_=>.nilsl a
 | _,_,.fsl b q cap sz vs es hc hs hv hso hb hl hcap,h=>by simp [AV.plain] at h
 | _,_,.fnil a cap sz,h=>by simp [AV.plain] at h
 | _,_,.sl sz o off len cap l c e f h hz hh hm hcap,hs=>by simp [AV.plain] at hs
 | _,_,.slnil a sz o off,hs=>by simp [AV.plain] at hs
 | _,_,.asl sz o i off len cap l h hcap,hs=>by simp [AV.plain] at hs
 | _,_,.aslnil a cap sz o i off,hs=>by simp [AV.plain] at hs
 | _,_,.nilmap,_=>.nilmap
 | _,_,.map o l h,hs=>by simp [AV.plain] at hs
 | _,_,.nilfunc,_=>.nilfunc
 | _,_,.func fn a c xs ys ha hc,hs=>by simp [AV.plain] at hs
 | _,_,.niliface,_=>.niliface
 | _,_,.anyi k n,_=>.anyi k n
 | _,_,.iface t v x h,hs=>by simp [AV.plain] at hs
 | _,_,.agg vs cs h,hs=>.agg vs cs (xGa h (by simpa [AV.plain] using hs))
 | _,_,.tuple vs cs h,hs=>.tuple vs cs (xGa h (by simpa [AV.plain] using hs))
 | _,_,.yield o l h,hs=>by simp [AV.plain] at hs
theorem xGa {C D:Ctx}:∀{vs:List Value} {xs:List AV},VRs C vs xs->plains xs=true->VRs D vs xs
 | _,_,.nil,_=>.nil
 | _,_,.cons v x vs xs h hs,hx=>by
  simp only [plains,Bool.and_eq_true] at hx
  exact .cons v x vs xs (xLF h hx.1) (xGa hs hx.2)
end
theorem xML {S:St}:∀(m:Nat) {x y:AV},pict S [] m x=some y->y.plain=true->x=y:=by
 intro m
 induction m with
 | zero=>intro x y h;simp [pict] at h
 | succ m ih =>
  have ihs:∀{xs ys:List AV},mapOpt (pict S [] m) xs=some ys->plains ys=true->xs=ys:=by
   intro xs
   induction xs with
   | nil=>intro ys h _;simp [mapOpt] at h;exact h.symm
   | cons x xs ihx =>
    intro ys h hy
    rcases xAs h with ⟨h1,_⟩ | ⟨x',xs',y,ys',h1,rfl,h2,h3⟩
    ·cases h1
    ·cases h1
     simp only [plains,Bool.and_eq_true] at hy
     rw [ih h2 hy.1,ihx h3 hy.2]
  intro x y h hy
  cases x <;> simp only [pict] at h <;> try (first | (simp only [xoI] at h;exact h) | (cases h;done))
  ·split at h
   ·rename_i o j e;simp at e
   ·split at h
    ·simp only [Option.map_eq_some_iff] at h;obtain ⟨z,_,rfl⟩:=h;simp [AV.plain] at hy
    ·cases h
  ·split at h
   ·simp only [Option.map_eq_some_iff] at h;obtain ⟨z,_,rfl⟩:=h;simp [AV.plain] at hy
   ·cases h
  ·split at h
   ·simp only [xoI] at h;subst h;simp [AV.plain] at hy
   ·cases h
  ·simp only [Option.map_eq_some_iff] at h;obtain ⟨z,_,rfl⟩:=h;simp [AV.plain] at hy
  ·simp only [Option.map_eq_some_iff] at h
   obtain ⟨z,h1,rfl⟩:=h
   simp only [AV.plain] at hy
   rw [ihs h1 hy]
  ·simp only [Option.map_eq_some_iff] at h
   obtain ⟨z,h1,rfl⟩:=h
   simp only [AV.plain] at hy
   rw [ihs h1 hy]
theorem xJb {f:Nat} {args:List AV} {n:Nat} {xs:List AV} {c:RCon} {C:Ctx} (hc:ConOK P g f c) (hx:mapOpt (pict C.S [] n) args=some xs) (hp:c.pre xs)
  {y:AV} (hy:y.plain=true) (hq:∀res E,c.post xs res E->∃ m,pict E [] m res=some y) (hR:Rel C) {vs:List Value} (hvs:VRs C vs args) (hG:g.G C.w) :
  Calls P f vs.toArray C.w fun e w'=>∃ v,e=.returned v/\Le C (C.at w')/\Rel (C.at w')/\VR (C.at w') v y:=by
 have noown:∀(av:Nat->Prop) b,(⟨C.w,C.w.heap.size,av,fun _=>none,St.empty⟩:Ctx).bad b->av b:=by
  rintro av b (⟨_,h⟩ | ⟨o,l,x,h1,h2,_⟩)
  ·exact h
  ·cases h2
 have main:VRs ⟨C.w,C.w.heap.size,fun _=>False,fun _=>none,St.empty⟩ vs xs :=
  (xB3 (p:=fun x=>x ∈ args) (pict C.S [] n) (fun x y v hx h1' h2=>xH0 (D:=⟨C.w,C.w.heap.size,_,fun _=>none,St.empty⟩) hR rfl n x y v (.inl fun b _ h h'=>noown _ b h') (.inl fun b _ h'=>noown _ b h') h1' h2) hvs (fun _ h=>h) hx).1
 refine Calls.mono (hc C.w _ vs xs hG main hp) ?_
 rintro e w' ⟨v,res,E,μ,rfl,hpost,hB,hE,hv⟩
 obtain ⟨m,hm⟩:=hq _ _ hpost
 have:=xML m hm hy
 subst this
 exact ⟨v,rfl,xMI hR hB,xI6 hR hB,xLF hv hy⟩
structure Ret (P:Program) (g:Glob) (b:Bool) (f:Nat) (xs:List AV) (y:AV):Prop where
 call:callable P f=true
 con:ConOK P g f ⟨fun zs=>zs=xs,fun _ res E=>(∃ m,pict E [] m res=some y)/\(b=true->res.young=true/\youngo E)⟩
theorem Ret.of {b f xs y} (hf:callable P f=true) (h:Cal P g f xs St.empty fun v S=>(∃ m,pict S [] m v=some y)/\(b=true->v.young=true/\youngo S)):Ret P g b f xs y :=
 ⟨hf,ConOK.of fun zs hz=>by subst hz;exact h⟩
theorem Ret.use {b f args S K n xs y} (h:Ret P g b f xs y) (hx:mapOpt (pict S [] n) args=some xs) (hs:(b || y.plain || solids args)=true) (hk:K y S):Cal P g f args S K:=by
 refine ⟨h.call,?_⟩
 by_cases hy:y.plain=true
 ·intro vs C hS hR hvs hN hG
  subst hS
  refine Calls.mono (xJb h.con hx rfl hy (fun res E h=>h.1) hR hvs hG) ?_
  rintro e w' ⟨v,rfl,h1,h2,h3⟩
  exact ⟨v,y,C.at w',rfl,hk,rfl,h1,h2,h3⟩
 ·refine W.con h.con hx rfl ?_
  rintro res E ⟨⟨m,hm⟩,hb⟩
  refine ⟨?_,.inr ⟨m,y,hm,hk⟩⟩
  cases hb':b
  ·simp [hb',hy] at hs;exact .inl hs
  ·exact .inr (hb hb')
structure Own (P:Program) (g:Glob) (f:Nat) (xs:List AV) (y:AV) (E:St):Prop where
 call:callable P f=true
 con:ConOK P g f ⟨fun zs=>zs=xs,fun _ res E'=>(res=y/\E'=E)/\(y.young=true/\youngo E)⟩
theorem Own.use {f args S K n xs y E} (h:Own P g f xs y E) (hx:mapOpt (pict S [] n) args=some xs) (hk:K (y.shift S.next) (S.add E)):Cal P g f args S K:=by
 refine ⟨h.call,W.con h.con hx rfl ?_⟩
 rintro res E' ⟨⟨rfl,rfl⟩,hy⟩
 exact ⟨.inr hy,.inl hk⟩
theorem Own.ret {f xs y E z m} (h:Own P g f xs y E) (hz:pict E [] m y=some z):Ret P g true f xs z:=by
 refine ⟨h.call,?_⟩
 intro w av vs xs' hG hvs hp
 refine Calls.mono (h.con w av vs xs' hG hvs hp) ?_
 rintro e w' ⟨v,res,E',μ,rfl,⟨⟨rfl,rfl⟩,hy⟩,h2⟩
 exact ⟨v,_,_,μ,rfl,⟨⟨m,hz⟩,fun _=>hy⟩,h2⟩
end
end Go.Proofs.YtnhfofmhkfdpgaaGreatDoor.Vm
namespace Go.Proofs.YtnhfofmhkfdpgaaGreatDoor.Vm
open Go Go.RowKit
def renum (ρ:List Nat) (o:Nat):Option Nat:=ρ.idxOf? o
mutual
def AV.ren (ρ:List Nat):AV->Option AV
 | .int k n=>some (.int k n)
 | .bool b=>some (.bool b)
 | .str s=>some (.str s)
 | .nilptr=>some .nilptr
 | .nilsl=>some .nilsl
 | .nilmap=>some .nilmap
 | .nilfunc=>some .nilfunc
 | .niliface=>some .niliface
 | .anyi k=>some (.anyi k)
 | .ptr o i off=>(renum ρ o).map fun j=>.ptr j i off
 | .sl sz o off len=>(renum ρ o).map fun j=>.sl sz j off len
 | .asl sz o i off len=>(renum ρ o).map fun j=>.asl sz j i off len
 | .map o=>(renum ρ o).map .map
 | .agg cs=>(rens ρ cs).map .agg
 | .tuple vs=>(rens ρ vs).map .tuple
 | .iface t v=>(AV.ren ρ v).map (.iface t)
 | .func fn a b=>match rens ρ a,rens ρ b with
  | some a,some b=>some (.func fn a b)
  | _,_=>none
 | _=>none
def rens (ρ:List Nat):List AV->Option (List AV)
 | []=>some []
 | x :: xs=>match AV.ren ρ x,rens ρ xs with
  | some y,some ys=>some (y :: ys)
  | _,_=>none
end
def renss (ρ:List Nat):List (List AV)->Option (List (List AV))
 | []=>some []
 | x :: xs=>match rens ρ x,renss ρ xs with
  | some y,some ys=>some (y :: ys)
  | _,_=>none
def renm (ρ:List Nat):List (AV × AV)->Option (List (AV × AV))
 | []=>some []
 | (k,v) :: xs=>match AV.ren ρ k,AV.ren ρ v,renm ρ xs with
  | some k,some v,some ys=>some ((k,v) :: ys)
  | _,_,_=>none
def AObj.ren (ρ:List Nat):AObj->Option AObj
 | .row sz es=>(renss ρ es).map (.row sz)
 | .map es=>(renm ρ es).map .map
 | .loop _ _ _ _ _ _=>none
def St.ofL (l:List AObj):St:=⟨l.length,fun q=>l[q]?⟩
def Ctx.only (C:Ctx) (ρ:List Nat) (E:St):Ctx:=⟨C.w,C.base,C.av,fun j=>(ρ[j]?).bind C.μ,E⟩
section
variable {C:Ctx} {ρ:List Nat} {E:St}
theorem xDn {o j:Nat} (h:renum ρ o=some j):ρ[j]?=some o:=by
 unfold renum at h
 rw [List.idxOf?_eq_some_iff] at h
 obtain ⟨h1,h2,_⟩:=h
 rw [xgG h1,h2]
mutual
theorem xJc:∀{v:Value} {x:AV},VR C v x->∀{y:AV},AV.ren ρ x=some y->VR (C.only ρ E) v y
 | _,_,.int k n,y,h=>by simp only [AV.ren,xoI] at h;subst h;exact .int _ _
 | _,_,.bool b,y,h=>by simp only [AV.ren,xoI] at h;subst h;exact .bool _
 | _,_,.str s,y,h=>by simp only [AV.ren,xoI] at h;subst h;exact .str _
 | _,_,.nilptr,y,h=>by simp only [AV.ren,xoI] at h;subst h;exact .nilptr
 | _,_,.ptr o i off l hl,y,h=>by
  simp only [AV.ren,Option.map_eq_some_iff] at h
  obtain ⟨j,hj,rfl⟩:=h
  exact .ptr j i off l (by simp [Ctx.only,xDn hj,hl])
 | _,_,.fptr b q off vs cells hc hv hso hb hl,y,h=>by simp [AV.ren] at h
 | _,_,.nilsl a,y,h=>by simp only [AV.ren,xoI] at h;subst h;exact .nilsl _
 | _,_,.fsl b q cap sz vs es hc hs hv hso hb hl hcap,y,h=>by simp [AV.ren] at h
 | _,_,.fnil a cap sz,y,h=>by simp [AV.ren] at h
 | _,_,.sl sz o off len cap l c e f hl hz hh hm hcap,y,h=>by
  simp only [AV.ren,Option.map_eq_some_iff] at h
  obtain ⟨j,hj,rfl⟩:=h
  exact .sl sz j off len cap l c e f (by simp [Ctx.only,xDn hj,hl]) hz hh hm hcap
 | _,_,.slnil a sz o off,y,h=>by
  simp only [AV.ren,Option.map_eq_some_iff] at h
  obtain ⟨j,hj,rfl⟩:=h
  exact .slnil _ _ _ _
 | _,_,.asl sz o i off len cap l hl hcap,y,h=>by
  simp only [AV.ren,Option.map_eq_some_iff] at h
  obtain ⟨j,hj,rfl⟩:=h
  exact .asl sz j i off len cap l (by simp [Ctx.only,xDn hj,hl]) hcap
 | _,_,.aslnil a cap sz o i off,y,h=>by
  simp only [AV.ren,Option.map_eq_some_iff] at h
  obtain ⟨j,hj,rfl⟩:=h
  exact .aslnil _ _ _ _ _ _
 | _,_,.nilmap,y,h=>by simp only [AV.ren,xoI] at h;subst h;exact .nilmap
 | _,_,.map o l hl,y,h=>by
  simp only [AV.ren,Option.map_eq_some_iff] at h
  obtain ⟨j,hj,rfl⟩:=h
  exact .map j l (by simp [Ctx.only,xDn hj,hl])
 | _,_,.nilfunc,y,h=>by simp only [AV.ren,xoI] at h;subst h;exact .nilfunc
 | _,_,.func fn a c xs ys ha hc,y,h=>by
  simp only [AV.ren] at h
  split at h
  ·rename_i a' b' h1 h2
   simp only [xoI] at h;subst h
   exact .func fn a c _ _ (xEK ha h1) (xEK hc h2)
  ·cases h
 | _,_,.niliface,y,h=>by simp only [AV.ren,xoI] at h;subst h;exact .niliface
 | _,_,.anyi k n,y,h=>by simp only [AV.ren,xoI] at h;subst h;exact .anyi k n
 | _,_,.iface t v x hx,y,h=>by
  simp only [AV.ren,Option.map_eq_some_iff] at h
  obtain ⟨z,hz,rfl⟩:=h
  exact .iface t v _ (xJc hx hz)
 | _,_,.agg vs cs hx,y,h=>by
  simp only [AV.ren,Option.map_eq_some_iff] at h
  obtain ⟨z,hz,rfl⟩:=h
  exact .agg vs _ (xEK hx hz)
 | _,_,.tuple vs cs hx,y,h=>by
  simp only [AV.ren,Option.map_eq_some_iff] at h
  obtain ⟨z,hz,rfl⟩:=h
  exact .tuple vs _ (xEK hx hz)
 | _,_,.yield o l hl,y,h=>by simp [AV.ren] at h
theorem xEK:∀{vs:List Value} {xs:List AV},VRs C vs xs->∀{ys:List AV},rens ρ xs=some ys->VRs (C.only ρ E) vs ys
 | _,_,.nil,ys,h=>by simp only [rens,xoI] at h;subst h;exact .nil
 | _,_,.cons v x vs xs hx hs,ys,h=>by
  simp only [rens] at h
  split at h
  ·rename_i y' ys' h1 h2
   simp only [xoI] at h;subst h
   exact .cons v _ vs _ (xJc hx h1) (xEK hs h2)
  ·cases h
end
mutual
theorem xC5:∀{x y:AV},AV.ren ρ x=some y->y.young=true
 | .int _ _,y,h=>by simp only [AV.ren,xoI] at h;subst h;rfl
 | .bool _,y,h=>by simp only [AV.ren,xoI] at h;subst h;rfl
 | .str _,y,h=>by simp only [AV.ren,xoI] at h;subst h;rfl
 | .nilptr,y,h=>by simp only [AV.ren,xoI] at h;subst h;rfl
 | .nilsl,y,h=>by simp only [AV.ren,xoI] at h;subst h;rfl
 | .nilmap,y,h=>by simp only [AV.ren,xoI] at h;subst h;rfl
 | .nilfunc,y,h=>by simp only [AV.ren,xoI] at h;subst h;rfl
 | .niliface,y,h=>by simp only [AV.ren,xoI] at h;subst h;rfl
 | .anyi k,y,h=>by simp only [AV.ren,xoI] at h;subst h;rfl
 | .ptr _ _ _,y,h=>by simp only [AV.ren,Option.map_eq_some_iff] at h;obtain ⟨_,_,rfl⟩:=h;rfl
 | .sl _ _ _ _,y,h=>by simp only [AV.ren,Option.map_eq_some_iff] at h;obtain ⟨_,_,rfl⟩:=h;rfl
 | .asl _ _ _ _ _,y,h=>by simp only [AV.ren,Option.map_eq_some_iff] at h;obtain ⟨_,_,rfl⟩:=h;rfl
 | .map _,y,h=>by simp only [AV.ren,Option.map_eq_some_iff] at h;obtain ⟨_,_,rfl⟩:=h;rfl
 | .agg cs,y,h=>by
  simp only [AV.ren,Option.map_eq_some_iff] at h;obtain ⟨z,hz,rfl⟩:=h
  exact xBX hz
 | .tuple cs,y,h=>by
  simp only [AV.ren,Option.map_eq_some_iff] at h;obtain ⟨z,hz,rfl⟩:=h
  exact xBX hz
 | .iface t v,y,h=>by
  simp only [AV.ren,Option.map_eq_some_iff] at h;obtain ⟨z,hz,rfl⟩:=h
  have:=xC5 (x:=v) hz
  simpa only [AV.young] using this
 | .func fn a b,y,h=>by
  simp only [AV.ren] at h
  split at h
  ·rename_i a' b' h1 h2
   simp only [xoI] at h;subst h
   simp only [AV.young,xBX h1,xBX h2,Bool.and_self]
  ·cases h
 | .fptr _ _,y,h=>by simp [AV.ren] at h
 | .fsl _ _,y,h=>by simp [AV.ren] at h
 | .yield _,y,h=>by simp [AV.ren] at h
theorem xBX:∀{xs ys:List AV},rens ρ xs=some ys->youngs ys=true
 | [],ys,h=>by simp only [rens,xoI] at h;subst h;rfl
 | x :: xs,ys,h=>by
  simp only [rens] at h
  split at h
  ·rename_i y' ys' h1 h2
   simp only [xoI] at h;subst h
   simp only [youngs,xC5 h1,xBX h2,Bool.and_self]
  ·cases h
end
theorem xHq:∀{es fs:List (List AV)},renss ρ es=some fs->rens ρ es.flatten=some fs.flatten/\fs.length=es.length/\∀sz,(∀e ∈ es,e.length=sz)->∀e ∈ fs,e.length=sz
 | [],fs,h=>by simp only [renss,xoI] at h;subst h;exact ⟨rfl,rfl,fun _ _=>by simp⟩
 | e :: es,fs,h=>by
  simp only [renss] at h
  split at h
  ·rename_i y ys h1 h2
   simp only [xoI] at h;subst h
   obtain ⟨k1,k2,k3⟩:=xHq h2
   have app:∀{a b c d:List AV},rens ρ a=some c->rens ρ b=some d->rens ρ (a ++ b)=some (c ++ d)/\c.length=a.length:=by
    intro a
    induction a with
    | nil=>intro b c d ha hb;simp only [rens,xoI] at ha;subst ha;exact ⟨by simpa using hb,rfl⟩
    | cons x a ih =>
     intro b c d ha hb
     simp only [rens] at ha
     split at ha
     ·rename_i y' ys' g1 g2
      simp only [xoI] at ha;subst ha
      obtain ⟨i1,i2⟩:=ih g2 hb
      exact ⟨by simp only [List.cons_append,rens,g1,i1],by simp [i2]⟩
     ·cases ha
   obtain ⟨a1,a2⟩:=app h1 k1
   refine ⟨by simpa using a1,by simp [k2],fun sz hs z hz=>?_⟩
   rcases List.mem_cons.1 hz with rfl | hz
   ·rw [a2];exact hs e (by simp)
   ·exact k3 sz (fun w hw=>hs w (by simp [hw])) z hz
  ·cases h
theorem xLG:∀{ms:List MapEntry} {es:List (AV × AV)},MapRel C ms es->∀{fs:List (AV × AV)},renm ρ es=some fs->MapRel (C.only ρ E) ms fs
 | _,_,.nil,fs,h=>by simp only [renm,xoI] at h;subst h;exact .nil
 | _,_,.cons m k v ms es hk hv hr,fs,h=>by
  simp only [renm] at h
  split at h
  ·rename_i k' v' ys h1 h2 h3
   simp only [xoI] at h;subst h
   exact .cons m _ _ ms _ (xJc hk h1) (xJc hv h2) (xLG hr h3)
  ·cases h
theorem xGb:∀{es fs:List (List AV)},renss ρ es=some fs->youngss fs=true
 | [],fs,h=>by simp only [renss,xoI] at h;subst h;rfl
 | e :: es,fs,h=>by
  simp only [renss] at h
  split at h
  ·rename_i y ys h1 h2
   simp only [xoI] at h;subst h
   simp only [youngss,xBX h1,xGb h2,Bool.and_self]
  ·cases h
theorem xHr:∀{es fs:List (AV × AV)},renm ρ es=some fs->youngm fs=true
 | [],fs,h=>by simp only [renm,xoI] at h;subst h;rfl
 | (k,v) :: es,fs,h=>by
  simp only [renm] at h
  split at h
  ·rename_i k' v' ys h1 h2 h3
   simp only [xoI] at h;subst h
   simp only [youngm,xC5 h1,xC5 h2,xHr h3,Bool.and_self]
  ·cases h
end
def Kept (S:St) (ρ:List Nat):List Nat->List AObj->Prop
 | [],[]=>True
 | o :: os,x :: xs=>(S.obj o).bind (AObj.ren ρ)=some x/\Kept S ρ os xs
 | _,_=>False
theorem Kept.get {S:St} {ρ:List Nat}:∀{os:List Nat} {xs:List AObj},Kept S ρ os xs->os.length=xs.length/\∀(j:Nat) (x:AObj),xs[j]?=some x->∃ o y,os[j]?=some o/\S.obj o=some y/\AObj.ren ρ y=some x
 | [],[],_=>⟨rfl,fun j x h=>by simp at h⟩
 | [],_ :: _,h=>h.elim
 | _ :: _,[],h=>h.elim
 | o :: os,x :: xs,h=>by
  obtain ⟨h1,h2⟩:=h
  obtain ⟨k1,k2⟩:=h2.get
  refine ⟨by simp [k1],fun j y hj=>?_⟩
  cases j with
  | zero =>
   simp at hj;subst hj
   rw [xoB] at h1
   obtain ⟨z,hz1,hz2⟩:=h1
   exact ⟨o,z,rfl,hz1,hz2⟩
  | succ j=>simpa using k2 j y (by simpa using hj)
section
variable {P:Program} {g:Glob}
theorem Own.ofRenE {f:Nat} {xs:List AV} {y:AV} {objs:List AObj} (hf:callable P f=true) (h:Cal P g f xs St.empty fun v S=>∃ ρ:List Nat,ρ.Nodup/\AV.ren ρ v=some y/\Kept S ρ ρ objs):Own P g f xs y (St.ofL objs):=by
 refine ⟨hf,?_⟩
 ·intro w av vs zs hG hvs hz
  subst hz
  have hR:Rel ⟨w,w.heap.size,av,fun _=>none,St.empty⟩:=by
   refine ⟨?_,?_,?_,?_,?_,Nat.le_refl _⟩
   ·intro o x h;cases h
   ·intro o o' l l' x x' h;cases h
   ·intro o x h;cases h
   ·intro o l h;cases h
   ·intro o x l h;cases h
  refine Calls.mono (h.2 vs ⟨w,w.heap.size,av,fun _=>none,St.empty⟩ rfl hR hvs (g.size w hG) hG) ?_
  rintro e w' ⟨v,res,C',rfl,hq,rfl,hL,hR',hv⟩
  obtain ⟨ρ,hn,hq1,hq2⟩:=hq
  obtain ⟨w',base,av',μ',S'⟩:=C'
  have h1:base=w.heap.size:=hL.base
  have h2:av'=av:=hL.av
  subst h1 h2
  obtain ⟨k1,k2⟩:=hq2.get
  refine ⟨v,y,St.ofL objs,fun j=>(ρ[j]?).bind μ',rfl,⟨⟨rfl,rfl⟩,xC5 hq1,?_⟩,hL.below,?_,xJc (E:=St.ofL objs) hv hq1⟩
  ·intro j x hx
   obtain ⟨o,z,a1,a2,a3⟩:=k2 j x hx
   cases z with
   | row sz es=>simp only [AObj.ren,Option.map_eq_some_iff] at a3;obtain ⟨fs,hf',rfl⟩:=a3;exact xGb hf'
   | map es=>simp only [AObj.ren,Option.map_eq_some_iff] at a3;obtain ⟨fs,hf',rfl⟩:=a3;exact xHr hf'
   | loop=>simp [AObj.ren] at a3
  ·refine ⟨?_,?_,?_,?_,?_,hR'.basele⟩
   ·intro j x hx
    obtain ⟨o,z,a1,a2,a3⟩:=k2 j x hx
    have hob:=hR'.obj o z a2
    cases z with
    | row sz es =>
     simp only [AObj.ren,Option.map_eq_some_iff] at a3
     obtain ⟨fs,hf',rfl⟩:=a3
     obtain ⟨b1,b2,b3⟩:=xHq hf'
     rcases hob with ⟨c1,c2⟩ | ⟨l,c,ty,us,c1,c2,c3,c4,c5,c6,c7,c8⟩
     ·subst c1
      simp only [renss,xoI] at hf';subst hf'
      exact .inl ⟨rfl,by simp [a1];exact c2⟩
     ·exact .inr ⟨l,c,ty,us,by simp [a1];exact c1,c2,c3,c4,by rw [b2];exact c5,b3 sz c6,c7,xEK (E:=St.ofL objs) c8 b1⟩
    | map es =>
     simp only [AObj.ren,Option.map_eq_some_iff] at a3
     obtain ⟨fs,hf',rfl⟩:=a3
     obtain ⟨l,ms,ck,c1,c2,c3⟩:=hob
     exact ⟨l,ms,ck,by simp [a1];exact c1,c2,xLG (E:=St.ofL objs) c3 hf'⟩
    | loop=>simp [AObj.ren] at a3
   ·intro j j' l l' x x' hx hx' hl hl' hb
    obtain ⟨o,z,a1,a2,a3⟩:=k2 j x hx
    obtain ⟨o',z',a1',a2',a3'⟩:=k2 j' x' hx'
    simp [a1] at hl
    simp [a1'] at hl'
    have:=hR'.inj o o' l l' z z' a2 a2' hl hl' hb
    subst this
    have e1:=(xgS a1)
    have e2:=(xgS a1')
    obtain ⟨p1,q1⟩:=e1
    obtain ⟨p2,q2⟩:=e2
    exact (List.getElem_inj hn).1 (q1.trans q2.symm)
   ·intro j x hx
    exact (xgS hx).1
   ·intro j l hl
    show j < objs.length
    rw [<- k1]
    cases hj:ρ[j]? with
    | none=>simp [hj] at hl
    | some o=>exact (xgS hj).1
   ·intro j x l hx hl
    obtain ⟨o,z,a1,a2,a3⟩:=k2 j x hx
    simp [a1] at hl
    exact hR'.low o z l a2 hl
theorem Own.ofRen {f:Nat} {xs:List AV} {y:AV} {objs:List AObj} (hf:callable P f=true) (ρ:List Nat) (hn:ρ.Nodup) (h:Cal P g f xs St.empty fun v S=>AV.ren ρ v=some y/\Kept S ρ ρ objs):Own P g f xs y (St.ofL objs) :=
 Own.ofRenE hf (h.mono fun v S hk=>⟨ρ,hn,hk⟩)
end
end Go.Proofs.YtnhfofmhkfdpgaaGreatDoor.Vm
