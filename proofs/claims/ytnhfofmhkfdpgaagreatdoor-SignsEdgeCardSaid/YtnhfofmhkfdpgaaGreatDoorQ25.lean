/- A part of the proof: Ra Rc Rd Re Rf. -/
import Derived.KernelRfl
import Derived.Test.YtnhfofmhkfdpgaaGreatDoorQ24
set_option linter.unusedVariables false
set_option linter.unusedSimpArgs false
set_option linter.constructorNameAsVariable false
namespace Go.Proofs.YtnhfofmhkfdpgaaGreatDoor.Vm
open Go Go.RowKit
structure Sys (α:Type) where
 n:Nat
 ev:List α->Nat->α
 rd:Nat->List Int
 ok:α->Prop
 le:α->α->Prop
 bot:α
 ht:α->Nat
 top:Nat
 refl:∀a,ok a->le a a
 trans:∀a b c,ok a->ok b->ok c->le a b->le b c->le a c
 anti:∀a b,ok a->ok b->le a b->le b a->a=b
 botOk:ok bot
 botLe:∀a,ok a->le bot a
 htop:∀a,ok a->ht a<=top
 hlt:∀a b,ok a->ok b->le a b->a ≠ b->ht a < ht b
 evOk:∀x i,x.length=n->(∀a ∈ x,ok a)->i < n->ok (ev x i)
 mono:∀x y i,x.length=n->y.length=n->(∀a ∈ x,ok a)->(∀a ∈ y,ok a)->(∀(k:Nat) a b,x[k]?=some a->y[k]?=some b->le a b)->i < n->le (ev x i) (ev y i)
 dep:∀x i (k:Nat) a,(∀j ∈ rd i,j.toNat ≠ k)->ev (x.set k a) i=ev x i
 nn:∀i,∀j ∈ rd i,0<=j
variable {α:Type} (Y:Sys α)
structure Sys.Fit (x:List α):Prop where
 len:x.length=Y.n
 ok:∀a ∈ x,Y.ok a
def Sys.Post (y:List α):Prop:=Y.Fit y/\∀(i:Nat) a,y[i]?=some a->Y.le (Y.ev y i) a
structure Sys.Mid (x:List α) (T:Nat->Prop):Prop where
 fit:Y.Fit x
 low:∀y,Y.Post y->∀(i:Nat) a b,x[i]?=some a->y[i]?=some b->Y.le a b
 pre:∀(i:Nat) a,x[i]?=some a->Y.le a (Y.ev x i)
 fix:∀(i:Nat) a,x[i]?=some a->¬ T i->a=Y.ev x i
variable {Y}
theorem Sys.Fit.at {x:List α} (h:Y.Fit x) {i:Nat} (hi:i < Y.n):∃ a,x[i]?=some a/\Y.ok a:=by
 have hl:i < x.length:=by rw [h.len];exact hi
 exact ⟨x[i],xgG hl,h.ok _ (List.getElem_mem _)⟩
theorem Sys.Fit.lt {x:List α} (h:Y.Fit x) {i:Nat} {a:α} (ha:x[i]?=some a):i < Y.n/\Y.ok a:=⟨by rw [<- h.len];exact (xgS ha).1,h.ok a (xmG ha)⟩
theorem Sys.Fit.ev {x:List α} (h:Y.Fit x) {i:Nat} (hi:i < Y.n):Y.ok (Y.ev x i):=Y.evOk x i h.len h.ok hi
theorem Sys.Fit.set {x:List α} (h:Y.Fit x) {i:Nat} {a:α} (ha:Y.ok a):Y.Fit (x.set i a):=by
 refine ⟨by simp [h.len],fun b hb=>?_⟩
 rcases List.mem_or_eq_of_mem_set hb with h1 | h1
 ·exact h.ok b h1
 ·rw [h1];exact ha
theorem Sys.Mid.start:Y.Mid (List.replicate Y.n Y.bot) (fun i=>i < Y.n):=by
 have hm:∀(i:Nat) a,(List.replicate Y.n Y.bot)[i]?=some a->a=Y.bot:=fun i a h=>by
  have:=xmG h
  rw [List.mem_replicate] at this
  exact this.2
 have hf:Y.Fit (List.replicate Y.n Y.bot):=⟨by simp,fun a ha=>by rw [List.mem_replicate] at ha;rw [ha.2];exact Y.botOk⟩
 refine ⟨hf,fun y hy i a b ha hb=>?_,fun i a ha=>?_,fun i a ha hT=>?_⟩
 ·rw [hm i a ha];exact Y.botLe b (hy.1.ok b (xmG hb))
 ·rw [hm i a ha];exact Y.botLe _ (hf.ev (hf.lt ha).1)
 ·exact absurd (hf.lt ha).1 hT
theorem set_same {α:Type} {x:List α} {i:Nat} {a:α} (h:x[i]?=some a):x.set i a=x:=by
 obtain ⟨hlt,h⟩:=xgS h
 rw [<- h];exact List.set_getElem_self hlt
theorem Sys.Mid.step {x:List α} {T T':Nat->Prop} (h:Y.Mid x T) {i:Nat} {s:α} (hs:x[i]?=some s)
  (hT:∀k,¬ T' k->k=i \/ ¬ T k) (hr:s ≠ Y.ev x i->∀k,k < Y.n->(i:Int) ∈ Y.rd k->T' k):Y.Mid (x.set i (Y.ev x i)) T':=by
 have hi:=(h.fit.lt hs).1
 have hok:=h.fit.ev hi
 have hil:i < x.length:=by rw [h.fit.len];exact hi
 have hf':=h.fit.set (i:=i) hok
 have hge:∀(k:Nat) a b,x[k]?=some a->(x.set i (Y.ev x i))[k]?=some b->Y.le a b:=fun k a b ha hb=>by
  by_cases hk:k=i
  ·subst hk
   rw [List.getElem?_set_self hil] at hb
   cases hb
   exact h.pre k a ha
  ·rw [List.getElem?_set_ne (Ne.symm hk)] at hb
   rw [ha] at hb;cases hb
   exact Y.refl a (h.fit.lt ha).2
 have hup:∀k,k < Y.n->Y.le (Y.ev x k) (Y.ev (x.set i (Y.ev x i)) k):=fun k hk=>Y.mono _ _ k h.fit.len hf'.len h.fit.ok hf'.ok hge hk
 refine ⟨hf',fun y hy k a b ha hb=>?_,fun k a ha=>?_,fun k a ha hnT=>?_⟩
 ·by_cases hk:k=i
  ·subst hk
   rw [List.getElem?_set_self hil] at ha
   cases ha
   have h1:=Y.mono x y k h.fit.len hy.1.len h.fit.ok hy.1.ok (fun j a b ha hb=>h.low y hy j a b ha hb) hi
   exact Y.trans _ _ _ hok (hy.1.ev hi) (hy.1.lt hb).2 h1 (hy.2 k b hb)
  ·rw [List.getElem?_set_ne (Ne.symm hk)] at ha
   exact h.low y hy k a b ha hb
 ·by_cases hk:k=i
  ·subst hk
   rw [List.getElem?_set_self hil] at ha
   cases ha
   exact hup k hi
  ·rw [List.getElem?_set_ne (Ne.symm hk)] at ha
   have h1:=h.fit.lt ha
   exact Y.trans _ _ _ h1.2 (h.fit.ev h1.1) (hf'.ev h1.1) (h.pre k a ha) (hup k h1.1)
 ·by_cases he:s=Y.ev x i
  ·rw [<- he,set_same hs] at ha ⊢
   by_cases hk:k=i
   ·subst hk
    rw [hs] at ha;cases ha
    exact he
   ·exact h.fix k a ha ((hT k hnT).resolve_left hk)
  ·have hkn:=(hf'.lt ha).1
   have hno:∀j ∈ Y.rd k,j.toNat ≠ i:=by
    intro j hj e
    have:=Y.nn k j hj
    exact hnT (hr he k hkn (by rw [<- e,Int.toNat_of_nonneg this];exact hj))
   rw [Y.dep x k i _ hno]
   by_cases hk:k=i
   ·subst hk
    rw [List.getElem?_set_self hil] at ha
    cases ha;rfl
   ·rw [List.getElem?_set_ne (Ne.symm hk)] at ha
    exact h.fix k a ha ((hT k hnT).resolve_left hk)
structure Sys.Least (Y:Sys α) (x:List α):Prop where
 fit:Y.Fit x
 fix:∀(i:Nat) a,x[i]?=some a->a=Y.ev x i
 low:∀y,Y.Post y->∀(i:Nat) a b,x[i]?=some a->y[i]?=some b->Y.le a b
theorem Sys.Mid.done {x:List α} {T:Nat->Prop} (h:Y.Mid x T) (hT:∀k,¬ T k):Y.Least x:=⟨h.fit,fun i a ha=>h.fix i a ha (hT i),h.low⟩
theorem Sys.Least.post {x:List α} (h:Y.Least x):Y.Post x:=⟨h.fit,fun i a ha=>by
 have:=h.fix i a ha
 rw [<- this]
 exact Y.refl a (h.fit.lt ha).2⟩
theorem Sys.Least.eq {x y:List α} (h:Y.Least x) (h':Y.Least y):x=y:=by
 apply List.ext_getElem?
 intro i
 by_cases hi:i < Y.n
 ·obtain ⟨a,ha,ka⟩:=h.fit.at hi
  obtain ⟨b,hb,kb⟩:=h'.fit.at hi
  rw [ha,hb,Y.anti a b ka kb (h.low y h'.post i a b ha hb) (h'.low x h.post i b a hb ha)]
 ·rw [List.getElem?_eq_none (by rw [h.fit.len];omega),List.getElem?_eq_none (by rw [h'.fit.len];omega)]
noncomputable def Sys.sol (Y:Sys α):List α:=open Classical in if h:∃ x,Y.Least x then h.choose else []
theorem Sys.Least.sol {x:List α} (h:Y.Least x):x=Y.sol:=by
 unfold Sys.sol
 rw [dif_pos ⟨x,h⟩]
 exact h.eq (Exists.choose_spec (⟨x,h⟩:∃ x,Y.Least x))
def Sys.gap (Y:Sys α) (x:List α):Nat:=(x.map fun a=>Y.top - Y.ht a).sum
theorem Sys.gap_set {x:List α} (hx:∀a ∈ x,Y.ok a) {i:Nat} {s t:α} (hs:x[i]?=some s) (ht:Y.ok t) (hle:Y.le s t) (hne:s ≠ t):Y.gap (x.set i t) < Y.gap x:=by
 have hso:=hx s (xmG hs)
 have h1:=Y.hlt s t hso ht hle hne
 have h2:=Y.htop t ht
 unfold Sys.gap
 clear hx
 induction x generalizing i with
 | nil=>simp at hs
 | cons a x ih =>
  cases i with
  | zero =>
   simp at hs;subst hs
   simp only [List.set_cons_zero,List.map_cons,List.sum_cons]
   omega
  | succ i =>
   simp only [List.set_cons_succ,List.map_cons,List.sum_cons]
   have:=ih (by simpa using hs)
   omega
theorem Sys.Mid.ends:∀(m:Nat) {x:List α},Y.Mid x (fun _=>True)->Y.gap x<=m->∃ x,Y.Least x:=by
 intro m
 induction m with
 | zero =>
  intro x h hm
  by_cases hall:∀(i:Nat) a,x[i]?=some a->a=Y.ev x i
  ·exact ⟨x,h.fit,hall,h.low⟩
  ·have:∃ (i:Nat) (a:α),x[i]?=some a/\a ≠ Y.ev x i:=Classical.byContradiction fun hno=>hall fun i a ha=>Classical.byContradiction fun hne=>hno ⟨i,a,ha,hne⟩
   obtain ⟨i,a,ha,hne⟩:=this
   have:=Y.gap_set h.fit.ok ha (h.fit.ev (h.fit.lt ha).1) (h.pre i a ha) hne
   omega
 | succ m ih =>
  intro x h hm
  by_cases hall:∀(i:Nat) a,x[i]?=some a->a=Y.ev x i
  ·exact ⟨x,h.fit,hall,h.low⟩
  ·have:∃ (i:Nat) (a:α),x[i]?=some a/\a ≠ Y.ev x i:=Classical.byContradiction fun hno=>hall fun i a ha=>Classical.byContradiction fun hne=>hno ⟨i,a,ha,hne⟩
   obtain ⟨i,a,ha,hne⟩:=this
   have:=Y.gap_set h.fit.ok ha (h.fit.ev (h.fit.lt ha).1) (h.pre i a ha) hne
   exact ih (h.step (T':=fun _=>True) ha (fun k hk=>absurd trivial hk) fun _ _ _ _=>trivial) (by omega)
theorem Sys.least (Y:Sys α):Y.Least Y.sol:=by
 obtain ⟨x,hx⟩:=Sys.Mid.ends (Y.gap (List.replicate Y.n Y.bot)) (Y:=Y) (x:=List.replicate Y.n Y.bot) (by
  have:=Sys.Mid.start (Y:=Y)
  exact ⟨this.fit,this.low,this.pre,fun i a ha h=>absurd trivial h⟩) (Nat.le_refl _)
 rw [<- hx.sol];exact hx
end Go.Proofs.YtnhfofmhkfdpgaaGreatDoor.Vm
namespace Go.Proofs.YtnhfofmhkfdpgaaGreatDoor.Vm
set_option maxRecDepth 100000
open Go Go.RowKit
variable {N:Nat} {g:Glob}
abbrev Env:=Option (List Val)
@[simp] def valc (v:Val):List AV:=[.int .i64 v.k,.int .i64 v.c]
instance:PlainE valc:=⟨fun x=>by simp [valc,AV.stab]⟩
def envc:Env->List AV
 | none=>[.bool false,.nilsl]
 | some l=>[.bool true,.fsl 2 (els valc l)]
@[simp] theorem xVD:envc none=[.bool false,.nilsl]:=_root_.id rfl
@[simp] theorem xJE {l:List Val}:envc (some l)=[.bool true,.fsl 2 (els valc l)]:=_root_.id rfl
@[simp] def encE (e:Env):AV:=.agg (envc e)
def opsV:AV:=.agg [.func (.func 140) [] [],.func (.func 141) [] []]
theorem xB8:AV.agg [.func (.func 140) [] [],.func (.func 141) [] []]=opsV:=rfl
theorem xA6 {α:Type} {e:α->List AV} [PlainE e] {S:St} {o sz k n:Nat} {l:List α} (h:S.obj o=some (.row sz (els e l))) (hk:l.length=k):pict S [] (n + 2) (.sl sz o 0 k)=some (.fsl sz (els e l)):=by
 subst hk
 rw [xEJ,xCN h (by simp)]
 simp [xAu]
def Val.zero:Val:=⟨0,0⟩
theorem Val.sane_ok (v:Val):v.sane.ok=true:=by
 unfold Val.sane
 split
 ·assumption
 ·rfl
theorem Val.sane_of {v:Val} (h:v.ok=true):v.sane=v:=by unfold Val.sane;rw [if_pos h]
theorem Val.ok_bot {v:Val} (h:v.ok=true) (hk:v.k=0):v=Val.zero:=by
 obtain ⟨k,c⟩:=v
 simp only at hk
 subst hk
 simp [Val.ok] at h
 simp [Val.zero,h]
theorem Val.join_zero (v:Val):v.join ⟨0,0⟩=v.sane:=by
 have hz:Val.sane ⟨0,0⟩=⟨0,0⟩:=rfl
 unfold Val.join
 rw [hz]
 split
 ·rename_i h
  rcases h with h | h
  ·exact (Val.ok_bot v.sane_ok h).symm
  ·exact h.symm
 ·rfl
theorem xEm:Ret P g false 98 [] opsV:=by
 refine Ret.inF (by kernel_rfl) ?_
 conv=>arg 3;reduce
 simp
 exact ⟨9,by simp [opsV,xB5,mapOpt]⟩
theorem xIv (v:Val):Ret P g false 142 [opsV,encV v] (encV v.sane):=by
 refine Ret.inF (by kernel_rfl) ?_
 conv=>arg 3;reduce
 simp [opsV]
 refine (xGh v ⟨0,0⟩).use (n:=9) ?_ rfl ?_ <;> simp
 exact RK.aggEq (by rw [Val.join_zero]) (by simp [AV.stab])
def getL (l:List Val) (i:Int):Val:=if 0<=i/\i < l.length then (l.getD i.toNat Val.zero).sane else Val.zero
def Env.get (e:Env) (i:Int):Val:=match e with
 | none=>Val.zero
 | some l=>getL l i
@[simp] theorem xVE {S:St} {n:Nat}:pict S [] (n + 3) opsV=some opsV:=by simp [opsV,xB5]
@[simp] theorem xT3:opsV.solid=true:=by simp [opsV]
@[simp] theorem xHA:opsV.cells=[.func (.func 140) [] [],.func (.func 141) [] []]:=rfl
theorem xKW (e:Env) (i:Int):Ret P g false 99 [opsV,encE e,.int .i64 i] (encV (e.get i)):=by
 refine Ret.in c99 (by simp) ?_
 cases e with
 | none =>
  simp [k99]
  exact RK.agg (by simp [AV.stab])
 | some l =>
  simp [k99]
  refine xAP (fun h1=>?_) (fun h1=>?_) <;> simp [h1]
  ·refine xAj (fun h2=>?_) (fun h2=>?_) <;> simp [h2]
   ·refine RK.aggEq ?_ (by simp [AV.stab])
    simp only [Env.get,getL]
    rw [if_neg (by omega)];rfl
   ·obtain ⟨k,rfl⟩:∃ k:Nat,i=(k:Int):=⟨i.toNat,by omega⟩
    have hk:k < l.length:=by omega
    obtain ⟨v,hv⟩:∃ v,l[k]?=some v:=⟨_,xgG hk⟩
    refine Dra.auto [] mix ?_ ?_
    ·kernel_rfl
    simp [classes,xAL,hv]
    refine (xIv v).b (n:=9) ?_ rfl ?_ <;> simp [xB8]
    refine RK.aggEq ?_ (by simp [AV.stab])
    simp only [Env.get,getL]
    rw [if_pos (by omega)]
    simp [List.getD_eq_getElem?_getD,hv]
  ·refine RK.aggEq ?_ (by simp [AV.stab])
   simp only [Env.get,getL]
   rw [if_neg (by omega)];rfl
def ownL (l:List Val) (n:Nat):List Val:=(List.range (max n l.length)).map fun k:Nat=>getL l (k:Int)
theorem xDr (l:List Val) (n:Nat):(ownL l n).length=max n l.length:=by simp [ownL]
theorem xJF (n:Int):Ret P g false 244 [opsV,encE none,.int .i64 n] (encE none):=by
 refine Ret.inF (by kernel_rfl) ?_
 conv=>arg 3;reduce
 simp
 exact RK.agg (by simp [AV.stab])
theorem xKX (l:List Val) (n:Nat) (hl:l.length < 2 ^ 20) (hn:n < 2 ^ 20):Own P g 244 [opsV,encE (some l),.int .i64 (n:Int)] (.agg [.bool true,.sl 2 0 0 (max n l.length)]) (St.ofL [.row 2 (els valc (ownL l n))]):=by
 refine Own.in [3] c244 (by simp) (by simp) ?_
 have hm:max n l.length < 2 ^ 20:=Nat.max_lt.2 ⟨hn,hl⟩
 have hroom:max n l.length<=room:=by simp only [room];omega
 have e1:(if n < l.length then (l.length:Int) else n)=((max n l.length:Nat):Int):=by split <;> omega
 simp [k244,e1]
 have hcast:(max (n:Int) l.length)=((max n l.length:Nat):Int):=by omega
 try simp only [hcast]
 have hol:=xDr l n
 generalize hM:max n l.length=m at *
 simp [hroom]
 refine W.whileI (fun (a:Nat) F S=>a<=m/\F 3=.ptr 0 0 0/\F 4=.ptr 1 0 0/\F 6=.ptr 2 0 0/\F 7=.ptr 4 0 0/\F 22=.int .i64 m/\F 23=.int .i64 a/\S.obj 0=some (.row 2 [opsV.cells])/\S.obj 1=some (.row 2 [envc (some l)]) /\
  S.obj 2=some (.row 2 [[.bool false,.nilsl]])/\S.obj 4=some (.row 2 [[.bool true,.sl 2 3 0 m]])/\∃ o:List Val,o.length=m/\o.take a=(ownL l n).take a/\S.obj 3=some (.row 2 (els valc o))) (fun a=>m - a) ?_ 0 _ _ ?_
 ·rintro a F S ⟨ha,h3,h4,h6,h7,h22,h23,s0,s1,s2,s4,o,ho,hot,s3⟩
  by_cases hlt:a < m
  ·have e4:=wrapS a (by omega)
   obtain ⟨u,hu⟩:∃ u,o[a]?=some u:=⟨_,xgG (by omega)⟩
   simp [h22,h23,hlt]
   refine Dra.auto [] mix ?_ ?_
   ·kernel_rfl
   simp only [xHA,xJE] at s0 s1
   simp [classes,h3,h4,h6,h7,h22,h23,s0,s1,s4]
   refine (xKW (some l) a).b (n:=9) ?_ rfl ?_ <;> simp [xB8]
   simp [xAd hlt,s3,hu,h3,h4,h6,h7,h22,h23,e4]
   refine ⟨a + 1,by omega,by omega,by omega,by simpa using s0,by simpa using s1,by simpa using s2,by simpa using s4,o.set a (getL l a),by simp [ho],?_,by rw [<- xAg];rfl⟩
   rw [xAo (by omega),hot]
   have:(ownL l n)[a]?=some (getL l a):=by simp [ownL,hM,hlt]
   rw [xAe this]
  ·have:a=m:=by omega
   subst this
   have hoR:o=ownL l n:=by rw [List.take_of_length_le (by omega),List.take_of_length_le (by omega)] at hot;exact hot
   subst hoR
   simp [h22,h23,h7,h6,s4,s2]
   simp [RO,s3,ho]
 ·simp
  exact ⟨List.replicate m Val.zero,by simp,by simp [els,Val.zero]⟩
def Env.own (e:Env):Env:=e.map fun l=>ownL l 0
theorem xIw (e:Env) (he:∀l,e=some l->l.length < 2 ^ 20):Ret P g true 244 [opsV,encE e,.int .i64 0] (encE e.own):=by
 cases e with
 | none =>
  refine Ret.inP (cF0 (by kernel_rfl)) (nF (by kernel_rfl)) (vO ?_)
  conv=>arg 3;reduce
  simp
  exact ⟨rfl,9,by simp [Env.own,mapOpt]⟩
 | some l =>
  have hl:=xDr l 0
  refine (xKX l 0 (he l rfl) (by omega)).ret (m:=9) ?_
  have:=xA6 (e:=valc) (S:=St.ofL [.row 2 (els valc (ownL l 0))]) (o:=0) (n:=6) rfl hl
  simp only [xB4,mapOpt,xCv,this]
  rfl
@[simp] theorem xM8 {S:St} {n:Nat} (e:Env):mapOpt (pict S [] (n + 1)) (envc e)=some (envc e):=by cases e <;> simp [mapOpt]
theorem RK.rowE {S:St} {o k:Nat} {l:List Val} (h:S.obj o=some (.row 2 (els valc l))) (hk:l.length=k):RK (.agg (envc (some l))) (.agg [.bool true,.sl 2 o 0 k]) S:=by
 refine ⟨8,?_⟩
 have:=xA6 (e:=valc) (S:=S) (n:=5) h hk
 simp only [xB4,mapOpt,xCv,this]
 rfl
@[simp] theorem xT4 (e:Env):solids (envc e)=true:=by cases e <;> simp
@[simp] theorem xWT (e:Env):(envc e).length=2:=by cases e <;> rfl
theorem RK.env {e e':Env} {S:St} (h:e=e'):RK (.agg (envc e')) (.agg (envc e)) S:=by subst h;exact ⟨9,by simp⟩
@[simp] theorem xVG (e:Env):(∀x,x ∈ envc e->x.one=true)=True:=by cases e <;> simp
@[simp] theorem xVH (e:Env):(envc e).take 2=envc e:=by cases e <;> rfl
@[simp] theorem xVI (u v:AV) (e:Env):over [u,v] 0 (envc e)=envc e:=by cases e <;> rfl
@[simp] theorem xT5 (e' e:Env):over (envc e') 0 (envc e)=envc e:=by cases e <;> cases e' <;> rfl
def Env.small (e:Env):Prop:=∀l,e=some l->l.length < 2 ^ 20
def joinL (l m:List Val):List Val:=(List.range (max m.length l.length)).map fun k:Nat=>(getL l k).join (getL m k)
def Env.join (a b:Env):Env:=match a,b with
 | none,b=>b.own
 | a,none=>a.own
 | some l,some m=>some (joinL l m)
theorem xJG (l:List Val) (n:Nat) {k:Nat} (hk:k < max n l.length):(ownL l n)[k]?=some (getL l k):=by simp [ownL,hk]
theorem xM9 (a b:Env) (ha:a.small) (hb:b.small):Ret P g false 209 [opsV,encE a,encE b] (encE (a.join b)):=by
 refine Ret.inF (by kernel_rfl) ?_
 conv=>arg 3;reduce
 simp
 cases a with
 | none =>
  simp
  cases b with
  | none =>
   simp
   refine (xIw (none:Env) ha).use (n:=9) ?_ rfl ?_ <;> simp [xB8]
   exact RK.env rfl
  | some m =>
   simp
   refine (xIw (some m) hb).use (n:=9) ?_ rfl ?_ <;> simp [xB8]
   exact RK.env rfl
 | some l =>
  simp
  cases b with
  | none =>
   simp
   refine (xIw (some l) ha).use (n:=9) ?_ rfl ?_ <;> simp [xB8]
   exact RK.env rfl
  | some m =>
   have hl:=ha l rfl
   have hm:=hb m rfl
   simp
   refine (xKX l m.length hl hm).use' (n:=9) ?_ ?_ ?_ <;> simp [xB8]
   have hn:max m.length l.length < 2 ^ 20:=Nat.max_lt.2 ⟨hm,hl⟩
   have hol:=xDr l m.length
   have hcast:(max (m.length:Int) l.length)=((max m.length l.length:Nat):Int):=by omega
   try simp only [hcast]
   have hJ:(joinL l m).length=max m.length l.length:=by simp [joinL]
   have hget:∀k,k < max m.length l.length->(ownL l m.length)[k]?=some (getL l k):=fun k hk=>xJG l _ hk
   have hjg:∀k,k < max m.length l.length->(joinL l m)[k]?=some ((getL l k).join (getL m k)):=fun k hk=>by simp [joinL,hk]
   generalize max m.length l.length=n at *
   refine W.whileI (fun (a:Nat) F S=>a<=n/\F 3=.ptr 0 0 0/\F 5=.ptr 2 0 0/\F 6=.ptr 3 0 0/\F 7=.ptr 5 0 0/\F 28=.int .i64 n/\F 29=.int .i64 a/\S.obj 0=some (.row 2 [opsV.cells])/\S.obj 2=some (.row 2 [envc (some m)]) /\
    S.obj 3=some (.row 2 [[.bool false,.nilsl]])/\S.obj 5=some (.row 2 [[.bool true,.sl 2 4 0 n]])/\∃ o:List Val,o.length=n/\o.take a=(joinL l m).take a/\o.drop a=(ownL l m.length).drop a/\S.obj 4=some (.row 2 (els valc o))) (fun a=>n - a) ?_ 0 _ _ ?_
   ·rintro a F S ⟨ha,h3,h5,h6,h7,h28,h29,s0,s2,s3,s5,o,ho,hot,hod,s4⟩
    by_cases hlt:a < n
    ·have e4:=wrapS a (by omega)
     have hoa:o[a]?=some (getL l a):=by
      have h1:=hget a hlt
      have h2:(o.drop a)[0]?=((ownL l m.length).drop a)[0]?:=by rw [hod]
      simp only [List.getElem?_drop,Nat.add_zero] at h2
      rw [h2,h1]
     simp [h28,h29,hlt]
     refine Dra.auto [] mix ?_ ?_
     ·kernel_rfl
     simp only [xHA,xJE] at s0 s2
     simp [classes,h3,h5,h6,h7,h28,h29,s0,s2,s5,xAd hlt,s4,hoa]
     refine (xKW (some m) a).b (n:=9) ?_ rfl ?_ <;> simp [xB8]
     refine (xGh (getL l a) (Env.get (some m) a)).b (n:=9) ?_ rfl ?_ <;> simp
     simp [xAd hlt,s4,hoa,h3,h5,h6,h7,h28,h29,e4]
     refine ⟨a + 1,by omega,by omega,by omega,by simpa using s0,by simpa using s2,by simpa using s3,by simpa using s5,o.set a ((getL l a).join (getL m a)),by simp [ho],?_,?_,by rw [<- xAg];rfl⟩
     ·rw [xAo (by omega),hot,xAe (hjg a hlt)]
     ·rw [List.drop_set_of_lt (by omega)]
      have h2:(o.drop a).drop 1=((ownL l m.length).drop a).drop 1:=by rw [hod]
      simpa [List.drop_drop,Nat.add_comm] using h2
    ·have:a=n:=by omega
     subst this
     have hoR:o=joinL l m:=by rw [List.take_of_length_le (by omega),List.take_of_length_le (by omega)] at hot;exact hot
     subst hoR
     simp [h28,h29,h7,h6,s5,s3]
     exact RK.rowE (by simp [s4]) hJ
   ·simp
    exact ⟨ownL l m.length,by simp [hol],rfl,rfl⟩
def Env.set (e:Env) (i:Int) (v:Val):Env:=e.own.map fun l=>if 0<=i/\i < l.length then l.set i.toNat v.sane else l
theorem xS0 (e:Env) (i:Int) (v:Val) (he:e.small):Ret P g false 202 [opsV,encE e,.int .i64 i,encV v] (encE (e.set i v)):=by
 refine Ret.inF (by kernel_rfl) ?_
 conv=>arg 3;reduce
 simp
 cases e with
 | none =>
  refine (xJF 0).use (n:=9) ?_ rfl ?_ <;> simp [xB8]
  refine xCM (fun h1=>?_) (fun h1=>?_) <;> simp [h1]
  ·refine xAj (fun h2=>?_) (fun h2=>?_) <;> simp [h2]
   ·omega
   ·exact RK.env (e:=none) (e':=Env.set none i v) rfl
  ·exact RK.env (e:=none) (e':=Env.set none i v) rfl
 | some l =>
  have hl:=he l rfl
  refine (xKX l 0 hl (by omega)).use' (n:=9) ?_ ?_ ?_ <;> simp [xB8]
  have hol:=xDr l 0
  have hse:Env.set (some l) i v=some (if 0<=i/\i < (ownL l 0).length then (ownL l 0).set i.toNat v.sane else ownL l 0):=rfl
  simp only [Nat.zero_max] at hol
  rw [hol] at hse
  have hra:=readAll (e:=valc) hol
  refine xCM (fun h1=>?_) (fun h1=>?_) <;> simp [h1]
  ·refine xAj (fun h2=>?_) (fun h2=>?_) <;> simp [h2]
   ·obtain ⟨k,rfl⟩:∃ k:Nat,i=(k:Int):=⟨i.toNat,by omega⟩
    have hk:k < l.length:=by omega
    obtain ⟨u,hu⟩:∃ u,(ownL l 0)[k]?=some u:=⟨_,xgG (by omega)⟩
    refine Dra.auto [] mix ?_ ?_
    ·kernel_rfl
    simp [classes]
    refine (xIv v).b (n:=9) ?_ rfl ?_ <;> simp [xB8]
    simp [xAd hk,hu]
    have e3:(els valc (ownL l 0)).set k [.int .i64 v.sane.k,.int .i64 v.sane.c]=els valc ((ownL l 0).set k v.sane):=xAg (e:=valc)
    simp only [e3]
    rw [if_pos (by omega)] at hse
    rw [hse]
    exact RK.rowE (by simp) (by simp [hol])
   ·rw [if_neg (by omega)] at hse
    rw [hse]
    exact RK.rowE (by simp) hol
  ·rw [if_neg (by omega)] at hse
   rw [hse]
   exact RK.rowE (by simp) hol
theorem xJH (a b:Env) (ha:a.small) (hb:b.small):Ret P g false 146 [encE a,encE b] (encE (a.join b)):=by
 refine Ret.inF (by kernel_rfl) ?_
 conv=>arg 3;reduce
 simp
 refine Dra.auto [] mix ?_ ?_
 ·kernel_rfl
 simp [classes]
 refine xEm.b (n:=9) ?_ rfl ?_ <;> simp
 refine (xM9 a b ha hb).b (n:=9) (by simp) (by simp [solids,AV.solid]) ?_
 simp
 exact RK.env rfl
theorem xDT (e:Env) (i:Int):Ret P g false 58 [encE e,.int .i64 i] (encV (e.get i)):=by
 refine Ret.inF (by kernel_rfl) ?_
 conv=>arg 3;reduce
 simp
 refine Dra.auto [] mix ?_ ?_
 ·kernel_rfl
 simp [classes]
 refine xEm.b (n:=9) ?_ rfl ?_ <;> simp
 refine (xKW e i).b (n:=9) (by simp) rfl ?_
 simp
 exact RK.agg (by simp [AV.stab])
theorem xKY (e:Env) (i:Int) (v:Val) (he:e.small):Ret P g false 143 [encE e,.int .i64 i,encV v] (encE (e.set i v)):=by
 refine Ret.inF (by kernel_rfl) ?_
 conv=>arg 3;reduce
 simp
 refine Dra.auto [] mix ?_ ?_
 ·kernel_rfl
 simp [classes]
 refine xEm.b (n:=9) ?_ rfl ?_ <;> simp
 refine (xS0 e i v he).b (n:=9) (by simp) (by simp [solids,AV.solid]) ?_
 simp
 exact RK.env rfl
def leqL (l m:List Val) (k:Nat):Prop:=∀j,j < k->(getL l (j:Nat)).leq (getL m (j:Nat))=true
noncomputable instance (l m:List Val) (k:Nat):Decidable (leqL l m k):=Classical.propDecidable _
noncomputable def Env.leq (a b:Env):Bool:=match a,b with
 | none,_=>true
 | some _,none=>false
 | some l,some m=>decide (leqL l m (max l.length m.length))
theorem xO0 {l:List Val}:okAll 2 (els valc l):=by
 unfold okAll
 simp only [els,List.all_map,List.all_eq_true,Function.comp]
 intro x _;rfl
theorem xER (x:Val) (n:Nat) (hn:n < 2 ^ 30):Own P g 267 [.fsl 2 [valc x],.int .i64 (n:Int)] (.sl 2 0 0 n) (St.ofL [.row 2 (els valc (List.replicate n x))]):=by
 refine Own.in [0] c267 (by simp) (by simp) ?_
 have hroom:n<=room:=by simp [room];omega
 have e1:IntKind.u64.wrap (1:Int)=((1:Nat):Int):=rfl
 have e2:IntKind.u64.wrap (n:Int)=n:=xB6 (by omega)
 have e3:n % 18446744073709551616=n:=by omega
 have e4:n / 18446744073709551616=0:=by omega
 have e5:IntKind.i64.wrap (n:Int)=n:=xAa (by omega)
 simp [k267,e1,e2]
 refine (bits_Mul 1 n (by omega) (by omega)).use (n:=9) ?_ rfl ?_ <;> simp [e3,e4]
 refine xAj (fun h=>absurd h (by omega)) (fun h=>?_)
 simp [e5,hroom]
 refine W.whileI (fun (m:Nat) F S=>m<=n/\(m=0->n=0)/\F 7=.sl 2 0 0 n/\F 8=.int .i64 m/\S.obj 0=some (.row 2 (els valc (List.replicate m x ++ List.replicate (n - m) Val.zero)))) (fun m=>n - m) ?_ (min 1 n) _ _ ?_
 ·rintro m F S ⟨hm,hm0,h7,h8,ho⟩
  by_cases hlt:m < n
  ·have hmp:0 < m:=by omega
   simp [h7,h8,hlt]
   refine Dra.auto [] mix ?_ ?_
   ·kernel_rfl
   have hys:List.take m (els valc (List.replicate m x ++ List.replicate (n - m) Val.zero))=els valc (List.replicate m x):=by rw [xAu,List.take_left' (by simp)]
   have hok:okAll 2 (els valc (List.replicate m x)):=xO0
   have e6:IntKind.i64.wrap ((m:Int) + (min m (n - m):Nat))=((m + min m (n - m):Nat):Int):=by rw [xAa (by omega)];omega
   simp [classes,h7,h8,hlt,xEN hm,xJl hm,ho,show ¬ m=0 by omega,hys,hok]
   refine ⟨m + min m (n - m),by omega,by omega,by omega,e6,?_⟩
   rw [xAu,xLL,xA2,xA2,List.take_replicate,List.drop_append,List.drop_of_length_le (by simp),List.drop_replicate,List.nil_append,<- List.append_assoc,List.replicate_append_replicate]
   congr 3
   ·omega
   ·simp;omega
  ·have:m=n:=by omega
   subst this
   simp [h7,h8]
   refine ⟨by simp,?_⟩
   simp [ho]
 ·simp
  refine ⟨by omega,?_⟩
  rcases n with _ | n
  ·simp [els]
  ·simp [els,Val.zero]
def capN (n:Int):Nat:=(max 0 (min n 64)).toNat
theorem xS1 (n:Int) (v:Val):Own P g 250 [opsV,.int .i64 n,encV v] (.agg [.bool true,.sl 2 0 0 (capN n)]) (St.ofL [.row 2 (els valc (List.replicate (capN n) v.sane))]):=by
 have e1:(if 0 < (if 64 < n then 64 else n) then (if 64 < n then 64 else n) else 0)=((capN n:Nat):Int):=by
  unfold capN;split <;> split <;> omega
 have hc:capN n < 2 ^ 30:=by unfold capN;omega
 have hra:=readAll (e:=valc) (l:=List.replicate (capN n) v.sane) (k:=capN n) (by simp)
 refine Own.in [4] c250 (by simp) (by simp) ?_
 simp [k250]
 refine (xIv v).use (n:=9) ?_ rfl ?_ <;> simp [xB8]
 simp [e1]
 refine (xER v.sane (capN n) hc).use' (n:=9) ?_ ?_ ?_ <;> simp
 simp [RO]
theorem xO1 (n:Int) (v:Val):Own P g 208 [.int .i64 n,encV v] (.agg [.bool true,.sl 2 0 0 (capN n)]) (St.ofL [.row 2 (els valc (List.replicate (capN n) v.sane))]):=by
 refine Own.in [2] c208 (by simp) (by simp) ?_
 simp [k208]
 refine Dra.auto [] mix ?_ ?_
 ·kernel_rfl
 simp [classes]
 refine xEm.b (n:=9) ?_ rfl ?_ <;> simp
 refine (xS1 n v).b' (n:=9) ?_ ?_ ?_ <;> simp
 simp [RO]
def startL (par vars:Int):List Val:=(List.range (capN vars)).map fun k:Nat=>if (k:Int) < par then ⟨2,0⟩ else ⟨1,0⟩
theorem xES (par vars:Int):(startL par vars).length=capN vars:=by simp [startL]
theorem xJI (f:Fun):Ret P g false 145 [encFun f] (encE (some (startL f.par f.vars))):=by
 have hc:capN f.vars<=64:=by unfold capN;omega
 have hsl:=xES f.par f.vars
 have hget:∀k,k < capN f.vars->(startL f.par f.vars)[k]?=some (if (k:Int) < f.par then ⟨2,0⟩ else ⟨1,0⟩):=fun k hk=>by simp [startL,hk]
 refine Ret.inF (by kernel_rfl) ?_
 conv=>arg 3;reduce
 simp
 refine Dra.auto [] mix ?_ ?_
 ·kernel_rfl
 simp [classes]
 refine (xIb 0).b (n:=9) ?_ rfl ?_ <;> simp
 refine (xO1 f.vars ⟨1,wrap32 0⟩).b' (n:=9) ?_ ?_ ?_ <;> simp
 have hw:Val.sane ⟨1,wrap32 0⟩=⟨1,0⟩:=rfl
 rw [hw]
 generalize hm:capN f.vars=m at *
 have e2:(if 0 < (if (m:Int) < f.par then (m:Int) else f.par) then (if (m:Int) < f.par then (m:Int) else f.par) else 0)=(((max 0 (min f.par m)).toNat:Nat):Int):=by split <;> split <;> omega
 simp [e2]
 generalize hq:(max 0 (min f.par m)).toNat=q at *
 have hqm:q<=m:=by omega
 refine W.whileI (fun (a:Nat) F S=>a<=q/\F 2=.ptr 1 0 0/\F 3=.ptr 3 0 0/\F 15=.int .i64 q/\F 16=.int .i64 a/\S.obj 1=some (.row 2 [[.bool false,.nilsl]])/\S.obj 3=some (.row 2 [[.bool true,.sl 2 2 0 m]])/\3 < S.next /\
  ∃ o:List Val,o.length=m/\o.take a=(startL f.par f.vars).take a/\(∀k,a<=k->k < m->o[k]?=some ⟨1,0⟩)/\S.obj 2=some (.row 2 (els valc o))) (fun a=>q - a) ?_ 0 _ _ ?_
 ·rintro a F S ⟨ha,h2,h3,h15,h16,s1,s3,hn,o,ho,hot,hod,s2⟩
  by_cases hlt:a < q
  ·have e4:=wrapS a (by omega)
   have ham:a < m:=by omega
   simp [h15,h16,hlt]
   simp [h2,h3,h15,h16,s3,xAd ham,s2,hod a (by omega) ham,e4]
   refine ⟨a + 1,by omega,by omega,by omega,by simpa using s1,hn,o.set a ⟨2,0⟩,by simp [ho],?_,fun k hk1 hk2=>?_,by rw [<- xAg];rfl⟩
   ·rw [xAo (by omega),hot,xAe (hget a ham),if_pos (by omega)]
   ·rw [List.getElem?_set_ne (by omega)];exact hod k (by omega) hk2
  ·have:a=q:=by omega
   subst this
   have hoR:o=startL f.par f.vars:=by
    apply List.ext_getElem?
    intro k
    by_cases hk:k < a
    ·have h1:(o.take a)[k]?=((startL f.par f.vars).take a)[k]?:=by rw [hot]
     rw [List.getElem?_take_of_lt hk,List.getElem?_take_of_lt hk] at h1
     exact h1
    ·by_cases hk2:k < m
     ·rw [hod k (by omega) hk2,hget k hk2,if_neg (by omega)]
     ·rw [List.getElem?_eq_none (by omega),List.getElem?_eq_none (by omega)]
   subst hoR
   have hra:=readAll (e:=valc) hsl
   simp [h15,h16,h2,h3,s1,s3]
   exact ⟨9,by simp [mapOpt,s2,hra,show ¬ 2=1 from by omega]⟩
 ·simp
  exact ⟨by omega,List.replicate m ⟨1,0⟩,by simp,fun k hk=>by simp [hk],rfl⟩
def Ins.number (i:Ins) (e:Env):Val :=
 if i.kind=0 then ⟨1,wrap32 i.c⟩ else if i.kind=1 then e.get i.a else if i.kind=2 then Val.each i64sub ⟨1,wrap32 0⟩ (e.get i.a) else if i.kind=3 then (e.get i.a).each i64add (e.get i.b) else
 if i.kind=4 then (e.get i.a).each i64sub (e.get i.b) else if i.kind=5 then (e.get i.a).each i64mul (e.get i.b) else ⟨2,0⟩
theorem xJJ (e:Env) (i:Ins):Ret P (gl N) false 144 [encE e,encI i] (encV (i.number e)):=by
 refine Ret.in c144 (by simp) ?_
 simp [k144]
 refine Dra.auto [] mix ?_ ?_
 ·kernel_rfl
 simp [classes]
 refine (xDT e i.a).b (n:=9) (by simp) rfl ?_
 simp
 refine (xDT e i.b).b (n:=9) (by simp) rfl ?_
 simp
 refine (xDp i.kind).use (n:=9) ?_ rfl ?_ <;> simp
 by_cases hk:0<=i.kind/\i.kind < 10
 ·have:i.kind=0 \/ i.kind=1 \/ i.kind=2 \/ i.kind=3 \/ i.kind=4 \/ i.kind=5 \/ i.kind=6 \/ i.kind=7 \/ i.kind=8 \/ i.kind=9:=by omega
  rcases this with h | h | h | h | h | h | h | h | h | h <;> rw [h] <;> simp [kname,kindNames,xDF]
  ·refine (xIb i.c).use (n:=9) ?_ rfl ?_ <;> simp
   exact RK.aggEq (by simp [Ins.number,h]) (by simp [AV.stab])
  ·exact RK.aggEq (by simp [Ins.number,h]) (by simp [AV.stab])
  ·refine (xQN (e.get i.a)).use (n:=9) ?_ rfl ?_ <;> simp
   exact RK.aggEq (by simp [Ins.number,h]) (by simp [AV.stab])
  ·refine (xQL (e.get i.a) (e.get i.b)).use (n:=9) ?_ rfl ?_ <;> simp
   exact RK.aggEq (by simp [Ins.number,h]) (by simp [AV.stab])
  ·refine (xLN (e.get i.a) (e.get i.b)).use (n:=9) ?_ rfl ?_ <;> simp
   exact RK.aggEq (by simp [Ins.number,h]) (by simp [AV.stab])
  ·refine (xQM (e.get i.a) (e.get i.b)).use (n:=9) ?_ rfl ?_ <;> simp
   exact RK.aggEq (by simp [Ins.number,h]) (by simp [AV.stab])
  all_goals exact RK.aggEq (by simp [Ins.number,h]) (by simp [AV.stab])
 ·have e1:kname i.kind=[]:=by rw [kname,if_neg hk]
  have e2:i.number e=⟨2,0⟩:=by simp only [Ins.number];repeat (rw [if_neg (by omega)])
  simp [e1,xDF]
  exact RK.aggEq (by simp [e2]) (by simp [AV.stab])
def Ins.flat (i:Ins) (e:Env):Env:=e.set i.def (i.number e)
theorem xNa (e:Env) (i:Ins) (he:e.small):Ret P (gl N) false 100 [encE e,encI i] (encE (i.flat e)):=by
 refine Ret.inF (by kernel_rfl) ?_
 conv=>arg 3;reduce
 simp
 refine Dra.auto [] mix ?_ ?_
 ·kernel_rfl
 simp [classes]
 refine (xCw i).b (n:=9) (by simp [mapOpt]) rfl ?_
 simp
 refine (xJJ e i).b (n:=9) (by simp [mapOpt]) rfl ?_
 simp
 refine (xKY e i.def (i.number e) he).b (n:=9) (by simp [mapOpt]) (by simp [solids,AV.solid]) ?_
 simp
 exact RK.env rfl
theorem Env.set_small {e:Env} (h:e.small) (i:Int) (v:Val):(e.set i v).small:=by
 intro l hl
 cases e with
 | none=>simp [Env.set,Env.own] at hl
 | some m =>
  simp [Env.set,Env.own] at hl
  have:=h m rfl
  have h2:=xDr m 0
  subst hl
  split <;> simp <;> omega
def pastL (e:Env) (l:List Ins):Env:=l.foldl (fun e i=>i.flat e) e
theorem xKZ {l:List Ins}:∀{e:Env},e.small->(pastL e l).small:=by
 induction l with
 | nil=>intro e h;exact h
 | cons i l ih=>intro e h;exact ih (Env.set_small h _ _)
theorem xGw (e:Env) (l:List Ins) (v:AV) (hv:FSl insc 11 v l) (hl:l.length < 2 ^ 40) (he:e.small):Ret P (gl N) false 62 [encE e,v] (encE (pastL e l)):=by
 refine Ret.inF (by kernel_rfl) ?_
 conv=>arg 3;reduce
 simp [hv.len]
 refine W.whileI (fun (k:Nat) F S=>k<=l.length/\F 2=.ptr 0 0 0/\F 4=.ptr 1 0 0/\F 7=v/\F 8=.int .i64 l.length/\F 9=.int .i64 k/\S.obj 0=some (.row 2 [envc (pastL e (l.take k))])/\S.obj 1=some (.row 2 [[.bool false,.nilsl]])/\1 < S.next) (fun k=>l.length - k) ?_ 0 _ _ ?_
 ·rintro k F S ⟨hk,h2,h4,h7,h8,h9,s0,s1,hn⟩
  by_cases hlt:k < l.length
  ·obtain ⟨x,hx⟩:∃ x,l[k]?=some x:=⟨_,xgG hlt⟩
   have e4:=wrapS k (by omega)
   have hst:pastL e (l.take (k + 1))=x.flat (pastL e (l.take k)):=by unfold pastL;rw [xAi _ _ _ _ _ hx]
   simp [h8,h9,hlt]
   simp [h7,h9,hv.idx hx,h2,s0,show ¬ 0=S.next by omega]
   refine (xNa (pastL e (l.take k)) x (xKZ he)).use (n:=9) (by simp [mapOpt]) (by simp [solids,AV.solid]) ?_
   simp [h2,s0,show ¬ 0=S.next by omega,h4,h7,h8,h9,e4]
   exact ⟨k + 1,by omega,by omega,by omega,by rw [hst],by simp [show ¬ 1=S.next by omega,s1],by omega⟩
  ·have:k=l.length:=by omega
   subst this
   simp [h8,h9,h2,s0,h4,s1]
   exact RK.env rfl
 ·simp [pastL]
theorem xJK (x y:Val):eqCells (valc x) (valc y)=decide (x=y):=by
 cases x;cases y
 rw [Bool.eq_iff_iff];simp
theorem xEn (xs ys:List Val) (hl:xs.length < 2 ^ 40) (v w:AV) (hv:FSl valc 2 v xs) (hw:FSl valc 2 w ys):Ret P g false 147 [v,w] (.bool (decide (xs=ys))):=by
 refine Ret.in c147 (by simp) ?_
 simp [k147,hv.len,hw.len]
 by_cases hlen:xs.length=ys.length
 ·simp [hlen,hv.len]
  refine W.whileI (fun (k:Nat) F S=>k<=ys.length/\xs.take k=ys.take k/\F 0=v/\F 1=w/\F 12=.int .i64 ys.length/\F 13=.int .i64 k) (fun k=>ys.length - k) ?_ 0 _ _ ?_
  ·rintro k F S ⟨hk,hp,h0,h1,h12,h13⟩
   by_cases hlt:k < ys.length
   ·simp [h12,h13,hlt]
    refine Dra.auto [] mix ?_ ?_
    ·kernel_rfl
    obtain ⟨y,hy⟩:∃ y,ys[k]?=some y:=⟨_,xgG (by omega)⟩
    obtain ⟨x,hx⟩:∃ x,xs[k]?=some x:=⟨_,xgG (by omega)⟩
    have e4:=wrapS k (by omega)
    have hc:=xJK x y
    simp at hc
    simp [classes,h0,h1,h12,h13,hv.idx hx,hw.idx hy,hc]
    refine xFH (fun hxy=>?_) (fun hxy=>?_)
    ·simp [hxy]
     refine RK.eq ?_ rfl
     have:xs ≠ ys:=by rintro rfl;rw [hx] at hy;simp at hy;exact hxy hy
     simp [this]
    ·simp [hxy,e4,h13,h12,h0,h1]
     refine ⟨k + 1,by omega,by omega,?_,by omega⟩
     rw [List.take_add_one,List.take_add_one,hp,hx,hy]
     have:x=y:=hxy
     subst this;rfl
   ·have:k=ys.length:=by omega
    subst this
    simp [h12,h13]
    refine RK.eq ?_ rfl
    rw [List.take_length,<- hlen,List.take_length] at hp
    simp [hp]
  ·simp
 ·have hne:xs ≠ ys:=fun h=>hlen (by rw [h])
  have hlen':¬ ((xs.length:Int)=ys.length):=by omega
  simp [hlen']
  exact RK.eq (by simp [hne]) rfl
theorem xK0 (a b:Env) (ha:a.small):Ret P g false 103 [encE a,encE b] (.bool (decide (a=b))):=by
 refine Ret.inF (by kernel_rfl) ?_
 conv=>arg 3;reduce
 simp
 cases a with
 | none =>
  cases b with
  | none =>
   simp
   refine (xEn [] [] (by simp) .nilsl .nilsl .nil .nil).use (n:=9) ?_ rfl ?_ <;> simp
   exact RK.eq rfl rfl
  | some m =>
   simp
   exact RK.eq rfl rfl
 | some l =>
  have hl:=ha l rfl
  cases b with
  | none =>
   simp
   exact RK.eq rfl rfl
  | some m =>
   simp
   refine (xEn l m (by omega) _ _ .mk .mk).use (n:=9) ?_ rfl ?_ <;> simp
   exact RK.eq rfl rfl
end Go.Proofs.YtnhfofmhkfdpgaaGreatDoor.Vm
namespace Go.Proofs.YtnhfofmhkfdpgaaGreatDoor.Vm
open Go Go.RowKit
theorem Val.cases {v:Val} (h:v.ok=true):v=⟨0,0⟩ \/ v=⟨2,0⟩ \/ ∃ c,v=⟨1,c⟩:=by
 obtain ⟨k,c⟩:=v
 unfold Val.ok at h
 simp only at h
 split at h
 ·rename_i hk;subst hk;exact .inr (.inr ⟨c,rfl⟩)
 ·split at h
  ·rename_i h1 hk
   simp only [decide_eq_true_eq] at h
   subst h
   rcases hk with rfl | rfl
   ·exact .inl rfl
   ·exact .inr (.inl rfl)
  ·cases h
theorem Val.join_of {a b:Val} (ha:a.ok=true) (hb:b.ok=true):a.join b=if a.k=0 \/ a=b then b else if b.k=0 then a else ⟨2,0⟩:=by
 unfold Val.join;rw [Val.sane_of ha,Val.sane_of hb]
def Val.le (a b:Val):Prop:=a.k=0 \/ b.k=2 \/ a=b
theorem Val.le_refl (a:Val):a.le a:=.inr (.inr rfl)
theorem Val.ok_top {v:Val} (h:v.ok=true) (hk:v.k=2):v=⟨2,0⟩:=by
 rcases Val.cases h with rfl | rfl | ⟨c,rfl⟩
 ·cases hk
 ·rfl
 ·cases hk
theorem Val.le_trans {a b c:Val} (hb:b.ok=true) (h1:a.le b) (h2:b.le c):a.le c:=by
 rcases h1 with h1 | h1 | h1
 ·exact .inl h1
 ·rcases h2 with h2 | h2 | h2
  ·rw [h1] at h2;cases h2
  ·exact .inr (.inl h2)
  ·rw [<- h2];exact .inr (.inl h1)
 ·rw [h1];exact h2
theorem Val.le_anti {a b:Val} (ha:a.ok=true) (hb:b.ok=true) (h1:a.le b) (h2:b.le a):a=b:=by
 rcases h1 with h1 | h1 | h1
 ·rcases h2 with h2 | h2 | h2
  ·rw [Val.ok_bot ha h1,Val.ok_bot hb h2]
  ·rw [h1] at h2;cases h2
  ·exact h2.symm
 ·rcases h2 with h2 | h2 | h2
  ·rw [h1] at h2;cases h2
  ·rw [Val.ok_top ha h2,Val.ok_top hb h1]
  ·exact h2.symm
 ·exact h1
theorem Val.join_ok {a b:Val} (ha:a.ok=true) (hb:b.ok=true):(a.join b).ok=true:=by
 rw [Val.join_of ha hb]
 split
 ·exact hb
 ·split
  ·exact ha
  ·rfl
theorem Val.join_ok' (a b:Val):(a.join b).ok=true:=by
 unfold Val.join
 split
 ·exact b.sane_ok
 ·split
  ·exact a.sane_ok
  ·rfl
theorem Val.le_join_l {a b:Val} (ha:a.ok=true) (hb:b.ok=true):a.le (a.join b):=by
 rw [Val.join_of ha hb]
 split
 ·rename_i h
  rcases h with h | h
  ·exact .inl h
  ·exact .inr (.inr h)
 ·split
  ·exact Val.le_refl a
  ·exact .inr (.inl rfl)
theorem Val.le_join_r {a b:Val} (ha:a.ok=true) (hb:b.ok=true):b.le (a.join b):=by
 rw [Val.join_of ha hb]
 split
 ·exact Val.le_refl b
 ·split
  ·rename_i h;exact .inl h
  ·exact .inr (.inl rfl)
theorem Val.join_le {a b c:Val} (ha:a.ok=true) (hb:b.ok=true) (hc:c.ok=true) (h1:a.le c) (h2:b.le c):(a.join b).le c:=by
 rw [Val.join_of ha hb]
 split
 ·exact h2
 ·split
  ·exact h1
  ·rename_i h3 h4
   rcases h1 with h1 | h1 | h1
   ·exact absurd (.inl h1) h3
   ·exact .inr (.inl h1)
   ·rcases h2 with h2 | h2 | h2
    ·exact absurd h2 h4
    ·exact .inr (.inl h2)
    ·exact absurd (.inr (h1.trans h2.symm)) h3
theorem Val.join_mono {a b a' b':Val} (ha:a.ok=true) (hb:b.ok=true) (ha':a'.ok=true) (hb':b'.ok=true) (h1:a.le a') (h2:b.le b'):(a.join b).le (a'.join b') :=
 Val.join_le ha hb (Val.join_ok ha' hb') (Val.le_trans ha' h1 (Val.le_join_l ha' hb')) (Val.le_trans hb' h2 (Val.le_join_r ha' hb'))
theorem Val.leq_iff {a b:Val} (ha:a.ok=true) (hb:b.ok=true):a.leq b=true ↔ a.le b:=by
 unfold Val.leq
 rw [decide_eq_true_eq,Val.sane_of hb]
 constructor
 ·intro h;rw [<- h];exact Val.le_join_l ha hb
 ·intro h
  exact Val.le_anti (Val.join_ok ha hb) hb (Val.join_le ha hb hb h (Val.le_refl b)) (Val.le_join_r ha hb)
theorem Val.each_of {op:Int->Int->Int} {a b:Val} (ha:a.ok=true) (hb:b.ok=true):a.each op b=if a.k=0 \/ b.k=0 then ⟨0,0⟩ else if a.k=2 \/ b.k=2 then ⟨2,0⟩ else ⟨1,wrap32 (op a.c b.c)⟩:=by
 unfold Val.each;rw [Val.sane_of ha,Val.sane_of hb]
theorem Val.one_ok (n:Int):(⟨1,wrap32 n⟩:Val).ok=true:=by
 have:=xBJ n
 simp [Val.ok,this]
theorem Val.each_ok (op:Int->Int->Int) (a b:Val):(a.each op b).ok=true:=by
 unfold Val.each
 split
 ·rfl
 ·split
  ·rfl
  ·exact Val.one_ok _
theorem Val.each_mono {op:Int->Int->Int} {a b a' b':Val} (ha:a.ok=true) (hb:b.ok=true) (ha':a'.ok=true) (hb':b'.ok=true) (h1:a.le a') (h2:b.le b'):(a.each op b).le (a'.each op b'):=by
 have e3:=Val.each_of (op:=op) ha' hb'
 rw [Val.each_of ha hb]
 by_cases h0:a.k=0 \/ b.k=0
 ·rw [if_pos h0];exact .inl rfl
 ·rw [if_neg h0]
  have n1:a'.k ≠ 0:=by
   intro h
   rcases h1 with h1 | h1 | h1
   ·exact h0 (.inl h1)
   ·rw [h] at h1;cases h1
   ·rw [<- h1] at h;exact h0 (.inl h)
  have n2:b'.k ≠ 0:=by
   intro h
   rcases h2 with h2 | h2 | h2
   ·exact h0 (.inr h2)
   ·rw [h] at h2;cases h2
   ·rw [<- h2] at h;exact h0 (.inr h)
  rw [if_neg (fun h=>h.elim n1 n2)] at e3
  by_cases h3:a'.k=2 \/ b'.k=2
  ·rw [if_pos h3] at e3
   rw [e3];exact .inr (.inl rfl)
  ·rw [if_neg h3] at e3
   rw [e3]
   have e1:a=a':=by
    rcases h1 with h1 | h1 | h1
    ·exact absurd (.inl h1) h0
    ·exact absurd (.inl h1) h3
    ·exact h1
   have e2:b=b':=by
    rcases h2 with h2 | h2 | h2
    ·exact absurd (.inr h2) h0
    ·exact absurd (.inr h2) h3
    ·exact h2
   subst e1;subst e2
   rw [if_neg h3]
   exact Val.le_refl _
theorem Val.le_k {a b:Val} (ha:a.ok=true) (hb:b.ok=true) (h:a.le b):a.k.toNat<=b.k.toNat/\(a ≠ b->a.k.toNat < b.k.toNat)/\b.k.toNat<=2:=by
 rcases Val.cases ha with rfl | rfl | ⟨c,rfl⟩ <;> rcases Val.cases hb with rfl | rfl | ⟨d,rfl⟩ <;> simp [Val.le] at h ⊢
 exact h
def okL (l:List Val):Prop:=∀v ∈ l,v.ok=true
theorem xCp {l:List Val} (h:okL l) {k:Nat} {v:Val} (hv:l[k]?=some v):getL l (k:Int)=v:=by
 have hk:=(xgS hv).1
 unfold getL
 rw [if_pos (by omega)]
 simp only [Int.toNat_natCast,List.getD_eq_getElem?_getD,hv,Option.getD_some]
 exact Val.sane_of (h v (xmG hv))
theorem xK1 (l:List Val) (i:Int):(getL l i).ok=true:=by
 unfold getL
 split
 ·exact Val.sane_ok _
 ·rfl
theorem xS2 {l:List Val} (h:okL l):ownL l 0=l:=by
 apply List.ext_getElem?
 intro k
 by_cases hk:k < l.length
 ·obtain ⟨v,hv⟩:∃ v,l[k]?=some v:=⟨_,xgG hk⟩
  rw [xJG l 0 (by omega),xCp h hv,hv]
 ·rw [List.getElem?_eq_none (by rw [xDr];omega),List.getElem?_eq_none (by omega)]
def leL (l m:List Val):Prop:=∀(k:Nat) (a b:Val),l[k]?=some a->m[k]?=some b->a.le b
theorem xO2 {l m:List Val} (hl:okL l) (hm:okL m) (hn:l.length=m.length) (h:leL l m) (i:Int):(getL l i).le (getL m i):=by
 by_cases hi:0<=i/\i < l.length
 ·obtain ⟨k,rfl⟩:∃ k:Nat,i=(k:Int):=⟨i.toNat,by omega⟩
  obtain ⟨a,ha⟩:∃ v,l[k]?=some v:=⟨_,xgG (by omega)⟩
  obtain ⟨b,hb⟩:∃ v,m[k]?=some v:=⟨_,xgG (by omega)⟩
  rw [xCp hl ha,xCp hm hb]
  exact h k a b ha hb
 ·have e:getL l i=Val.zero:=by unfold getL;rw [if_neg hi]
  rw [e];exact .inl rfl
def Env.fit (n:Nat) (e:Env):Prop:=∀l,e=some l->l.length=n/\okL l
def Env.le (a b:Env):Prop:=∀l,a=some l->∃ m,b=some m/\leL l m
theorem Env.fit_none (n:Nat):Env.fit n none:=fun l h=>by cases h
theorem Env.fit_some {n:Nat} {l:List Val} (h1:l.length=n) (h2:okL l):Env.fit n (some l):=fun m h=>by cases h;exact ⟨h1,h2⟩
theorem Env.fit.small {n:Nat} {e:Env} (h:e.fit n) (hn:n < 2 ^ 20):e.small:=fun l hl=>by have:=(h l hl).1;omega
theorem Env.own_of {n:Nat} {e:Env} (h:e.fit n):e.own=e:=by
 cases e with
 | none=>rfl
 | some l=>simp [Env.own,xS2 (h l rfl).2]
theorem Env.le_refl (e:Env):e.le e:=fun l h=>⟨l,h,fun k a b ha hb=>by rw [ha] at hb;cases hb;exact Val.le_refl a⟩
theorem Env.le_none (e:Env):Env.le none e:=fun l h=>by cases h
theorem Env.le_trans {n:Nat} {a b c:Env} (hb:b.fit n) (hc:c.fit n) (h1:a.le b) (h2:b.le c) (ha:a.fit n):a.le c:=by
 intro l hl
 obtain ⟨m,hm,h3⟩:=h1 l hl
 obtain ⟨q,hq,h4⟩:=h2 m hm
 refine ⟨q,hq,fun k x z hx hz=>?_⟩
 have hk:=(xgS hx).1
 have e1:=(ha l hl).1
 have e2:=(hb m hm).1
 obtain ⟨y,hy⟩:∃ v,m[k]?=some v:=⟨_,xgG (by omega)⟩
 exact Val.le_trans ((hb m hm).2 y (xmG hy)) (h3 k x y hx hy) (h4 k y z hy hz)
theorem Env.le_anti {n:Nat} {a b:Env} (ha:a.fit n) (hb:b.fit n) (h1:a.le b) (h2:b.le a):a=b:=by
 cases a with
 | none =>
  cases b with
  | none=>rfl
  | some m=>obtain ⟨l,hl,_⟩:=h2 m rfl;cases hl
 | some l =>
  obtain ⟨m,hm,h3⟩:=h1 l rfl
  subst hm
  obtain ⟨l',hl',h4⟩:=h2 m rfl
  cases hl'
  congr 1
  have e1:=(ha l rfl).1
  have e2:=(hb m rfl).1
  apply List.ext_getElem?
  intro k
  by_cases hk:k < n
  ·obtain ⟨x,hx⟩:∃ v,l[k]?=some v:=⟨_,xgG (by omega)⟩
   obtain ⟨y,hy⟩:∃ v,m[k]?=some v:=⟨_,xgG (by omega)⟩
   rw [hx,hy,Val.le_anti ((ha l rfl).2 x (xmG hx)) ((hb m rfl).2 y (xmG hy)) (h3 k x y hx hy) (h4 k y x hy hx)]
  ·rw [List.getElem?_eq_none (by omega),List.getElem?_eq_none (by omega)]
theorem xGx {l m:List Val} {n:Nat} (hl:l.length=n) (hm:m.length=n) {k:Nat} (hk:k < n):(joinL l m)[k]?=some ((getL l k).join (getL m k)):=by
 simp [joinL,hl,hm,hk]
theorem Env.join_fit {n:Nat} {a b:Env} (ha:a.fit n) (hb:b.fit n):(a.join b).fit n:=by
 cases a with
 | none=>show Env.fit n b.own;rw [Env.own_of hb];exact hb
 | some l =>
  cases b with
  | none=>show Env.fit n (Env.own (some l));rw [Env.own_of ha];exact ha
  | some m =>
   refine Env.fit_some ?_ fun v hv=>?_
   ·simp [joinL,(ha l rfl).1,(hb m rfl).1]
   ·simp only [joinL,List.mem_map] at hv
    obtain ⟨k,_,rfl⟩:=hv
    exact Val.join_ok' _ _
theorem Env.le_join_l {n:Nat} {a b:Env} (ha:a.fit n) (hb:b.fit n):a.le (a.join b):=by
 cases a with
 | none=>exact Env.le_none _
 | some l =>
  cases b with
  | none=>show Env.le (some l) (Env.own (some l));rw [Env.own_of ha];exact Env.le_refl _
  | some m =>
   intro l' hl'
   cases hl'
   refine ⟨joinL l m,rfl,fun k x z hx hz=>?_⟩
   have hk:=(xgS hx).1
   rw [xGx (ha l rfl).1 (hb m rfl).1 (by have:=(ha l rfl).1;omega),xCp (ha l rfl).2 hx] at hz
   cases hz
   exact Val.le_join_l ((ha l rfl).2 x (xmG hx)) (xK1 _ _)
theorem Env.le_join_r {n:Nat} {a b:Env} (ha:a.fit n) (hb:b.fit n):b.le (a.join b):=by
 cases a with
 | none=>show Env.le b b.own;rw [Env.own_of hb];exact Env.le_refl _
 | some l =>
  cases b with
  | none=>exact Env.le_none _
  | some m =>
   intro l' hl'
   cases hl'
   refine ⟨joinL l m,rfl,fun k x z hx hz=>?_⟩
   have hk:=(xgS hx).1
   rw [xGx (ha l rfl).1 (hb m rfl).1 (by have:=(hb m rfl).1;omega),xCp (hb m rfl).2 hx] at hz
   cases hz
   exact Val.le_join_r (xK1 _ _) ((hb m rfl).2 x (xmG hx))
theorem Env.join_le {n:Nat} {a b c:Env} (ha:a.fit n) (hb:b.fit n) (hc:c.fit n) (h1:a.le c) (h2:b.le c):(a.join b).le c:=by
 cases a with
 | none=>show Env.le b.own c;rw [Env.own_of hb];exact h2
 | some l =>
  cases b with
  | none=>show Env.le (Env.own (some l)) c;rw [Env.own_of ha];exact h1
  | some m =>
   intro l' hl'
   cases hl'
   obtain ⟨q,hq,h3⟩:=h1 l rfl
   obtain ⟨q',hq',h4⟩:=h2 m rfl
   rw [hq] at hq';cases hq'
   refine ⟨q,hq,fun k x z hx hz=>?_⟩
   have hk:=(xgS hz).1
   have e1:=(ha l rfl).1
   have e2:=(hb m rfl).1
   have e3:=(hc q hq).1
   obtain ⟨u,hu⟩:∃ v,l[k]?=some v:=⟨_,xgG (by omega)⟩
   obtain ⟨v,hv⟩:∃ v,m[k]?=some v:=⟨_,xgG (by omega)⟩
   rw [xGx e1 e2 (by omega),xCp (ha l rfl).2 hu,xCp (hb m rfl).2 hv] at hx
   cases hx
   exact Val.join_le ((ha l rfl).2 u (xmG hu)) ((hb m rfl).2 v (xmG hv)) ((hc q hq).2 z (xmG hz)) (h3 k u z hu hz) (h4 k v z hv hz)
theorem Env.join_mono {n:Nat} {a b a' b':Env} (ha:a.fit n) (hb:b.fit n) (ha':a'.fit n) (hb':b'.fit n) (h1:a.le a') (h2:b.le b'):(a.join b).le (a'.join b') :=
 Env.join_le ha hb (Env.join_fit ha' hb') (Env.le_trans ha' (Env.join_fit ha' hb') h1 (Env.le_join_l ha' hb') ha) (Env.le_trans hb' (Env.join_fit ha' hb') h2 (Env.le_join_r ha' hb') hb)
theorem Env.get_ok (e:Env) (i:Int):(e.get i).ok=true:=by
 cases e with
 | none=>rfl
 | some l=>exact xK1 l i
theorem Env.get_mono {n:Nat} {a b:Env} (ha:a.fit n) (hb:b.fit n) (h:a.le b) (i:Int):(a.get i).le (b.get i):=by
 cases a with
 | none=>exact .inl rfl
 | some l =>
  obtain ⟨m,hm,h3⟩:=h l rfl
  subst hm
  exact xO2 (ha l rfl).2 (hb m rfl).2 (by rw [(ha l rfl).1,(hb m rfl).1]) h3 i
theorem Env.set_of {n:Nat} {l:List Val} (h:Env.fit n (some l)) (i:Int) {v:Val} (hv:v.ok=true):Env.set (some l) i v=some (if 0<=i/\i < n then l.set i.toNat v else l):=by
 show Option.map _ (Env.own (some l))=_
 rw [Env.own_of h]
 simp [Val.sane_of hv,(h l rfl).1]
theorem Env.set_fit {n:Nat} {e:Env} (h:e.fit n) (i:Int) {v:Val} (hv:v.ok=true):(e.set i v).fit n:=by
 cases e with
 | none=>exact Env.fit_none n
 | some l =>
  rw [Env.set_of h i hv]
  refine Env.fit_some ?_ fun u hu=>?_
  ·split <;> simp [(h l rfl).1]
  ·split at hu
   ·rcases List.mem_or_eq_of_mem_set hu with h1 | h1
    ·exact (h l rfl).2 u h1
    ·rw [h1];exact hv
   ·exact (h l rfl).2 u hu
theorem Env.set_mono {n:Nat} {a b:Env} (ha:a.fit n) (hb:b.fit n) (h:a.le b) (i:Int) {u v:Val} (hu:u.ok=true) (hv:v.ok=true) (huv:u.le v):(a.set i u).le (b.set i v):=by
 cases a with
 | none=>exact Env.le_none _
 | some l =>
  obtain ⟨m,hm,h3⟩:=h l rfl
  subst hm
  rw [Env.set_of ha i hu,Env.set_of hb i hv]
  intro l' hl'
  cases hl'
  refine ⟨_,rfl,fun k x y hx hy=>?_⟩
  by_cases hi:0<=i/\i < n
  ·rw [if_pos hi] at hx hy
   by_cases hk:k=i.toNat
   ·subst hk
    rw [List.getElem?_set_self (by rw [(ha l rfl).1];omega)] at hx
    rw [List.getElem?_set_self (by rw [(hb m rfl).1];omega)] at hy
    cases hx;cases hy;exact huv
   ·rw [List.getElem?_set_ne (Ne.symm hk)] at hx hy
    exact h3 k x y hx hy
  ·rw [if_neg hi] at hx hy
   exact h3 k x y hx hy
theorem Ins.number_ok (i:Ins) (e:Env):(i.number e).ok=true:=by
 unfold Ins.number
 repeat' split
 all_goals first | exact Val.one_ok _ | exact Env.get_ok _ _ | exact Val.each_ok _ _ _ | rfl
theorem Ins.number_mono {n:Nat} {a b:Env} (ha:a.fit n) (hb:b.fit n) (h:a.le b) (i:Ins):(i.number a).le (i.number b):=by
 have g1:=Env.get_mono ha hb h i.a
 have g2:=Env.get_mono ha hb h i.b
 have o1:=Env.get_ok a i.a
 have o2:=Env.get_ok a i.b
 have o3:=Env.get_ok b i.a
 have o4:=Env.get_ok b i.b
 unfold Ins.number
 repeat' split
 all_goals first | exact Val.le_refl _ | exact g1 | exact Val.each_mono (Val.one_ok _) o1 (Val.one_ok _) o3 (Val.le_refl _) g1 | exact Val.each_mono o1 o2 o3 o4 g1 g2
theorem Ins.flat_fit {n:Nat} {e:Env} (h:e.fit n) (i:Ins):(i.flat e).fit n:=Env.set_fit h _ (i.number_ok e)
theorem Ins.flat_mono {n:Nat} {a b:Env} (ha:a.fit n) (hb:b.fit n) (h:a.le b) (i:Ins):(i.flat a).le (i.flat b):=Env.set_mono ha hb h _ (i.number_ok a) (i.number_ok b) (i.number_mono ha hb h)
theorem xBN {n:Nat} {l:List Ins}:∀{e:Env},e.fit n->(pastL e l).fit n:=by
 induction l with
 | nil=>intro e h;exact h
 | cons i l ih=>intro e h;exact ih (i.flat_fit h)
theorem xNb {n:Nat} {l:List Ins}:∀{a b:Env},a.fit n->b.fit n->a.le b->(pastL a l).le (pastL b l):=by
 induction l with
 | nil=>intro a b _ _ h;exact h
 | cons i l ih=>intro a b ha hb h;exact ih (i.flat_fit ha) (i.flat_fit hb) (i.flat_mono ha hb h)
theorem xJL (par vars:Int):okL (startL par vars):=by
 intro v hv
 simp only [startL,List.mem_map] at hv
 obtain ⟨k,_,rfl⟩:=hv
 split <;> rfl
def Env.ht:Env->Nat
 | none=>0
 | some l=>1 + (l.map fun v:Val=>v.k.toNat).sum
theorem htL {l m:List Val} (hl:okL l) (hm:okL m) (hn:l.length=m.length) (h:leL l m):(l.map fun v:Val=>v.k.toNat).sum<=(m.map fun v:Val=>v.k.toNat).sum/\(l ≠ m->(l.map fun v:Val=>v.k.toNat).sum < (m.map fun v:Val=>v.k.toNat).sum)/\(m.map fun v:Val=>v.k.toNat).sum<=2 * m.length:=by
 induction l generalizing m with
 | nil =>
  cases m with
  | nil=>simp
  | cons b m=>simp at hn
 | cons a l ih =>
  cases m with
  | nil=>simp at hn
  | cons b m =>
   obtain ⟨h1,h2,h3⟩:=ih (m:=m) (fun v hv=>hl v (by simp [hv])) (fun v hv=>hm v (by simp [hv])) (by simpa using hn) fun k x y hx hy=>h (k + 1) x y (by simpa using hx) (by simpa using hy)
   obtain ⟨g1,g2,g3⟩:=Val.le_k (hl a (by simp)) (hm b (by simp)) (h 0 a b rfl rfl)
   simp only [List.map_cons,List.sum_cons,List.length_cons]
   refine ⟨by omega,fun hne=>?_,by omega⟩
   by_cases hab:a=b
   ·have:l ≠ m:=fun e=>hne (by rw [hab,e])
    have:=h2 this
    omega
   ·have:=g2 hab
    omega
end Go.Proofs.YtnhfofmhkfdpgaaGreatDoor.Vm
