/- A part of the proof: Ra Rc Rd Re. -/
import Derived.Test.YtbhkamemheaajaaGreatDoorQ24
set_option linter.unusedVariables false
set_option linter.unusedSimpArgs false
set_option linter.constructorNameAsVariable false
namespace Go.Proofs.YtbhkamemheaajaaGreatDoor.Vm
open Go Go.RowKit
structure Sys (α:Type) where
 n:Nat
 ev:List α→Nat→α
 rd:Nat→List Int
 ok:α→Prop
 le:α→α→Prop
 bot:α
 ht:α→Nat
 top:Nat
 refl:∀a,ok a→le a a
 trans:∀a b c,ok a→ok b→ok c→le a b→le b c→le a c
 anti:∀a b,ok a→ok b→le a b→le b a→a=b
 botOk:ok bot
 botLe:∀a,ok a→le bot a
 htop:∀a,ok a→ht a≤top
 hlt:∀a b,ok a→ok b→le a b→a ≠ b→ht a < ht b
 evOk:∀x i,x.length=n→(∀a ∈ x,ok a)→i < n→ok (ev x i)
 mono:∀x y i,x.length=n→y.length=n→(∀a ∈ x,ok a)→(∀a ∈ y,ok a)→(∀(k:Nat) a b,x[k]?=some a→y[k]?=some b→le a b)→i < n→le (ev x i) (ev y i)
 dep:∀x i (k:Nat) a,(∀j ∈ rd i,j.toNat ≠ k)→ev (x.set k a) i=ev x i
 nn:∀i,∀j ∈ rd i,0≤j
variable {α:Type} (Y:Sys α)
structure Sys.Fit (x:List α):Prop where
 len:x.length=Y.n
 ok:∀a ∈ x,Y.ok a
def Sys.Post (y:List α):Prop:=Y.Fit y∧∀(i:Nat) a,y[i]?=some a→Y.le (Y.ev y i) a
structure Sys.Mid (x:List α) (T:Nat→Prop):Prop where
 fit:Y.Fit x
 low:∀y,Y.Post y→∀(i:Nat) a b,x[i]?=some a→y[i]?=some b→Y.le a b
 pre:∀(i:Nat) a,x[i]?=some a→Y.le a (Y.ev x i)
 fix:∀(i:Nat) a,x[i]?=some a→¬ T i→a=Y.ev x i
variable {Y}
theorem Sys.Fit.at {x:List α} (h:Y.Fit x) {i:Nat} (hi:i < Y.n):∃ a,x[i]?=some a∧Y.ok a:=by
 have hl:i < x.length:=by rw [h.len];exact hi
 exact ⟨x[i],List.getElem?_eq_getElem hl,h.ok _ (List.getElem_mem _)⟩
theorem Sys.Fit.lt {x:List α} (h:Y.Fit x) {i:Nat} {a:α} (ha:x[i]?=some a):i < Y.n∧Y.ok a:=⟨by rw [← h.len];exact (List.getElem?_eq_some_iff.1 ha).1,h.ok a (List.mem_of_getElem? ha)⟩
theorem Sys.Fit.ev {x:List α} (h:Y.Fit x) {i:Nat} (hi:i < Y.n):Y.ok (Y.ev x i):=Y.evOk x i h.len h.ok hi
theorem Sys.Fit.set {x:List α} (h:Y.Fit x) {i:Nat} {a:α} (ha:Y.ok a):Y.Fit (x.set i a):=by
 refine ⟨by simp [h.len],fun b hb=>?_⟩
 rcases List.mem_or_eq_of_mem_set hb with h1 | h1
 ·exact h.ok b h1
 ·rw [h1];exact ha
theorem Sys.Mid.start:Y.Mid (List.replicate Y.n Y.bot) (fun i=>i < Y.n):=by
 have hm:∀(i:Nat) a,(List.replicate Y.n Y.bot)[i]?=some a→a=Y.bot:=fun i a h=>by
  have:=List.mem_of_getElem? h
  rw [List.mem_replicate] at this
  exact this.2
 have hf:Y.Fit (List.replicate Y.n Y.bot):=⟨by simp,fun a ha=>by rw [List.mem_replicate] at ha;rw [ha.2];exact Y.botOk⟩
 refine ⟨hf,fun y hy i a b ha hb=>?_,fun i a ha=>?_,fun i a ha hT=>?_⟩
 ·rw [hm i a ha];exact Y.botLe b (hy.1.ok b (List.mem_of_getElem? hb))
 ·rw [hm i a ha];exact Y.botLe _ (hf.ev (hf.lt ha).1)
 ·exact absurd (hf.lt ha).1 hT
theorem set_same {α:Type} {x:List α} {i:Nat} {a:α} (h:x[i]?=some a):x.set i a=x:=by
 obtain ⟨hlt,h⟩:=List.getElem?_eq_some_iff.1 h
 rw [← h];exact List.set_getElem_self hlt
theorem Sys.Mid.step {x:List α} {T T':Nat→Prop} (h:Y.Mid x T) {i:Nat} {s:α} (hs:x[i]?=some s)
  (hT:∀k,¬ T' k→k=i ∨ ¬ T k) (hr:s ≠ Y.ev x i→∀k,k < Y.n→(i:Int) ∈ Y.rd k→T' k):Y.Mid (x.set i (Y.ev x i)) T':=by
 have hi:=(h.fit.lt hs).1
 have hok:=h.fit.ev hi
 have hil:i < x.length:=by rw [h.fit.len];exact hi
 have hf':=h.fit.set (i:=i) hok
 have hge:∀(k:Nat) a b,x[k]?=some a→(x.set i (Y.ev x i))[k]?=some b→Y.le a b:=fun k a b ha hb=>by
  by_cases hk:k=i
  ·subst hk
   rw [List.getElem?_set_self hil] at hb
   cases hb
   exact h.pre k a ha
  ·rw [List.getElem?_set_ne (Ne.symm hk)] at hb
   rw [ha] at hb;cases hb
   exact Y.refl a (h.fit.lt ha).2
 have hup:∀k,k < Y.n→Y.le (Y.ev x k) (Y.ev (x.set i (Y.ev x i)) k):=fun k hk=>Y.mono _ _ k h.fit.len hf'.len h.fit.ok hf'.ok hge hk
 refine ⟨hf',fun y hy k a b ha hb=>?_,fun k a ha=>?_,fun k a ha hnT=>?_⟩
 ·by_cases hk:k=i
  ·subst hk
   rw [List.getElem?_set_self hil] at ha
   cases ha
   have h1:=Y.mono x y k h.fit.len hy.1.len h.fit.ok hy.1.ok (fun j a b ha hb=>h.low y hy j a b ha hb) hi
   exact Y.trans _ _ _ hok (hy.1.ev hi) (hy.1.lt hb).2 h1 (hy.2 k b hb)
  ·rw [List.getElem?_set_ne (Ne.symm hk)] at ha
   exact h.low y hy k a b ha hb
 ·by_cases hk:k=i
  ·subst hk
   rw [List.getElem?_set_self hil] at ha
   cases ha
   exact hup k hi
  ·rw [List.getElem?_set_ne (Ne.symm hk)] at ha
   have h1:=h.fit.lt ha
   exact Y.trans _ _ _ h1.2 (h.fit.ev h1.1) (hf'.ev h1.1) (h.pre k a ha) (hup k h1.1)
 ·by_cases he:s=Y.ev x i
  ·rw [← he,set_same hs] at ha ⊢
   by_cases hk:k=i
   ·subst hk
    rw [hs] at ha;cases ha
    exact he
   ·exact h.fix k a ha ((hT k hnT).resolve_left hk)
  ·have hkn:=(hf'.lt ha).1
   have hno:∀j ∈ Y.rd k,j.toNat ≠ i:=by
    intro j hj e
    have:=Y.nn k j hj
    exact hnT (hr he k hkn (by rw [← e,Int.toNat_of_nonneg this];exact hj))
   rw [Y.dep x k i _ hno]
   by_cases hk:k=i
   ·subst hk
    rw [List.getElem?_set_self hil] at ha
    cases ha;rfl
   ·rw [List.getElem?_set_ne (Ne.symm hk)] at ha
    exact h.fix k a ha ((hT k hnT).resolve_left hk)
structure Sys.Least (Y:Sys α) (x:List α):Prop where
 fit:Y.Fit x
 fix:∀(i:Nat) a,x[i]?=some a→a=Y.ev x i
 low:∀y,Y.Post y→∀(i:Nat) a b,x[i]?=some a→y[i]?=some b→Y.le a b
theorem Sys.Mid.done {x:List α} {T:Nat→Prop} (h:Y.Mid x T) (hT:∀k,¬ T k):Y.Least x:=⟨h.fit,fun i a ha=>h.fix i a ha (hT i),h.low⟩
theorem Sys.Least.post {x:List α} (h:Y.Least x):Y.Post x:=⟨h.fit,fun i a ha=>by
 have:=h.fix i a ha
 rw [← this]
 exact Y.refl a (h.fit.lt ha).2⟩
theorem Sys.Least.eq {x y:List α} (h:Y.Least x) (h':Y.Least y):x=y:=by
 apply List.ext_getElem?
 intro i
 by_cases hi:i < Y.n
 ·obtain ⟨a,ha,ka⟩:=h.fit.at hi
  obtain ⟨b,hb,kb⟩:=h'.fit.at hi
  rw [ha,hb,Y.anti a b ka kb (h.low y h'.post i a b ha hb) (h'.low x h.post i b a hb ha)]
 ·rw [List.getElem?_eq_none (by rw [h.fit.len];omega),List.getElem?_eq_none (by rw [h'.fit.len];omega)]
noncomputable def Sys.sol (Y:Sys α):List α:=open Classical in if h:∃ x,Y.Least x then h.choose else []
theorem Sys.Least.sol {x:List α} (h:Y.Least x):x=Y.sol:=by
 unfold Sys.sol
 rw [dif_pos ⟨x,h⟩]
 exact h.eq (Exists.choose_spec (⟨x,h⟩:∃ x,Y.Least x))
def Sys.gap (Y:Sys α) (x:List α):Nat:=(x.map fun a=>Y.top - Y.ht a).sum
theorem Sys.gap_set {x:List α} (hx:∀a ∈ x,Y.ok a) {i:Nat} {s t:α} (hs:x[i]?=some s) (ht:Y.ok t) (hle:Y.le s t) (hne:s ≠ t):Y.gap (x.set i t) < Y.gap x:=by
 have hso:=hx s (List.mem_of_getElem? hs)
 have h1:=Y.hlt s t hso ht hle hne
 have h2:=Y.htop t ht
 unfold Sys.gap
 clear hx
 induction x generalizing i with
 | nil=>simp at hs
 | cons a x ih =>
  cases i with
  | zero =>
   simp at hs;subst hs
   simp only [List.set_cons_zero,List.map_cons,List.sum_cons]
   omega
  | succ i =>
   simp only [List.set_cons_succ,List.map_cons,List.sum_cons]
   have:=ih (by simpa using hs)
   omega
theorem Sys.Mid.ends:∀(m:Nat) {x:List α},Y.Mid x (fun _=>True)→Y.gap x≤m→∃ x,Y.Least x:=by
 intro m
 induction m with
 | zero =>
  intro x h hm
  by_cases hall:∀(i:Nat) a,x[i]?=some a→a=Y.ev x i
  ·exact ⟨x,h.fit,hall,h.low⟩
  ·have:∃ (i:Nat) (a:α),x[i]?=some a∧a ≠ Y.ev x i:=Classical.byContradiction fun hno=>hall fun i a ha=>Classical.byContradiction fun hne=>hno ⟨i,a,ha,hne⟩
   obtain ⟨i,a,ha,hne⟩:=this
   have:=Y.gap_set h.fit.ok ha (h.fit.ev (h.fit.lt ha).1) (h.pre i a ha) hne
   omega
 | succ m ih =>
  intro x h hm
  by_cases hall:∀(i:Nat) a,x[i]?=some a→a=Y.ev x i
  ·exact ⟨x,h.fit,hall,h.low⟩
  ·have:∃ (i:Nat) (a:α),x[i]?=some a∧a ≠ Y.ev x i:=Classical.byContradiction fun hno=>hall fun i a ha=>Classical.byContradiction fun hne=>hno ⟨i,a,ha,hne⟩
   obtain ⟨i,a,ha,hne⟩:=this
   have:=Y.gap_set h.fit.ok ha (h.fit.ev (h.fit.lt ha).1) (h.pre i a ha) hne
   exact ih (h.step (T':=fun _=>True) ha (fun k hk=>absurd trivial hk) fun _ _ _ _=>trivial) (by omega)
theorem Sys.least (Y:Sys α):Y.Least Y.sol:=by
 obtain ⟨x,hx⟩:=Sys.Mid.ends (Y.gap (List.replicate Y.n Y.bot)) (Y:=Y) (x:=List.replicate Y.n Y.bot) (by
  have:=Sys.Mid.start (Y:=Y)
  exact ⟨this.fit,this.low,this.pre,fun i a ha h=>absurd trivial h⟩) (Nat.le_refl _)
 rw [← hx.sol];exact hx
end Go.Proofs.YtbhkamemheaajaaGreatDoor.Vm
namespace Go.Proofs.YtbhkamemheaajaaGreatDoor.Vm
open Go Go.RowKit
variable {N:Nat} {g:Glob}
abbrev Env:=Option (List Val)
@[simp] def valc (v:Val):List AV:=[.int .i64 v.k,.int .i64 v.c]
instance:PlainE valc:=⟨fun x=>by simp [valc,AV.stab]⟩
def envc:Env→List AV
 | none=>[.bool false,.nilsl]
 | some l=>[.bool true,.fsl 2 (els valc l)]
@[simp] theorem envc_none:envc none=[.bool false,.nilsl]:=_root_.id rfl
@[simp] theorem envc_some {l:List Val}:envc (some l)=[.bool true,.fsl 2 (els valc l)]:=_root_.id rfl
@[simp] def encE (e:Env):AV:=.agg (envc e)
def opsV:AV:=.agg [.func (.func 127) [] [],.func (.func 128) [] []]
theorem opsV_is:AV.agg [.func (.func 127) [] [],.func (.func 128) [] []]=opsV:=rfl
theorem pict_rowP {α:Type} {e:α→List AV} [PlainE e] {S:St} {o sz k n:Nat} {l:List α} (h:S.obj o=some (.row sz (els e l))) (hk:l.length=k):pict S [] (n + 2) (.sl sz o 0 k)=some (.fsl sz (els e l)):=by
 subst hk
 rw [pict_sl,elems_sl h (by simp)]
 simp [els_take]
def Val.zero:Val:=⟨0,0⟩
theorem Val.sane_ok (v:Val):v.sane.ok=true:=by
 unfold Val.sane
 split
 ·assumption
 ·rfl
theorem Val.sane_of {v:Val} (h:v.ok=true):v.sane=v:=by unfold Val.sane;rw [if_pos h]
theorem Val.ok_bot {v:Val} (h:v.ok=true) (hk:v.k=0):v=Val.zero:=by
 obtain ⟨k,c⟩:=v
 simp only at hk
 subst hk
 simp [Val.ok] at h
 simp [Val.zero,h]
theorem Val.join_zero (v:Val):v.join ⟨0,0⟩=v.sane:=by
 have hz:Val.sane ⟨0,0⟩=⟨0,0⟩:=rfl
 unfold Val.join
 rw [hz]
 split
 ·rename_i h
  rcases h with h | h
  ·exact (Val.ok_bot v.sane_ok h).symm
  ·exact h.symm
 ·rfl
theorem env_flats:Ret P g false 84 [] opsV:=by
 refine Ret.in c84 (by simp) ?_
 simp [k84]
 exact ⟨9,by simp [opsV,pict_func,mapOpt]⟩
theorem env_sane (v:Val):Ret P g false 191 [opsV,encV v] (encV v.sane):=by
 refine Ret.in c191 (by simp) ?_
 simp [k191,opsV]
 refine (flat_Join v ⟨0,0⟩).use (n:=9) ?_ rfl ?_ <;> simp
 exact RK.aggEq (by rw [Val.join_zero]) (by simp [AV.stab])
def getL (l:List Val) (i:Int):Val:=if 0≤i∧i < l.length then (l.getD i.toNat Val.zero).sane else Val.zero
def Env.get (e:Env) (i:Int):Val:=match e with
 | none=>Val.zero
 | some l=>getL l i
@[simp] theorem pict_opsV {S:St} {n:Nat}:pict S [] (n + 3) opsV=some opsV:=by simp [opsV,pict_func]
@[simp] theorem solid_opsV:opsV.solid=true:=by simp [opsV]
@[simp] theorem cells_opsV:opsV.cells=[.func (.func 127) [] [],.func (.func 128) [] []]:=rfl
theorem env_get (e:Env) (i:Int):Ret P g false 129 [opsV,encE e,.int .i64 i] (encV (e.get i)):=by
 refine Ret.in c129 (by simp) ?_
 cases e with
 | none =>
  simp [k129]
  exact RK.agg (by simp [AV.stab])
 | some l =>
  simp [k129]
  refine gua_decF (fun h1=>?_) (fun h1=>?_) <;> simp [h1]
  ·refine bra_dec (fun h2=>?_) (fun h2=>?_) <;> simp [h2]
   ·refine RK.aggEq ?_ (by simp [AV.stab])
    simp only [Env.get,getL]
    rw [if_neg (by omega)];rfl
   ·obtain ⟨k,rfl⟩:∃ k:Nat,i=(k:Int):=⟨i.toNat,by omega⟩
    have hk:k < l.length:=by omega
    obtain ⟨v,hv⟩:∃ v,l[k]?=some v:=⟨_,List.getElem?_eq_getElem hk⟩
    refine Dra.auto [] mix ?_ ?_
    ·kernel_rfl
    simp [classes,pk_indexAddr1,hv]
    refine (env_sane v).b (n:=9) ?_ rfl ?_ <;> simp [opsV_is]
    refine RK.aggEq ?_ (by simp [AV.stab])
    simp only [Env.get,getL]
    rw [if_pos (by omega)]
    simp [List.getD_eq_getElem?_getD,hv]
  ·refine RK.aggEq ?_ (by simp [AV.stab])
   simp only [Env.get,getL]
   rw [if_neg (by omega)];rfl
def ownL (l:List Val) (n:Nat):List Val:=(List.range (max n l.length)).map fun k:Nat=>getL l (k:Int)
theorem ownL_len (l:List Val) (n:Nat):(ownL l n).length=max n l.length:=by simp [ownL]
theorem env_own_none (n:Int):Ret P g false 226 [opsV,encE none,.int .i64 n] (encE none):=by
 refine Ret.in c226 (by simp) ?_
 simp [k226]
 exact RK.agg (by simp [AV.stab])
theorem env_own (l:List Val) (n:Nat) (hl:l.length < 2 ^ 20) (hn:n < 2 ^ 20):Own P g 226 [opsV,encE (some l),.int .i64 (n:Int)] (.agg [.bool true,.sl 2 0 0 (max n l.length)]) (St.ofL [.row 2 (els valc (ownL l n))]):=by
 refine Own.in [3] c226 (by simp) (by simp) ?_
 have hm:max n l.length < 2 ^ 20:=Nat.max_lt.2 ⟨hn,hl⟩
 have hroom:max n l.length≤room:=by simp only [room];omega
 have e1:(if n < l.length then (l.length:Int) else n)=((max n l.length:Nat):Int):=by split <;> omega
 simp [k226,e1]
 have hcast:(max (n:Int) l.length)=((max n l.length:Nat):Int):=by omega
 try simp only [hcast]
 have hol:=ownL_len l n
 generalize hM:max n l.length=m at *
 simp [hroom]
 refine W.whileI (fun (a:Nat) F S=>a≤m∧F 3=.ptr 0 0 0∧F 4=.ptr 1 0 0∧F 6=.ptr 2 0 0∧F 7=.ptr 4 0 0∧F 22=.int .i64 m∧F 23=.int .i64 a∧S.obj 0=some (.row 2 [opsV.cells])∧S.obj 1=some (.row 2 [envc (some l)]) ∧
  S.obj 2=some (.row 2 [[.bool false,.nilsl]])∧S.obj 4=some (.row 2 [[.bool true,.sl 2 3 0 m]])∧∃ o:List Val,o.length=m∧o.take a=(ownL l n).take a∧S.obj 3=some (.row 2 (els valc o))) (fun a=>m - a) ?_ 0 _ _ ?_
 ·rintro a F S ⟨ha,h3,h4,h6,h7,h22,h23,s0,s1,s2,s4,o,ho,hot,s3⟩
  by_cases hlt:a < m
  ·have e4:=wrapS a (by omega)
   obtain ⟨u,hu⟩:∃ u,o[a]?=some u:=⟨_,List.getElem?_eq_getElem (by omega)⟩
   simp [h22,h23,hlt]
   refine Dra.auto [] mix ?_ ?_
   ·kernel_rfl
   simp only [cells_opsV,envc_some] at s0 s1
   simp [classes,h3,h4,h6,h7,h22,h23,s0,s1,s4]
   refine (env_get (some l) a).b (n:=9) ?_ rfl ?_ <;> simp [opsV_is]
   simp [ix_sl hlt,s3,hu,h3,h4,h6,h7,h22,h23,e4]
   refine ⟨a + 1,by omega,by omega,by omega,by simpa using s0,by simpa using s1,by simpa using s2,by simpa using s4,o.set a (getL l a),by simp [ho],?_,by rw [← els_set];rfl⟩
   rw [set_take_succ (by omega),hot]
   have:(ownL l n)[a]?=some (getL l a):=by simp [ownL,hM,hlt]
   rw [take_succ_get this]
  ·have:a=m:=by omega
   subst this
   have hoR:o=ownL l n:=by rw [List.take_of_length_le (by omega),List.take_of_length_le (by omega)] at hot;exact hot
   subst hoR
   simp [h22,h23,h7,h6,s4,s2]
   simp [RO,s3,ho]
 ·simp
  exact ⟨List.replicate m Val.zero,by simp,by simp [els,Val.zero]⟩
def Env.own (e:Env):Env:=e.map fun l=>ownL l 0
theorem env_own0 (e:Env) (he:∀l,e=some l→l.length < 2 ^ 20):Ret P g true 226 [opsV,encE e,.int .i64 0] (encE e.own):=by
 cases e with
 | none =>
  refine Ret.inP c226 (by simp) ?_
  simp [k226]
  exact ⟨rfl,9,by simp [Env.own,mapOpt]⟩
 | some l =>
  have hl:=ownL_len l 0
  refine (env_own l 0 (he l rfl) (by omega)).ret (m:=9) ?_
  have:=pict_rowP (e:=valc) (S:=St.ofL [.row 2 (els valc (ownL l 0))]) (o:=0) (n:=6) rfl hl
  simp only [pict_aggs,mapOpt,pict_bool,this]
  rfl
end Go.Proofs.YtbhkamemheaajaaGreatDoor.Vm
namespace Go.Proofs.YtbhkamemheaajaaGreatDoor.Vm
open Go Go.RowKit
variable {N:Nat} {g:Glob}
@[simp] theorem picts_envc {S:St} {n:Nat} (e:Env):mapOpt (pict S [] (n + 1)) (envc e)=some (envc e):=by cases e <;> simp [mapOpt]
theorem RK.rowE {S:St} {o k:Nat} {l:List Val} (h:S.obj o=some (.row 2 (els valc l))) (hk:l.length=k):RK (.agg (envc (some l))) (.agg [.bool true,.sl 2 o 0 k]) S:=by
 refine ⟨8,?_⟩
 have:=pict_rowP (e:=valc) (S:=S) (n:=5) h hk
 simp only [pict_aggs,mapOpt,pict_bool,this]
 rfl
@[simp] theorem pict_envE {S:St} {n:Nat} (e:Env):pict S [] (n + 2) (encE e)=some (encE e):=by cases e <;> simp [mapOpt]
@[simp] theorem pict_envc {S:St} {n:Nat} (e:Env):pict S [] (n + 2) (.agg (envc e))=some (.agg (envc e)):=pict_envE e
@[simp] theorem solid_envc (e:Env):solids (envc e)=true:=by cases e <;> simp
@[simp] theorem envc_len (e:Env):(envc e).length=2:=by cases e <;> rfl
theorem RK.env {e e':Env} {S:St} (h:e=e'):RK (.agg (envc e')) (.agg (envc e)) S:=by subst h;exact ⟨9,by simp⟩
@[simp] theorem envc_ones (e:Env):(∀x,x ∈ envc e→x.one=true)=True:=by cases e <;> simp
@[simp] theorem take_envc (e:Env):(envc e).take 2=envc e:=by cases e <;> rfl
@[simp] theorem over_envc (u v:AV) (e:Env):over [u,v] 0 (envc e)=envc e:=by cases e <;> rfl
@[simp] theorem over_envc2 (e' e:Env):over (envc e') 0 (envc e)=envc e:=by cases e <;> cases e' <;> rfl
@[simp] theorem okEl_envc (e:Env):okEl 2 (envc e)=true:=by cases e <;> rfl
def Env.small (e:Env):Prop:=∀l,e=some l→l.length < 2 ^ 20
def joinL (l m:List Val):List Val:=(List.range (max m.length l.length)).map fun k:Nat=>(getL l k).join (getL m k)
def Env.join (a b:Env):Env:=match a,b with
 | none,b=>b.own
 | a,none=>a.own
 | some l,some m=>some (joinL l m)
theorem getL_ownL (l:List Val) (n:Nat) {k:Nat} (hk:k < max n l.length):(ownL l n)[k]?=some (getL l k):=by simp [ownL,hk]
theorem env_joined (a b:Env) (ha:a.small) (hb:b.small):Ret P g false 177 [opsV,encE a,encE b] (encE (a.join b)):=by
 refine Ret.in c177 (by simp) ?_
 simp [k177]
 cases a with
 | none =>
  simp
  cases b with
  | none =>
   simp
   refine (env_own0 (none:Env) ha).use (n:=9) ?_ rfl ?_ <;> simp [opsV_is]
   exact RK.env rfl
  | some m =>
   simp
   refine (env_own0 (some m) hb).use (n:=9) ?_ rfl ?_ <;> simp [opsV_is]
   exact RK.env rfl
 | some l =>
  simp
  cases b with
  | none =>
   simp
   refine (env_own0 (some l) ha).use (n:=9) ?_ rfl ?_ <;> simp [opsV_is]
   exact RK.env rfl
  | some m =>
   have hl:=ha l rfl
   have hm:=hb m rfl
   simp
   refine (env_own l m.length hl hm).use' (n:=9) ?_ ?_ ?_ <;> simp [opsV_is]
   have hn:max m.length l.length < 2 ^ 20:=Nat.max_lt.2 ⟨hm,hl⟩
   have hol:=ownL_len l m.length
   have hcast:(max (m.length:Int) l.length)=((max m.length l.length:Nat):Int):=by omega
   try simp only [hcast]
   have hJ:(joinL l m).length=max m.length l.length:=by simp [joinL]
   have hget:∀k,k < max m.length l.length→(ownL l m.length)[k]?=some (getL l k):=fun k hk=>getL_ownL l _ hk
   have hjg:∀k,k < max m.length l.length→(joinL l m)[k]?=some ((getL l k).join (getL m k)):=fun k hk=>by simp [joinL,hk]
   generalize max m.length l.length=n at *
   refine W.whileI (fun (a:Nat) F S=>a≤n∧F 3=.ptr 0 0 0∧F 5=.ptr 2 0 0∧F 6=.ptr 3 0 0∧F 7=.ptr 5 0 0∧F 28=.int .i64 n∧F 29=.int .i64 a∧S.obj 0=some (.row 2 [opsV.cells])∧S.obj 2=some (.row 2 [envc (some m)]) ∧
    S.obj 3=some (.row 2 [[.bool false,.nilsl]])∧S.obj 5=some (.row 2 [[.bool true,.sl 2 4 0 n]])∧∃ o:List Val,o.length=n∧o.take a=(joinL l m).take a∧o.drop a=(ownL l m.length).drop a∧S.obj 4=some (.row 2 (els valc o))) (fun a=>n - a) ?_ 0 _ _ ?_
   ·rintro a F S ⟨ha,h3,h5,h6,h7,h28,h29,s0,s2,s3,s5,o,ho,hot,hod,s4⟩
    by_cases hlt:a < n
    ·have e4:=wrapS a (by omega)
     have hoa:o[a]?=some (getL l a):=by
      have h1:=hget a hlt
      have h2:(o.drop a)[0]?=((ownL l m.length).drop a)[0]?:=by rw [hod]
      simp only [List.getElem?_drop,Nat.add_zero] at h2
      rw [h2,h1]
     simp [h28,h29,hlt]
     refine Dra.auto [] mix ?_ ?_
     ·kernel_rfl
     simp only [cells_opsV,envc_some] at s0 s2
     simp [classes,h3,h5,h6,h7,h28,h29,s0,s2,s5,ix_sl hlt,s4,hoa]
     refine (env_get (some m) a).b (n:=9) ?_ rfl ?_ <;> simp [opsV_is]
     refine (flat_Join (getL l a) (Env.get (some m) a)).b (n:=9) ?_ rfl ?_ <;> simp
     simp [ix_sl hlt,s4,hoa,h3,h5,h6,h7,h28,h29,e4]
     refine ⟨a + 1,by omega,by omega,by omega,by simpa using s0,by simpa using s2,by simpa using s3,by simpa using s5,o.set a ((getL l a).join (getL m a)),by simp [ho],?_,?_,by rw [← els_set];rfl⟩
     ·rw [set_take_succ (by omega),hot,take_succ_get (hjg a hlt)]
     ·rw [List.drop_set_of_lt (by omega)]
      have h2:(o.drop a).drop 1=((ownL l m.length).drop a).drop 1:=by rw [hod]
      simpa [List.drop_drop,Nat.add_comm] using h2
    ·have:a=n:=by omega
     subst this
     have hoR:o=joinL l m:=by rw [List.take_of_length_le (by omega),List.take_of_length_le (by omega)] at hot;exact hot
     subst hoR
     simp [h28,h29,h7,h6,s5,s3]
     exact RK.rowE (by simp [s4]) hJ
   ·simp
    exact ⟨ownL l m.length,by simp [hol],rfl,rfl⟩
def Env.set (e:Env) (i:Int) (v:Val):Env:=e.own.map fun l=>if 0≤i∧i < l.length then l.set i.toNat v.sane else l
theorem env_set (e:Env) (i:Int) (v:Val) (he:e.small):Ret P g false 208 [opsV,encE e,.int .i64 i,encV v] (encE (e.set i v)):=by
 refine Ret.in c208 (by simp) ?_
 simp [k208]
 cases e with
 | none =>
  refine (env_own_none 0).use (n:=9) ?_ rfl ?_ <;> simp [opsV_is]
  refine gua_dec (fun h1=>?_) (fun h1=>?_) <;> simp [h1]
  ·refine bra_dec (fun h2=>?_) (fun h2=>?_) <;> simp [h2]
   ·omega
   ·exact RK.env (e:=none) (e':=Env.set none i v) rfl
  ·exact RK.env (e:=none) (e':=Env.set none i v) rfl
 | some l =>
  have hl:=he l rfl
  refine (env_own l 0 hl (by omega)).use' (n:=9) ?_ ?_ ?_ <;> simp [opsV_is]
  have hol:=ownL_len l 0
  have hse:Env.set (some l) i v=some (if 0≤i∧i < (ownL l 0).length then (ownL l 0).set i.toNat v.sane else ownL l 0):=rfl
  simp only [Nat.zero_max] at hol
  rw [hol] at hse
  have hra:=readAll (e:=valc) hol
  refine gua_dec (fun h1=>?_) (fun h1=>?_) <;> simp [h1]
  ·refine bra_dec (fun h2=>?_) (fun h2=>?_) <;> simp [h2]
   ·obtain ⟨k,rfl⟩:∃ k:Nat,i=(k:Int):=⟨i.toNat,by omega⟩
    have hk:k < l.length:=by omega
    obtain ⟨u,hu⟩:∃ u,(ownL l 0)[k]?=some u:=⟨_,List.getElem?_eq_getElem (by omega)⟩
    refine Dra.auto [] mix ?_ ?_
    ·kernel_rfl
    simp [classes]
    refine (env_sane v).b (n:=9) ?_ rfl ?_ <;> simp [opsV_is]
    simp [ix_sl hk,hu]
    have e3:(els valc (ownL l 0)).set k [.int .i64 v.sane.k,.int .i64 v.sane.c]=els valc ((ownL l 0).set k v.sane):=els_set (e:=valc)
    simp only [e3]
    rw [if_pos (by omega)] at hse
    rw [hse]
    exact RK.rowE (by simp) (by simp [hol])
   ·rw [if_neg (by omega)] at hse
    rw [hse]
    exact RK.rowE (by simp) hol
  ·rw [if_neg (by omega)] at hse
   rw [hse]
   exact RK.rowE (by simp) hol
theorem env_JoinFlat (a b:Env) (ha:a.small) (hb:b.small):Ret P g false 119 [encE a,encE b] (encE (a.join b)):=by
 refine Ret.in c119 (by simp) ?_
 simp [k119]
 refine Dra.auto [] mix ?_ ?_
 ·kernel_rfl
 simp [classes]
 refine env_flats.b (n:=9) ?_ rfl ?_ <;> simp
 refine (env_joined a b ha hb).b (n:=9) (by simp) (by simp [solids,AV.solid]) ?_
 simp
 exact RK.env rfl
theorem env_GetFlat (e:Env) (i:Int):Ret P g false 105 [encE e,.int .i64 i] (encV (e.get i)):=by
 refine Ret.in c105 (by simp) ?_
 simp [k105]
 refine Dra.auto [] mix ?_ ?_
 ·kernel_rfl
 simp [classes]
 refine env_flats.b (n:=9) ?_ rfl ?_ <;> simp
 refine (env_get e i).b (n:=9) (by simp) rfl ?_
 simp
 exact RK.agg (by simp [AV.stab])
theorem env_SetFlat (e:Env) (i:Int) (v:Val) (he:e.small):Ret P g false 156 [encE e,.int .i64 i,encV v] (encE (e.set i v)):=by
 refine Ret.in c156 (by simp) ?_
 simp [k156]
 refine Dra.auto [] mix ?_ ?_
 ·kernel_rfl
 simp [classes]
 refine env_flats.b (n:=9) ?_ rfl ?_ <;> simp
 refine (env_set e i v he).b (n:=9) (by simp) (by simp [solids,AV.solid]) ?_
 simp
 exact RK.env rfl
def leqL (l m:List Val) (k:Nat):Prop:=∀j,j < k→(getL l (j:Nat)).leq (getL m (j:Nat))=true
noncomputable instance (l m:List Val) (k:Nat):Decidable (leqL l m k):=Classical.propDecidable _
noncomputable def Env.leq (a b:Env):Bool:=match a,b with
 | none,_=>true
 | some _,none=>false
 | some l,some m=>decide (leqL l m (max l.length m.length))
theorem env_below (a b:Env) (ha:a.small) (hb:b.small):Ret P g false 85 [opsV,encE a,encE b] (.bool (a.leq b)):=by
 refine Ret.in c85 (by simp) ?_
 simp [k85]
 cases a with
 | none =>
  simp
  exact RK.eq rfl rfl
 | some l =>
  simp
  cases b with
  | none =>
   simp
   exact RK.eq rfl rfl
  | some m =>
   have hl:=ha l rfl
   have hm:=hb m rfl
   have hn:max l.length m.length < 2 ^ 20:=Nat.max_lt.2 ⟨hl,hm⟩
   have e1:(if l.length < m.length then (m.length:Int) else l.length)=((max l.length m.length:Nat):Int):=by split <;> omega
   simp [e1]
   have hcast:(max (l.length:Int) m.length)=((max l.length m.length:Nat):Int):=by omega
   try simp only [hcast]
   have hle:Env.leq (some l) (some m)=decide (leqL l m (max l.length m.length)):=rfl
   rw [hle]
   generalize max l.length m.length=n at *
   refine W.whileI (fun (a:Nat) F S=>a≤n∧leqL l m a∧F 3=.ptr 0 0 0∧F 4=.ptr 1 0 0∧F 5=.ptr 2 0 0∧F 25=.int .i64 n∧F 26=.int .i64 a∧S.obj 0=some (.row 2 [opsV.cells])∧S.obj 1=some (.row 2 [envc (some l)])∧S.obj 2=some (.row 2 [envc (some m)])) (fun a=>n - a) ?_ 0 _ _ ?_
   ·rintro a F S ⟨ha,hL,h3,h4,h5,h25,h26,s0,s1,s2⟩
    by_cases hlt:a < n
    ·have e4:=wrapS a (by omega)
     simp [h25,h26,hlt]
     refine Dra.auto [] mix ?_ ?_
     ·kernel_rfl
     simp only [cells_opsV,envc_some] at s0 s1 s2
     simp [classes,h3,h4,h5,h25,h26,s0,s1,s2]
     refine (env_get (some l) a).b (n:=9) ?_ rfl ?_ <;> simp [opsV_is]
     simp [h3,h5,s0,s2,opsV_is]
     refine (env_get (some m) a).b (n:=9) ?_ rfl ?_ <;> simp [opsV_is]
     refine (flat_Leq (Env.get (some l) a) (Env.get (some m) a)).b (n:=9) ?_ rfl ?_ <;> simp
     refine bra_not (fun h=>?_) (fun h=>?_)
     ·simp
      refine RK.eq ?_ rfl
      have:¬ leqL l m n:=fun h'=>by
       have:=h' a hlt
       simp only [Env.get] at h
       rw [h] at this;cases this
      simp [this]
     ·simp [h3,h4,h5,h25,h26,e4]
      refine ⟨a + 1,by omega,by omega,fun j hj=>?_,by omega,by simpa using s0,by simpa using s1,by simpa using s2⟩
      by_cases hja:j=a
      ·subst hja;exact h
      ·exact hL j (by omega)
    ·have:a=n:=by omega
     subst this
     simp [h25,h26]
     exact RK.eq (by simp [hL]) rfl
   ·simp
    intro j hj;omega
theorem env_LeqFlat (a b:Env) (ha:a.small) (hb:b.small):Ret P g false 38 [encE a,encE b] (.bool (a.leq b)):=by
 refine Ret.in c38 (by simp) ?_
 simp [k38]
 refine Dra.auto [] mix ?_ ?_
 ·kernel_rfl
 simp [classes]
 refine env_flats.b (n:=9) ?_ rfl ?_ <;> simp
 refine (env_below a b ha hb).b (n:=9) (by simp) rfl ?_
 simp
 exact RK.stab rfl
theorem els_okEl2 {l:List Val}:okAll 2 (els valc l):=by
 unfold okAll
 simp only [els,List.all_map,List.all_eq_true,Function.comp]
 intro x _;rfl
theorem slices_Repeat_val (x:Val) (n:Nat) (hn:n < 2 ^ 30):Own P g 213 [.fsl 2 [valc x],.int .i64 (n:Int)] (.sl 2 0 0 n) (St.ofL [.row 2 (els valc (List.replicate n x))]):=by
 refine Own.in [0] c213 (by simp) (by simp) ?_
 have hroom:n≤room:=by simp [room];omega
 have e1:IntKind.u64.wrap (1:Int)=((1:Nat):Int):=rfl
 have e2:IntKind.u64.wrap (n:Int)=n:=u64_in (by omega)
 have e3:n % 18446744073709551616=n:=by omega
 have e4:n / 18446744073709551616=0:=by omega
 have e5:IntKind.i64.wrap (n:Int)=n:=wrap_in (by omega)
 simp [k213,e1,e2]
 refine (bits_Mul 1 n (by omega) (by omega)).use (n:=9) ?_ rfl ?_ <;> simp [e3,e4]
 refine bra_dec (fun h=>absurd h (by omega)) (fun h=>?_)
 simp [e5,hroom]
 refine W.whileI (fun (m:Nat) F S=>m≤n∧(m=0→n=0)∧F 7=.sl 2 0 0 n∧F 8=.int .i64 m∧S.obj 0=some (.row 2 (els valc (List.replicate m x ++ List.replicate (n - m) Val.zero)))) (fun m=>n - m) ?_ (min 1 n) _ _ ?_
 ·rintro m F S ⟨hm,hm0,h7,h8,ho⟩
  by_cases hlt:m < n
  ·have hmp:0 < m:=by omega
   simp [h7,h8,hlt]
   refine Dra.auto [] mix ?_ ?_
   ·kernel_rfl
   have hys:List.take m (els valc (List.replicate m x ++ List.replicate (n - m) Val.zero))=els valc (List.replicate m x):=by rw [els_take,List.take_left' (by simp)]
   have hok:okAll 2 (els valc (List.replicate m x)):=els_okEl2
   have e6:IntKind.i64.wrap ((m:Int) + (min m (n - m):Nat))=((m + min m (n - m):Nat):Int):=by rw [wrap_in (by omega)];omega
   simp [classes,h7,h8,hlt,sl_from hm,sl_to hm,ho,show ¬ m=0 by omega,hys,hok]
   refine ⟨m + min m (n - m),by omega,by omega,by omega,e6,?_⟩
   rw [els_take,els_drop,els_append,els_append,List.take_replicate,List.drop_append,List.drop_of_length_le (by simp),List.drop_replicate,List.nil_append,← List.append_assoc,List.replicate_append_replicate]
   congr 3
   ·omega
   ·simp;omega
  ·have:m=n:=by omega
   subst this
   simp [h7,h8]
   refine ⟨by simp,?_⟩
   simp [ho]
 ·simp
  refine ⟨by omega,?_⟩
  rcases n with _ | n
  ·simp [els]
  ·simp [els,Val.zero]
end Go.Proofs.YtbhkamemheaajaaGreatDoor.Vm
namespace Go.Proofs.YtbhkamemheaajaaGreatDoor.Vm
open Go Go.RowKit
variable {N:Nat} {g:Glob}
def capN (n:Int):Nat:=(max 0 (min n 64)).toNat
theorem env_all (n:Int) (v:Val):Own P g 158 [opsV,.int .i64 n,encV v] (.agg [.bool true,.sl 2 0 0 (capN n)]) (St.ofL [.row 2 (els valc (List.replicate (capN n) v.sane))]):=by
 have e1:(if 0 < (if 64 < n then 64 else n) then (if 64 < n then 64 else n) else 0)=((capN n:Nat):Int):=by
  unfold capN;split <;> split <;> omega
 have hc:capN n < 2 ^ 30:=by unfold capN;omega
 have hra:=readAll (e:=valc) (l:=List.replicate (capN n) v.sane) (k:=capN n) (by simp)
 refine Own.in [4] c158 (by simp) (by simp) ?_
 simp [k158]
 refine (env_sane v).use (n:=9) ?_ rfl ?_ <;> simp [opsV_is]
 simp [e1]
 refine (slices_Repeat_val v.sane (capN n) hc).use' (n:=9) ?_ ?_ ?_ <;> simp
 simp [RO]
theorem env_Flats (n:Int) (v:Val):Own P g 109 [.int .i64 n,encV v] (.agg [.bool true,.sl 2 0 0 (capN n)]) (St.ofL [.row 2 (els valc (List.replicate (capN n) v.sane))]):=by
 refine Own.in [2] c109 (by simp) (by simp) ?_
 simp [k109]
 refine Dra.auto [] mix ?_ ?_
 ·kernel_rfl
 simp [classes]
 refine env_flats.b (n:=9) ?_ rfl ?_ <;> simp
 refine (env_all n v).b' (n:=9) ?_ ?_ ?_ <;> simp
 simp [RO]
def startL (par vars:Int):List Val:=(List.range (capN vars)).map fun k:Nat=>if (k:Int) < par then ⟨2,0⟩ else ⟨1,0⟩
theorem startL_len (par vars:Int):(startL par vars).length=capN vars:=by simp [startL]
theorem consts_Start (f:Fun):Ret P g false 72 [encFun f] (encE (some (startL f.par f.vars))):=by
 have hc:capN f.vars≤64:=by unfold capN;omega
 have hsl:=startL_len f.par f.vars
 have hget:∀k,k < capN f.vars→(startL f.par f.vars)[k]?=some (if (k:Int) < f.par then ⟨2,0⟩ else ⟨1,0⟩):=fun k hk=>by simp [startL,hk]
 refine Ret.in c72 (by simp) ?_
 simp [k72]
 refine Dra.auto [] mix ?_ ?_
 ·kernel_rfl
 simp [classes]
 refine (flat_Of 0).b (n:=9) ?_ rfl ?_ <;> simp
 refine (env_Flats f.vars ⟨1,wrap32 0⟩).b' (n:=9) ?_ ?_ ?_ <;> simp
 have hw:Val.sane ⟨1,wrap32 0⟩=⟨1,0⟩:=rfl
 rw [hw]
 generalize hm:capN f.vars=m at *
 have e2:(if 0 < (if (m:Int) < f.par then (m:Int) else f.par) then (if (m:Int) < f.par then (m:Int) else f.par) else 0)=(((max 0 (min f.par m)).toNat:Nat):Int):=by split <;> split <;> omega
 simp [e2]
 generalize hq:(max 0 (min f.par m)).toNat=q at *
 have hqm:q≤m:=by omega
 refine W.whileI (fun (a:Nat) F S=>a≤q∧F 2=.ptr 1 0 0∧F 3=.ptr 3 0 0∧F 15=.int .i64 q∧F 16=.int .i64 a∧S.obj 1=some (.row 2 [[.bool false,.nilsl]])∧S.obj 3=some (.row 2 [[.bool true,.sl 2 2 0 m]])∧3 < S.next ∧
  ∃ o:List Val,o.length=m∧o.take a=(startL f.par f.vars).take a∧(∀k,a≤k→k < m→o[k]?=some ⟨1,0⟩)∧S.obj 2=some (.row 2 (els valc o))) (fun a=>q - a) ?_ 0 _ _ ?_
 ·rintro a F S ⟨ha,h2,h3,h15,h16,s1,s3,hn,o,ho,hot,hod,s2⟩
  by_cases hlt:a < q
  ·have e4:=wrapS a (by omega)
   have ham:a < m:=by omega
   simp [h15,h16,hlt]
   simp [h2,h3,h15,h16,s3,ix_sl ham,s2,hod a (by omega) ham,e4]
   refine ⟨a + 1,by omega,by omega,by omega,by simpa using s1,hn,o.set a ⟨2,0⟩,by simp [ho],?_,fun k hk1 hk2=>?_,by rw [← els_set];rfl⟩
   ·rw [set_take_succ (by omega),hot,take_succ_get (hget a ham),if_pos (by omega)]
   ·rw [List.getElem?_set_ne (by omega)];exact hod k (by omega) hk2
  ·have:a=q:=by omega
   subst this
   have hoR:o=startL f.par f.vars:=by
    apply List.ext_getElem?
    intro k
    by_cases hk:k < a
    ·have h1:(o.take a)[k]?=((startL f.par f.vars).take a)[k]?:=by rw [hot]
     rw [List.getElem?_take_of_lt hk,List.getElem?_take_of_lt hk] at h1
     exact h1
    ·by_cases hk2:k < m
     ·rw [hod k (by omega) hk2,hget k hk2,if_neg (by omega)]
     ·rw [List.getElem?_eq_none (by omega),List.getElem?_eq_none (by omega)]
   subst hoR
   have hra:=readAll (e:=valc) hsl
   simp [h15,h16,h2,h3,s1,s3]
   exact ⟨9,by simp [mapOpt,s2,hra,show ¬ 2=1 from by omega]⟩
 ·simp
  exact ⟨by omega,List.replicate m ⟨1,0⟩,by simp,fun k hk=>by simp [hk],rfl⟩
def Ins.number (i:Ins) (e:Env):Val :=
 if i.kind=0 then ⟨1,wrap32 i.c⟩ else if i.kind=1 then e.get i.a else if i.kind=2 then Val.each i64sub ⟨1,wrap32 0⟩ (e.get i.a) else if i.kind=3 then (e.get i.a).each i64add (e.get i.b) else
 if i.kind=4 then (e.get i.a).each i64sub (e.get i.b) else if i.kind=5 then (e.get i.a).each i64mul (e.get i.b) else ⟨2,0⟩
theorem instr_number (e:Env) (i:Ins):Ret P (gl N) false 157 [encE e,encI i] (encV (i.number e)):=by
 refine Ret.in c157 (by simp) ?_
 simp [k157]
 refine Dra.auto [] mix ?_ ?_
 ·kernel_rfl
 simp [classes]
 refine (env_GetFlat e i.a).b (n:=9) (by simp) rfl ?_
 simp
 refine (env_GetFlat e i.b).b (n:=9) (by simp) rfl ?_
 simp
 refine (instr_Name i.kind).use (n:=9) ?_ rfl ?_ <;> simp
 by_cases hk:0≤i.kind∧i.kind < 10
 ·have:i.kind=0 ∨ i.kind=1 ∨ i.kind=2 ∨ i.kind=3 ∨ i.kind=4 ∨ i.kind=5 ∨ i.kind=6 ∨ i.kind=7 ∨ i.kind=8 ∨ i.kind=9:=by omega
  rcases this with h | h | h | h | h | h | h | h | h | h <;> rw [h] <;> simp [kname,kindNames,sEq_bs]
  ·refine (flat_Of i.c).use (n:=9) ?_ rfl ?_ <;> simp
   exact RK.aggEq (by simp [Ins.number,h]) (by simp [AV.stab])
  ·exact RK.aggEq (by simp [Ins.number,h]) (by simp [AV.stab])
  ·refine (flat_Neg (e.get i.a)).use (n:=9) ?_ rfl ?_ <;> simp
   exact RK.aggEq (by simp [Ins.number,h]) (by simp [AV.stab])
  ·refine (flat_Add (e.get i.a) (e.get i.b)).use (n:=9) ?_ rfl ?_ <;> simp
   exact RK.aggEq (by simp [Ins.number,h]) (by simp [AV.stab])
  ·refine (flat_Sub (e.get i.a) (e.get i.b)).use (n:=9) ?_ rfl ?_ <;> simp
   exact RK.aggEq (by simp [Ins.number,h]) (by simp [AV.stab])
  ·refine (flat_Mul (e.get i.a) (e.get i.b)).use (n:=9) ?_ rfl ?_ <;> simp
   exact RK.aggEq (by simp [Ins.number,h]) (by simp [AV.stab])
  all_goals exact RK.aggEq (by simp [Ins.number,h]) (by simp [AV.stab])
 ·have e1:kname i.kind=[]:=by rw [kname,if_neg hk]
  have e2:i.number e=⟨2,0⟩:=by simp only [Ins.number];repeat (rw [if_neg (by omega)])
  simp [e1,sEq_bs]
  exact RK.aggEq (by simp [e2]) (by simp [AV.stab])
def Ins.flat (i:Ins) (e:Env):Env:=e.set i.def (i.number e)
theorem instr_Flat (e:Env) (i:Ins) (he:e.small):Ret P (gl N) false 108 [encE e,encI i] (encE (i.flat e)):=by
 refine Ret.in c108 (by simp) ?_
 simp [k108]
 refine Dra.auto [] mix ?_ ?_
 ·kernel_rfl
 simp [classes]
 refine (instr_Def i).b (n:=9) (by simp [mapOpt]) rfl ?_
 simp
 refine (instr_number e i).b (n:=9) (by simp [mapOpt]) rfl ?_
 simp
 refine (env_SetFlat e i.def (i.number e) he).b (n:=9) (by simp [mapOpt]) (by simp [solids,AV.solid]) ?_
 simp
 exact RK.env rfl
theorem Env.set_small {e:Env} (h:e.small) (i:Int) (v:Val):(e.set i v).small:=by
 intro l hl
 cases e with
 | none=>simp [Env.set,Env.own] at hl
 | some m =>
  simp [Env.set,Env.own] at hl
  have:=h m rfl
  have h2:=ownL_len m 0
  subst hl
  split <;> simp <;> omega
def pastL (e:Env) (l:List Ins):Env:=l.foldl (fun e i=>i.flat e) e
theorem pastL_small {l:List Ins}:∀{e:Env},e.small→(pastL e l).small:=by
 induction l with
 | nil=>intro e h;exact h
 | cons i l ih=>intro e h;exact ih (Env.set_small h _ _)
theorem consts_past (e:Env) (l:List Ins) (v:AV) (hv:FSl insc 11 v l) (hl:l.length < 2 ^ 40) (he:e.small):Ret P (gl N) false 120 [encE e,v] (encE (pastL e l)):=by
 refine Ret.in c120 (by simp) ?_
 simp [k120,hv.len]
 refine W.whileI (fun (k:Nat) F S=>k≤l.length∧F 2=.ptr 0 0 0∧F 4=.ptr 1 0 0∧F 7=v∧F 8=.int .i64 l.length∧F 9=.int .i64 k∧S.obj 0=some (.row 2 [envc (pastL e (l.take k))])∧S.obj 1=some (.row 2 [[.bool false,.nilsl]])∧1 < S.next) (fun k=>l.length - k) ?_ 0 _ _ ?_
 ·rintro k F S ⟨hk,h2,h4,h7,h8,h9,s0,s1,hn⟩
  by_cases hlt:k < l.length
  ·obtain ⟨x,hx⟩:∃ x,l[k]?=some x:=⟨_,List.getElem?_eq_getElem hlt⟩
   have e4:=wrapS k (by omega)
   have hst:pastL e (l.take (k + 1))=x.flat (pastL e (l.take k)):=by unfold pastL;rw [foldl_take_succ _ _ _ _ _ hx]
   simp [h8,h9,hlt]
   simp [h7,h9,hv.idx hx,h2,s0,show ¬ 0=S.next by omega]
   refine (instr_Flat (pastL e (l.take k)) x (pastL_small he)).use (n:=9) (by simp [mapOpt]) (by simp [solids,AV.solid]) ?_
   simp [h2,s0,show ¬ 0=S.next by omega,h4,h7,h8,h9,e4]
   exact ⟨k + 1,by omega,by omega,by omega,by rw [hst],by simp [show ¬ 1=S.next by omega,s1],by omega⟩
  ·have:k=l.length:=by omega
   subst this
   simp [h8,h9,h2,s0,h4,s1]
   exact RK.env rfl
 ·simp [pastL]
theorem val_cells_eq (x y:Val):eqCells (valc x) (valc y)=decide (x=y):=by
 cases x;cases y
 rw [Bool.eq_iff_iff];simp
theorem slices_EqualV (xs ys:List Val) (hl:xs.length < 2 ^ 40) (v w:AV) (hv:FSl valc 2 v xs) (hw:FSl valc 2 w ys):Ret P g false 126 [v,w] (.bool (decide (xs=ys))):=by
 refine Ret.in c126 (by simp) ?_
 simp [k126,hv.len,hw.len]
 by_cases hlen:xs.length=ys.length
 ·simp [hlen,hv.len]
  refine W.whileI (fun (k:Nat) F S=>k≤ys.length∧xs.take k=ys.take k∧F 0=v∧F 1=w∧F 12=.int .i64 ys.length∧F 13=.int .i64 k) (fun k=>ys.length - k) ?_ 0 _ _ ?_
  ·rintro k F S ⟨hk,hp,h0,h1,h12,h13⟩
   by_cases hlt:k < ys.length
   ·simp [h12,h13,hlt]
    refine Dra.auto [] mix ?_ ?_
    ·kernel_rfl
    obtain ⟨y,hy⟩:∃ y,ys[k]?=some y:=⟨_,List.getElem?_eq_getElem (by omega)⟩
    obtain ⟨x,hx⟩:∃ x,xs[k]?=some x:=⟨_,List.getElem?_eq_getElem (by omega)⟩
    have e4:=wrapS k (by omega)
    have hc:=val_cells_eq x y
    simp at hc
    simp [classes,h0,h1,h12,h13,hv.idx hx,hw.idx hy,hc]
    refine bra_ndec (fun hxy=>?_) (fun hxy=>?_)
    ·simp [hxy]
     refine RK.eq ?_ rfl
     have:xs ≠ ys:=by rintro rfl;rw [hx] at hy;simp at hy;exact hxy hy
     simp [this]
    ·simp [hxy,e4,h13,h12,h0,h1]
     refine ⟨k + 1,by omega,by omega,?_,by omega⟩
     rw [List.take_add_one,List.take_add_one,hp,hx,hy]
     have:x=y:=hxy
     subst this;rfl
   ·have:k=ys.length:=by omega
    subst this
    simp [h12,h13]
    refine RK.eq ?_ rfl
    rw [List.take_length,← hlen,List.take_length] at hp
    simp [hp]
  ·simp
 ·have hne:xs ≠ ys:=fun h=>hlen (by rw [h])
  have hlen':¬ ((xs.length:Int)=ys.length):=by omega
  simp [hlen']
  exact RK.eq (by simp [hne]) rfl
theorem consts_same (a b:Env) (ha:a.small):Ret P g false 81 [encE a,encE b] (.bool (decide (a=b))):=by
 refine Ret.in c81 (by simp) ?_
 simp [k81]
 cases a with
 | none =>
  cases b with
  | none =>
   simp
   refine (slices_EqualV [] [] (by simp) .nilsl .nilsl .nil .nil).use (n:=9) ?_ rfl ?_ <;> simp
   exact RK.eq rfl rfl
  | some m =>
   simp
   exact RK.eq rfl rfl
 | some l =>
  have hl:=ha l rfl
  cases b with
  | none =>
   simp
   exact RK.eq rfl rfl
  | some m =>
   simp
   refine (slices_EqualV l m (by omega) _ _ .mk .mk).use (n:=9) ?_ rfl ?_ <;> simp
   exact RK.eq rfl rfl
end Go.Proofs.YtbhkamemheaajaaGreatDoor.Vm
