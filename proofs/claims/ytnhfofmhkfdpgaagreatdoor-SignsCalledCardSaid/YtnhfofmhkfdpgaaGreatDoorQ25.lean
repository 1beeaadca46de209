/- A part of the proof: Ra Rc Rd Re Rf Rb Rg Rh Ri Rl Oa. -/
import Derived.Test.YtnhfofmhkfdpgaaGreatDoorQ24
set_option linter.unusedVariables false
set_option linter.unusedSimpArgs false
set_option linter.constructorNameAsVariable false
namespace Go.Proofs.YtnhfofmhkfdpgaaGreatDoor.Vm
open Go Go.RowKit
structure Sys (α:Type) where
 n:Nat
 ev:List α→Nat→α
 rd:Nat→List Int
 ok:α→Prop
 le:α→α→Prop
 bot:α
 ht:α→Nat
 top:Nat
 refl:∀a,ok a→le a a
 trans:∀a b c,ok a→ok b→ok c→le a b→le b c→le a c
 anti:∀a b,ok a→ok b→le a b→le b a→a=b
 botOk:ok bot
 botLe:∀a,ok a→le bot a
 htop:∀a,ok a→ht a≤top
 hlt:∀a b,ok a→ok b→le a b→a ≠ b→ht a < ht b
 evOk:∀x i,x.length=n→(∀a ∈ x,ok a)→i < n→ok (ev x i)
 mono:∀x y i,x.length=n→y.length=n→(∀a ∈ x,ok a)→(∀a ∈ y,ok a)→(∀(k:Nat) a b,x[k]?=some a→y[k]?=some b→le a b)→i < n→le (ev x i) (ev y i)
 dep:∀x i (k:Nat) a,(∀j ∈ rd i,j.toNat ≠ k)→ev (x.set k a) i=ev x i
 nn:∀i,∀j ∈ rd i,0≤j
variable {α:Type} (Y:Sys α)
structure Sys.Fit (x:List α):Prop where
 len:x.length=Y.n
 ok:∀a ∈ x,Y.ok a
def Sys.Post (y:List α):Prop:=Y.Fit y∧∀(i:Nat) a,y[i]?=some a→Y.le (Y.ev y i) a
structure Sys.Mid (x:List α) (T:Nat→Prop):Prop where
 fit:Y.Fit x
 low:∀y,Y.Post y→∀(i:Nat) a b,x[i]?=some a→y[i]?=some b→Y.le a b
 pre:∀(i:Nat) a,x[i]?=some a→Y.le a (Y.ev x i)
 fix:∀(i:Nat) a,x[i]?=some a→¬ T i→a=Y.ev x i
variable {Y}
theorem Sys.Fit.at {x:List α} (h:Y.Fit x) {i:Nat} (hi:i < Y.n):∃ a,x[i]?=some a∧Y.ok a:=by
 have hl:i < x.length:=by rw [h.len];exact hi
 exact ⟨x[i],xgG hl,h.ok _ (List.getElem_mem _)⟩
theorem Sys.Fit.lt {x:List α} (h:Y.Fit x) {i:Nat} {a:α} (ha:x[i]?=some a):i < Y.n∧Y.ok a:=⟨by rw [← h.len];exact (xgS ha).1,h.ok a (xmG ha)⟩
theorem Sys.Fit.ev {x:List α} (h:Y.Fit x) {i:Nat} (hi:i < Y.n):Y.ok (Y.ev x i):=Y.evOk x i h.len h.ok hi
theorem Sys.Fit.set {x:List α} (h:Y.Fit x) {i:Nat} {a:α} (ha:Y.ok a):Y.Fit (x.set i a):=by
 refine ⟨by simp [h.len],fun b hb=>?_⟩
 rcases List.mem_or_eq_of_mem_set hb with h1 | h1
 ·exact h.ok b h1
 ·rw [h1];exact ha
theorem Sys.Mid.start:Y.Mid (List.replicate Y.n Y.bot) (fun i=>i < Y.n):=by
 have hm:∀(i:Nat) a,(List.replicate Y.n Y.bot)[i]?=some a→a=Y.bot:=fun i a h=>by
  have:=xmG h
  rw [List.mem_replicate] at this
  exact this.2
 have hf:Y.Fit (List.replicate Y.n Y.bot):=⟨by simp,fun a ha=>by rw [List.mem_replicate] at ha;rw [ha.2];exact Y.botOk⟩
 refine ⟨hf,fun y hy i a b ha hb=>?_,fun i a ha=>?_,fun i a ha hT=>?_⟩
 ·rw [hm i a ha];exact Y.botLe b (hy.1.ok b (xmG hb))
 ·rw [hm i a ha];exact Y.botLe _ (hf.ev (hf.lt ha).1)
 ·exact absurd (hf.lt ha).1 hT
theorem set_same {α:Type} {x:List α} {i:Nat} {a:α} (h:x[i]?=some a):x.set i a=x:=by
 obtain ⟨hlt,h⟩:=xgS h
 rw [← h];exact List.set_getElem_self hlt
theorem Sys.Mid.step {x:List α} {T T':Nat→Prop} (h:Y.Mid x T) {i:Nat} {s:α} (hs:x[i]?=some s)
  (hT:∀k,¬ T' k→k=i ∨ ¬ T k) (hr:s ≠ Y.ev x i→∀k,k < Y.n→(i:Int) ∈ Y.rd k→T' k):Y.Mid (x.set i (Y.ev x i)) T':=by
 have hi:=(h.fit.lt hs).1
 have hok:=h.fit.ev hi
 have hil:i < x.length:=by rw [h.fit.len];exact hi
 have hf':=h.fit.set (i:=i) hok
 have hge:∀(k:Nat) a b,x[k]?=some a→(x.set i (Y.ev x i))[k]?=some b→Y.le a b:=fun k a b ha hb=>by
  by_cases hk:k=i
  ·subst hk
   rw [List.getElem?_set_self hil] at hb
   cases hb
   exact h.pre k a ha
  ·rw [List.getElem?_set_ne (Ne.symm hk)] at hb
   rw [ha] at hb;cases hb
   exact Y.refl a (h.fit.lt ha).2
 have hup:∀k,k < Y.n→Y.le (Y.ev x k) (Y.ev (x.set i (Y.ev x i)) k):=fun k hk=>Y.mono _ _ k h.fit.len hf'.len h.fit.ok hf'.ok hge hk
 refine ⟨hf',fun y hy k a b ha hb=>?_,fun k a ha=>?_,fun k a ha hnT=>?_⟩
 ·by_cases hk:k=i
  ·subst hk
   rw [List.getElem?_set_self hil] at ha
   cases ha
   have h1:=Y.mono x y k h.fit.len hy.1.len h.fit.ok hy.1.ok (fun j a b ha hb=>h.low y hy j a b ha hb) hi
   exact Y.trans _ _ _ hok (hy.1.ev hi) (hy.1.lt hb).2 h1 (hy.2 k b hb)
  ·rw [List.getElem?_set_ne (Ne.symm hk)] at ha
   exact h.low y hy k a b ha hb
 ·by_cases hk:k=i
  ·subst hk
   rw [List.getElem?_set_self hil] at ha
   cases ha
   exact hup k hi
  ·rw [List.getElem?_set_ne (Ne.symm hk)] at ha
   have h1:=h.fit.lt ha
   exact Y.trans _ _ _ h1.2 (h.fit.ev h1.1) (hf'.ev h1.1) (h.pre k a ha) (hup k h1.1)
 ·by_cases he:s=Y.ev x i
  ·rw [← he,set_same hs] at ha ⊢
   by_cases hk:k=i
   ·subst hk
    rw [hs] at ha;cases ha
    exact he
   ·exact h.fix k a ha ((hT k hnT).resolve_left hk)
  ·have hkn:=(hf'.lt ha).1
   have hno:∀j ∈ Y.rd k,j.toNat ≠ i:=by
    intro j hj e
    have:=Y.nn k j hj
    exact hnT (hr he k hkn (by rw [← e,Int.toNat_of_nonneg this];exact hj))
   rw [Y.dep x k i _ hno]
   by_cases hk:k=i
   ·subst hk
    rw [List.getElem?_set_self hil] at ha
    cases ha;rfl
   ·rw [List.getElem?_set_ne (Ne.symm hk)] at ha
    exact h.fix k a ha ((hT k hnT).resolve_left hk)
structure Sys.Least (Y:Sys α) (x:List α):Prop where
 fit:Y.Fit x
 fix:∀(i:Nat) a,x[i]?=some a→a=Y.ev x i
 low:∀y,Y.Post y→∀(i:Nat) a b,x[i]?=some a→y[i]?=some b→Y.le a b
theorem Sys.Mid.done {x:List α} {T:Nat→Prop} (h:Y.Mid x T) (hT:∀k,¬ T k):Y.Least x:=⟨h.fit,fun i a ha=>h.fix i a ha (hT i),h.low⟩
theorem Sys.Least.post {x:List α} (h:Y.Least x):Y.Post x:=⟨h.fit,fun i a ha=>by
 have:=h.fix i a ha
 rw [← this]
 exact Y.refl a (h.fit.lt ha).2⟩
theorem Sys.Least.eq {x y:List α} (h:Y.Least x) (h':Y.Least y):x=y:=by
 apply List.ext_getElem?
 intro i
 by_cases hi:i < Y.n
 ·obtain ⟨a,ha,ka⟩:=h.fit.at hi
  obtain ⟨b,hb,kb⟩:=h'.fit.at hi
  rw [ha,hb,Y.anti a b ka kb (h.low y h'.post i a b ha hb) (h'.low x h.post i b a hb ha)]
 ·rw [List.getElem?_eq_none (by rw [h.fit.len];omega),List.getElem?_eq_none (by rw [h'.fit.len];omega)]
noncomputable def Sys.sol (Y:Sys α):List α:=open Classical in if h:∃ x,Y.Least x then h.choose else []
theorem Sys.Least.sol {x:List α} (h:Y.Least x):x=Y.sol:=by
 unfold Sys.sol
 rw [dif_pos ⟨x,h⟩]
 exact h.eq (Exists.choose_spec (⟨x,h⟩:∃ x,Y.Least x))
def Sys.gap (Y:Sys α) (x:List α):Nat:=(x.map fun a=>Y.top - Y.ht a).sum
theorem Sys.gap_set {x:List α} (hx:∀a ∈ x,Y.ok a) {i:Nat} {s t:α} (hs:x[i]?=some s) (ht:Y.ok t) (hle:Y.le s t) (hne:s ≠ t):Y.gap (x.set i t) < Y.gap x:=by
 have hso:=hx s (xmG hs)
 have h1:=Y.hlt s t hso ht hle hne
 have h2:=Y.htop t ht
 unfold Sys.gap
 clear hx
 induction x generalizing i with
 | nil=>simp at hs
 | cons a x ih =>
  cases i with
  | zero =>
   simp at hs;subst hs
   simp only [List.set_cons_zero,List.map_cons,List.sum_cons]
   omega
  | succ i =>
   simp only [List.set_cons_succ,List.map_cons,List.sum_cons]
   have:=ih (by simpa using hs)
   omega
theorem Sys.Mid.ends:∀(m:Nat) {x:List α},Y.Mid x (fun _=>True)→Y.gap x≤m→∃ x,Y.Least x:=by
 intro m
 induction m with
 | zero =>
  intro x h hm
  by_cases hall:∀(i:Nat) a,x[i]?=some a→a=Y.ev x i
  ·exact ⟨x,h.fit,hall,h.low⟩
  ·have:∃ (i:Nat) (a:α),x[i]?=some a∧a ≠ Y.ev x i:=Classical.byContradiction fun hno=>hall fun i a ha=>Classical.byContradiction fun hne=>hno ⟨i,a,ha,hne⟩
   obtain ⟨i,a,ha,hne⟩:=this
   have:=Y.gap_set h.fit.ok ha (h.fit.ev (h.fit.lt ha).1) (h.pre i a ha) hne
   omega
 | succ m ih =>
  intro x h hm
  by_cases hall:∀(i:Nat) a,x[i]?=some a→a=Y.ev x i
  ·exact ⟨x,h.fit,hall,h.low⟩
  ·have:∃ (i:Nat) (a:α),x[i]?=some a∧a ≠ Y.ev x i:=Classical.byContradiction fun hno=>hall fun i a ha=>Classical.byContradiction fun hne=>hno ⟨i,a,ha,hne⟩
   obtain ⟨i,a,ha,hne⟩:=this
   have:=Y.gap_set h.fit.ok ha (h.fit.ev (h.fit.lt ha).1) (h.pre i a ha) hne
   exact ih (h.step (T':=fun _=>True) ha (fun k hk=>absurd trivial hk) fun _ _ _ _=>trivial) (by omega)
theorem Sys.least (Y:Sys α):Y.Least Y.sol:=by
 obtain ⟨x,hx⟩:=Sys.Mid.ends (Y.gap (List.replicate Y.n Y.bot)) (Y:=Y) (x:=List.replicate Y.n Y.bot) (by
  have:=Sys.Mid.start (Y:=Y)
  exact ⟨this.fit,this.low,this.pre,fun i a ha h=>absurd trivial h⟩) (Nat.le_refl _)
 rw [← hx.sol];exact hx
end Go.Proofs.YtnhfofmhkfdpgaaGreatDoor.Vm
namespace Go.Proofs.YtnhfofmhkfdpgaaGreatDoor.Vm
open Go Go.RowKit
variable {N:Nat} {g:Glob}
abbrev Env:=Option (List Val)
@[simp] def valc (v:Val):List AV:=[.int .i64 v.k,.int .i64 v.c]
instance:PlainE valc:=⟨fun x=>by simp [valc,AV.stab]⟩
def envc:Env→List AV
 | none=>[.bool false,.nilsl]
 | some l=>[.bool true,.fsl 2 (els valc l)]
@[simp] def encE (e:Env):AV:=.agg (envc e)
def opsV:AV:=.agg [.func (.func 140) [] [],.func (.func 141) [] []]
theorem xBg {α:Type} {e:α→List AV} [PlainE e] {S:St} {o sz k n:Nat} {l:List α} (h:S.obj o=some (.row sz (els e l))) (hk:l.length=k):pict S [] (n + 2) (.sl sz o 0 k)=some (.fsl sz (els e l)):=by
 subst hk
 rw [xEs,xCC h (by simp)]
 simp [xAw]
def Val.zero:Val:=⟨0,0⟩
theorem Val.sane_ok (v:Val):v.sane.ok=true:=by
 unfold Val.sane
 split
 ·assumption
 ·rfl
theorem Val.sane_of {v:Val} (h:v.ok=true):v.sane=v:=by unfold Val.sane;rw [if_pos h]
theorem Val.ok_bot {v:Val} (h:v.ok=true) (hk:v.k=0):v=Val.zero:=by
 obtain ⟨k,c⟩:=v
 simp only at hk
 subst hk
 simp [Val.ok] at h
 simp [Val.zero,h]
def getL (l:List Val) (i:Int):Val:=if 0≤i∧i < l.length then (l.getD i.toNat Val.zero).sane else Val.zero
def Env.get (e:Env) (i:Int):Val:=match e with
 | none=>Val.zero
 | some l=>getL l i
@[simp] theorem xGP:opsV.cells=[.func (.func 140) [] [],.func (.func 141) [] []]:=rfl
def ownL (l:List Val) (n:Nat):List Val:=(List.range (max n l.length)).map fun k:Nat=>getL l (k:Int)
theorem xDd (l:List Val) (n:Nat):(ownL l n).length=max n l.length:=by simp [ownL]
def Env.own (e:Env):Env:=e.map fun l=>ownL l 0
def joinL (l m:List Val):List Val:=(List.range (max m.length l.length)).map fun k:Nat=>(getL l k).join (getL m k)
def Env.join (a b:Env):Env:=match a,b with
 | none,b=>b.own
 | a,none=>a.own
 | some l,some m=>some (joinL l m)
theorem xIH (l:List Val) (n:Nat) {k:Nat} (hk:k < max n l.length):(ownL l n)[k]?=some (getL l k):=by simp [ownL,hk]
def Env.set (e:Env) (i:Int) (v:Val):Env:=e.own.map fun l=>if 0≤i∧i < l.length then l.set i.toNat v.sane else l
def leqL (l m:List Val) (k:Nat):Prop:=∀j,j < k→(getL l (j:Nat)).leq (getL m (j:Nat))=true
noncomputable instance (l m:List Val) (k:Nat):Decidable (leqL l m k):=Classical.propDecidable _
noncomputable def Env.leq (a b:Env):Bool:=match a,b with
 | none,_=>true
 | some _,none=>false
 | some l,some m=>decide (leqL l m (max l.length m.length))
def capN (n:Int):Nat:=(max 0 (min n 64)).toNat
def startL (par vars:Int):List Val:=(List.range (capN vars)).map fun k:Nat=>if (k:Int) < par then ⟨2,0⟩ else ⟨1,0⟩
theorem xEA (par vars:Int):(startL par vars).length=capN vars:=by simp [startL]
def Ins.number (i:Ins) (e:Env):Val :=
 if i.kind=0 then ⟨1,wrap32 i.c⟩ else if i.kind=1 then e.get i.a else if i.kind=2 then Val.each i64sub ⟨1,wrap32 0⟩ (e.get i.a) else if i.kind=3 then (e.get i.a).each i64add (e.get i.b) else
 if i.kind=4 then (e.get i.a).each i64sub (e.get i.b) else if i.kind=5 then (e.get i.a).each i64mul (e.get i.b) else ⟨2,0⟩
def Ins.flat (i:Ins) (e:Env):Env:=e.set i.def (i.number e)
def pastL (e:Env) (l:List Ins):Env:=l.foldl (fun e i=>i.flat e) e
end Go.Proofs.YtnhfofmhkfdpgaaGreatDoor.Vm
namespace Go.Proofs.YtnhfofmhkfdpgaaGreatDoor.Vm
open Go Go.RowKit
theorem Val.cases {v:Val} (h:v.ok=true):v=⟨0,0⟩ ∨ v=⟨2,0⟩ ∨ ∃ c,v=⟨1,c⟩:=by
 obtain ⟨k,c⟩:=v
 unfold Val.ok at h
 simp only at h
 split at h
 ·rename_i hk;subst hk;exact .inr (.inr ⟨c,rfl⟩)
 ·split at h
  ·rename_i h1 hk
   simp only [decide_eq_true_eq] at h
   subst h
   rcases hk with rfl | rfl
   ·exact .inl rfl
   ·exact .inr (.inl rfl)
  ·cases h
theorem Val.join_of {a b:Val} (ha:a.ok=true) (hb:b.ok=true):a.join b=if a.k=0 ∨ a=b then b else if b.k=0 then a else ⟨2,0⟩:=by
 unfold Val.join;rw [Val.sane_of ha,Val.sane_of hb]
def Val.le (a b:Val):Prop:=a.k=0 ∨ b.k=2 ∨ a=b
theorem Val.le_refl (a:Val):a.le a:=.inr (.inr rfl)
theorem Val.ok_top {v:Val} (h:v.ok=true) (hk:v.k=2):v=⟨2,0⟩:=by
 rcases Val.cases h with rfl | rfl | ⟨c,rfl⟩
 ·cases hk
 ·rfl
 ·cases hk
theorem Val.le_trans {a b c:Val} (hb:b.ok=true) (h1:a.le b) (h2:b.le c):a.le c:=by
 rcases h1 with h1 | h1 | h1
 ·exact .inl h1
 ·rcases h2 with h2 | h2 | h2
  ·rw [h1] at h2;cases h2
  ·exact .inr (.inl h2)
  ·rw [← h2];exact .inr (.inl h1)
 ·rw [h1];exact h2
theorem Val.le_anti {a b:Val} (ha:a.ok=true) (hb:b.ok=true) (h1:a.le b) (h2:b.le a):a=b:=by
 rcases h1 with h1 | h1 | h1
 ·rcases h2 with h2 | h2 | h2
  ·rw [Val.ok_bot ha h1,Val.ok_bot hb h2]
  ·rw [h1] at h2;cases h2
  ·exact h2.symm
 ·rcases h2 with h2 | h2 | h2
  ·rw [h1] at h2;cases h2
  ·rw [Val.ok_top ha h2,Val.ok_top hb h1]
  ·exact h2.symm
 ·exact h1
theorem Val.join_ok {a b:Val} (ha:a.ok=true) (hb:b.ok=true):(a.join b).ok=true:=by
 rw [Val.join_of ha hb]
 split
 ·exact hb
 ·split
  ·exact ha
  ·rfl
theorem Val.join_ok' (a b:Val):(a.join b).ok=true:=by
 unfold Val.join
 split
 ·exact b.sane_ok
 ·split
  ·exact a.sane_ok
  ·rfl
theorem Val.le_join_l {a b:Val} (ha:a.ok=true) (hb:b.ok=true):a.le (a.join b):=by
 rw [Val.join_of ha hb]
 split
 ·rename_i h
  rcases h with h | h
  ·exact .inl h
  ·exact .inr (.inr h)
 ·split
  ·exact Val.le_refl a
  ·exact .inr (.inl rfl)
theorem Val.le_join_r {a b:Val} (ha:a.ok=true) (hb:b.ok=true):b.le (a.join b):=by
 rw [Val.join_of ha hb]
 split
 ·exact Val.le_refl b
 ·split
  ·rename_i h;exact .inl h
  ·exact .inr (.inl rfl)
theorem Val.join_le {a b c:Val} (ha:a.ok=true) (hb:b.ok=true) (hc:c.ok=true) (h1:a.le c) (h2:b.le c):(a.join b).le c:=by
 rw [Val.join_of ha hb]
 split
 ·exact h2
 ·split
  ·exact h1
  ·rename_i h3 h4
   rcases h1 with h1 | h1 | h1
   ·exact absurd (.inl h1) h3
   ·exact .inr (.inl h1)
   ·rcases h2 with h2 | h2 | h2
    ·exact absurd h2 h4
    ·exact .inr (.inl h2)
    ·exact absurd (.inr (h1.trans h2.symm)) h3
theorem Val.join_mono {a b a' b':Val} (ha:a.ok=true) (hb:b.ok=true) (ha':a'.ok=true) (hb':b'.ok=true) (h1:a.le a') (h2:b.le b'):(a.join b).le (a'.join b') :=
 Val.join_le ha hb (Val.join_ok ha' hb') (Val.le_trans ha' h1 (Val.le_join_l ha' hb')) (Val.le_trans hb' h2 (Val.le_join_r ha' hb'))
theorem Val.leq_iff {a b:Val} (ha:a.ok=true) (hb:b.ok=true):a.leq b=true ↔ a.le b:=by
 unfold Val.leq
 rw [decide_eq_true_eq,Val.sane_of hb]
 constructor
 ·intro h;rw [← h];exact Val.le_join_l ha hb
 ·intro h
  exact Val.le_anti (Val.join_ok ha hb) hb (Val.join_le ha hb hb h (Val.le_refl b)) (Val.le_join_r ha hb)
theorem Val.each_of {op:Int→Int→Int} {a b:Val} (ha:a.ok=true) (hb:b.ok=true):a.each op b=if a.k=0 ∨ b.k=0 then ⟨0,0⟩ else if a.k=2 ∨ b.k=2 then ⟨2,0⟩ else ⟨1,wrap32 (op a.c b.c)⟩:=by
 unfold Val.each;rw [Val.sane_of ha,Val.sane_of hb]
theorem Val.one_ok (n:Int):(⟨1,wrap32 n⟩:Val).ok=true:=by
 have:=xBF n
 simp [Val.ok,this]
theorem Val.each_ok (op:Int→Int→Int) (a b:Val):(a.each op b).ok=true:=by
 unfold Val.each
 split
 ·rfl
 ·split
  ·rfl
  ·exact Val.one_ok _
theorem Val.each_mono {op:Int→Int→Int} {a b a' b':Val} (ha:a.ok=true) (hb:b.ok=true) (ha':a'.ok=true) (hb':b'.ok=true) (h1:a.le a') (h2:b.le b'):(a.each op b).le (a'.each op b'):=by
 have e3:=Val.each_of (op:=op) ha' hb'
 rw [Val.each_of ha hb]
 by_cases h0:a.k=0 ∨ b.k=0
 ·rw [if_pos h0];exact .inl rfl
 ·rw [if_neg h0]
  have n1:a'.k ≠ 0:=by
   intro h
   rcases h1 with h1 | h1 | h1
   ·exact h0 (.inl h1)
   ·rw [h] at h1;cases h1
   ·rw [← h1] at h;exact h0 (.inl h)
  have n2:b'.k ≠ 0:=by
   intro h
   rcases h2 with h2 | h2 | h2
   ·exact h0 (.inr h2)
   ·rw [h] at h2;cases h2
   ·rw [← h2] at h;exact h0 (.inr h)
  rw [if_neg (fun h=>h.elim n1 n2)] at e3
  by_cases h3:a'.k=2 ∨ b'.k=2
  ·rw [if_pos h3] at e3
   rw [e3];exact .inr (.inl rfl)
  ·rw [if_neg h3] at e3
   rw [e3]
   have e1:a=a':=by
    rcases h1 with h1 | h1 | h1
    ·exact absurd (.inl h1) h0
    ·exact absurd (.inl h1) h3
    ·exact h1
   have e2:b=b':=by
    rcases h2 with h2 | h2 | h2
    ·exact absurd (.inr h2) h0
    ·exact absurd (.inr h2) h3
    ·exact h2
   subst e1;subst e2
   rw [if_neg h3]
   exact Val.le_refl _
theorem Val.le_k {a b:Val} (ha:a.ok=true) (hb:b.ok=true) (h:a.le b):a.k.toNat≤b.k.toNat∧(a ≠ b→a.k.toNat < b.k.toNat)∧b.k.toNat≤2:=by
 rcases Val.cases ha with rfl | rfl | ⟨c,rfl⟩ <;> rcases Val.cases hb with rfl | rfl | ⟨d,rfl⟩ <;> simp [Val.le] at h ⊢
 exact h
def okL (l:List Val):Prop:=∀v ∈ l,v.ok=true
theorem xCi {l:List Val} (h:okL l) {k:Nat} {v:Val} (hv:l[k]?=some v):getL l (k:Int)=v:=by
 have hk:=(xgS hv).1
 unfold getL
 rw [if_pos (by omega)]
 simp only [Int.toNat_natCast,List.getD_eq_getElem?_getD,hv,Option.getD_some]
 exact Val.sane_of (h v (xmG hv))
theorem xJR (l:List Val) (i:Int):(getL l i).ok=true:=by
 unfold getL
 split
 ·exact Val.sane_ok _
 ·rfl
theorem xQG {l:List Val} (h:okL l):ownL l 0=l:=by
 apply List.ext_getElem?
 intro k
 by_cases hk:k < l.length
 ·obtain ⟨v,hv⟩:∃ v,l[k]?=some v:=⟨_,xgG hk⟩
  rw [xIH l 0 (by omega),xCi h hv,hv]
 ·rw [List.getElem?_eq_none (by rw [xDd];omega),List.getElem?_eq_none (by omega)]
def leL (l m:List Val):Prop:=∀(k:Nat) (a b:Val),l[k]?=some a→m[k]?=some b→a.le b
theorem xNm {l m:List Val} (hl:okL l) (hm:okL m) (hn:l.length=m.length) (h:leL l m) (i:Int):(getL l i).le (getL m i):=by
 by_cases hi:0≤i∧i < l.length
 ·obtain ⟨k,rfl⟩:∃ k:Nat,i=(k:Int):=⟨i.toNat,by omega⟩
  obtain ⟨a,ha⟩:∃ v,l[k]?=some v:=⟨_,xgG (by omega)⟩
  obtain ⟨b,hb⟩:∃ v,m[k]?=some v:=⟨_,xgG (by omega)⟩
  rw [xCi hl ha,xCi hm hb]
  exact h k a b ha hb
 ·have e:getL l i=Val.zero:=by unfold getL;rw [if_neg hi]
  rw [e];exact .inl rfl
def Env.fit (n:Nat) (e:Env):Prop:=∀l,e=some l→l.length=n∧okL l
def Env.le (a b:Env):Prop:=∀l,a=some l→∃ m,b=some m∧leL l m
theorem Env.fit_none (n:Nat):Env.fit n none:=fun l h=>by cases h
theorem Env.fit_some {n:Nat} {l:List Val} (h1:l.length=n) (h2:okL l):Env.fit n (some l):=fun m h=>by cases h;exact ⟨h1,h2⟩
theorem Env.own_of {n:Nat} {e:Env} (h:e.fit n):e.own=e:=by
 cases e with
 | none=>rfl
 | some l=>simp [Env.own,xQG (h l rfl).2]
theorem Env.le_refl (e:Env):e.le e:=fun l h=>⟨l,h,fun k a b ha hb=>by rw [ha] at hb;cases hb;exact Val.le_refl a⟩
theorem Env.le_none (e:Env):Env.le none e:=fun l h=>by cases h
theorem Env.le_trans {n:Nat} {a b c:Env} (hb:b.fit n) (hc:c.fit n) (h1:a.le b) (h2:b.le c) (ha:a.fit n):a.le c:=by
 intro l hl
 obtain ⟨m,hm,h3⟩:=h1 l hl
 obtain ⟨q,hq,h4⟩:=h2 m hm
 refine ⟨q,hq,fun k x z hx hz=>?_⟩
 have hk:=(xgS hx).1
 have e1:=(ha l hl).1
 have e2:=(hb m hm).1
 obtain ⟨y,hy⟩:∃ v,m[k]?=some v:=⟨_,xgG (by omega)⟩
 exact Val.le_trans ((hb m hm).2 y (xmG hy)) (h3 k x y hx hy) (h4 k y z hy hz)
theorem Env.le_anti {n:Nat} {a b:Env} (ha:a.fit n) (hb:b.fit n) (h1:a.le b) (h2:b.le a):a=b:=by
 cases a with
 | none =>
  cases b with
  | none=>rfl
  | some m=>obtain ⟨l,hl,_⟩:=h2 m rfl;cases hl
 | some l =>
  obtain ⟨m,hm,h3⟩:=h1 l rfl
  subst hm
  obtain ⟨l',hl',h4⟩:=h2 m rfl
  cases hl'
  congr 1
  have e1:=(ha l rfl).1
  have e2:=(hb m rfl).1
  apply List.ext_getElem?
  intro k
  by_cases hk:k < n
  ·obtain ⟨x,hx⟩:∃ v,l[k]?=some v:=⟨_,xgG (by omega)⟩
   obtain ⟨y,hy⟩:∃ v,m[k]?=some v:=⟨_,xgG (by omega)⟩
   rw [hx,hy,Val.le_anti ((ha l rfl).2 x (xmG hx)) ((hb m rfl).2 y (xmG hy)) (h3 k x y hx hy) (h4 k y x hy hx)]
  ·rw [List.getElem?_eq_none (by omega),List.getElem?_eq_none (by omega)]
theorem xFX {l m:List Val} {n:Nat} (hl:l.length=n) (hm:m.length=n) {k:Nat} (hk:k < n):(joinL l m)[k]?=some ((getL l k).join (getL m k)):=by
 simp [joinL,hl,hm,hk]
theorem Env.join_fit {n:Nat} {a b:Env} (ha:a.fit n) (hb:b.fit n):(a.join b).fit n:=by
 cases a with
 | none=>show Env.fit n b.own;rw [Env.own_of hb];exact hb
 | some l =>
  cases b with
  | none=>show Env.fit n (Env.own (some l));rw [Env.own_of ha];exact ha
  | some m =>
   refine Env.fit_some ?_ fun v hv=>?_
   ·simp [joinL,(ha l rfl).1,(hb m rfl).1]
   ·simp only [joinL,List.mem_map] at hv
    obtain ⟨k,_,rfl⟩:=hv
    exact Val.join_ok' _ _
theorem Env.le_join_l {n:Nat} {a b:Env} (ha:a.fit n) (hb:b.fit n):a.le (a.join b):=by
 cases a with
 | none=>exact Env.le_none _
 | some l =>
  cases b with
  | none=>show Env.le (some l) (Env.own (some l));rw [Env.own_of ha];exact Env.le_refl _
  | some m =>
   intro l' hl'
   cases hl'
   refine ⟨joinL l m,rfl,fun k x z hx hz=>?_⟩
   have hk:=(xgS hx).1
   rw [xFX (ha l rfl).1 (hb m rfl).1 (by have:=(ha l rfl).1;omega),xCi (ha l rfl).2 hx] at hz
   cases hz
   exact Val.le_join_l ((ha l rfl).2 x (xmG hx)) (xJR _ _)
theorem Env.le_join_r {n:Nat} {a b:Env} (ha:a.fit n) (hb:b.fit n):b.le (a.join b):=by
 cases a with
 | none=>show Env.le b b.own;rw [Env.own_of hb];exact Env.le_refl _
 | some l =>
  cases b with
  | none=>exact Env.le_none _
  | some m =>
   intro l' hl'
   cases hl'
   refine ⟨joinL l m,rfl,fun k x z hx hz=>?_⟩
   have hk:=(xgS hx).1
   rw [xFX (ha l rfl).1 (hb m rfl).1 (by have:=(hb m rfl).1;omega),xCi (hb m rfl).2 hx] at hz
   cases hz
   exact Val.le_join_r (xJR _ _) ((hb m rfl).2 x (xmG hx))
theorem Env.join_le {n:Nat} {a b c:Env} (ha:a.fit n) (hb:b.fit n) (hc:c.fit n) (h1:a.le c) (h2:b.le c):(a.join b).le c:=by
 cases a with
 | none=>show Env.le b.own c;rw [Env.own_of hb];exact h2
 | some l =>
  cases b with
  | none=>show Env.le (Env.own (some l)) c;rw [Env.own_of ha];exact h1
  | some m =>
   intro l' hl'
   cases hl'
   obtain ⟨q,hq,h3⟩:=h1 l rfl
   obtain ⟨q',hq',h4⟩:=h2 m rfl
   rw [hq] at hq';cases hq'
   refine ⟨q,hq,fun k x z hx hz=>?_⟩
   have hk:=(xgS hz).1
   have e1:=(ha l rfl).1
   have e2:=(hb m rfl).1
   have e3:=(hc q hq).1
   obtain ⟨u,hu⟩:∃ v,l[k]?=some v:=⟨_,xgG (by omega)⟩
   obtain ⟨v,hv⟩:∃ v,m[k]?=some v:=⟨_,xgG (by omega)⟩
   rw [xFX e1 e2 (by omega),xCi (ha l rfl).2 hu,xCi (hb m rfl).2 hv] at hx
   cases hx
   exact Val.join_le ((ha l rfl).2 u (xmG hu)) ((hb m rfl).2 v (xmG hv)) ((hc q hq).2 z (xmG hz)) (h3 k u z hu hz) (h4 k v z hv hz)
theorem Env.join_mono {n:Nat} {a b a' b':Env} (ha:a.fit n) (hb:b.fit n) (ha':a'.fit n) (hb':b'.fit n) (h1:a.le a') (h2:b.le b'):(a.join b).le (a'.join b') :=
 Env.join_le ha hb (Env.join_fit ha' hb') (Env.le_trans ha' (Env.join_fit ha' hb') h1 (Env.le_join_l ha' hb') ha) (Env.le_trans hb' (Env.join_fit ha' hb') h2 (Env.le_join_r ha' hb') hb)
theorem Env.get_ok (e:Env) (i:Int):(e.get i).ok=true:=by
 cases e with
 | none=>rfl
 | some l=>exact xJR l i
theorem Env.get_mono {n:Nat} {a b:Env} (ha:a.fit n) (hb:b.fit n) (h:a.le b) (i:Int):(a.get i).le (b.get i):=by
 cases a with
 | none=>exact .inl rfl
 | some l =>
  obtain ⟨m,hm,h3⟩:=h l rfl
  subst hm
  exact xNm (ha l rfl).2 (hb m rfl).2 (by rw [(ha l rfl).1,(hb m rfl).1]) h3 i
theorem Env.set_of {n:Nat} {l:List Val} (h:Env.fit n (some l)) (i:Int) {v:Val} (hv:v.ok=true):Env.set (some l) i v=some (if 0≤i∧i < n then l.set i.toNat v else l):=by
 show Option.map _ (Env.own (some l))=_
 rw [Env.own_of h]
 simp [Val.sane_of hv,(h l rfl).1]
theorem Env.set_fit {n:Nat} {e:Env} (h:e.fit n) (i:Int) {v:Val} (hv:v.ok=true):(e.set i v).fit n:=by
 cases e with
 | none=>exact Env.fit_none n
 | some l =>
  rw [Env.set_of h i hv]
  refine Env.fit_some ?_ fun u hu=>?_
  ·split <;> simp [(h l rfl).1]
  ·split at hu
   ·rcases List.mem_or_eq_of_mem_set hu with h1 | h1
    ·exact (h l rfl).2 u h1
    ·rw [h1];exact hv
   ·exact (h l rfl).2 u hu
theorem Env.set_mono {n:Nat} {a b:Env} (ha:a.fit n) (hb:b.fit n) (h:a.le b) (i:Int) {u v:Val} (hu:u.ok=true) (hv:v.ok=true) (huv:u.le v):(a.set i u).le (b.set i v):=by
 cases a with
 | none=>exact Env.le_none _
 | some l =>
  obtain ⟨m,hm,h3⟩:=h l rfl
  subst hm
  rw [Env.set_of ha i hu,Env.set_of hb i hv]
  intro l' hl'
  cases hl'
  refine ⟨_,rfl,fun k x y hx hy=>?_⟩
  by_cases hi:0≤i∧i < n
  ·rw [if_pos hi] at hx hy
   by_cases hk:k=i.toNat
   ·subst hk
    rw [List.getElem?_set_self (by rw [(ha l rfl).1];omega)] at hx
    rw [List.getElem?_set_self (by rw [(hb m rfl).1];omega)] at hy
    cases hx;cases hy;exact huv
   ·rw [List.getElem?_set_ne (Ne.symm hk)] at hx hy
    exact h3 k x y hx hy
  ·rw [if_neg hi] at hx hy
   exact h3 k x y hx hy
theorem Ins.number_ok (i:Ins) (e:Env):(i.number e).ok=true:=by
 unfold Ins.number
 repeat' split
 all_goals first | exact Val.one_ok _ | exact Env.get_ok _ _ | exact Val.each_ok _ _ _ | rfl
theorem Ins.number_mono {n:Nat} {a b:Env} (ha:a.fit n) (hb:b.fit n) (h:a.le b) (i:Ins):(i.number a).le (i.number b):=by
 have g1:=Env.get_mono ha hb h i.a
 have g2:=Env.get_mono ha hb h i.b
 have o1:=Env.get_ok a i.a
 have o2:=Env.get_ok a i.b
 have o3:=Env.get_ok b i.a
 have o4:=Env.get_ok b i.b
 unfold Ins.number
 repeat' split
 all_goals first | exact Val.le_refl _ | exact g1 | exact Val.each_mono (Val.one_ok _) o1 (Val.one_ok _) o3 (Val.le_refl _) g1 | exact Val.each_mono o1 o2 o3 o4 g1 g2
theorem Ins.flat_fit {n:Nat} {e:Env} (h:e.fit n) (i:Ins):(i.flat e).fit n:=Env.set_fit h _ (i.number_ok e)
theorem Ins.flat_mono {n:Nat} {a b:Env} (ha:a.fit n) (hb:b.fit n) (h:a.le b) (i:Ins):(i.flat a).le (i.flat b):=Env.set_mono ha hb h _ (i.number_ok a) (i.number_ok b) (i.number_mono ha hb h)
theorem xB3 {n:Nat} {l:List Ins}:∀{e:Env},e.fit n→(pastL e l).fit n:=by
 induction l with
 | nil=>intro e h;exact h
 | cons i l ih=>intro e h;exact ih (i.flat_fit h)
theorem xLI {n:Nat} {l:List Ins}:∀{a b:Env},a.fit n→b.fit n→a.le b→(pastL a l).le (pastL b l):=by
 induction l with
 | nil=>intro a b _ _ h;exact h
 | cons i l ih=>intro a b ha hb h;exact ih (i.flat_fit ha) (i.flat_fit hb) (i.flat_mono ha hb h)
theorem xIM (par vars:Int):okL (startL par vars):=by
 intro v hv
 simp only [startL,List.mem_map] at hv
 obtain ⟨k,_,rfl⟩:=hv
 split <;> rfl
def Env.ht:Env→Nat
 | none=>0
 | some l=>1 + (l.map fun v:Val=>v.k.toNat).sum
theorem htL {l m:List Val} (hl:okL l) (hm:okL m) (hn:l.length=m.length) (h:leL l m):(l.map fun v:Val=>v.k.toNat).sum≤(m.map fun v:Val=>v.k.toNat).sum∧(l ≠ m→(l.map fun v:Val=>v.k.toNat).sum < (m.map fun v:Val=>v.k.toNat).sum)∧(m.map fun v:Val=>v.k.toNat).sum≤2 * m.length:=by
 induction l generalizing m with
 | nil =>
  cases m with
  | nil=>simp
  | cons b m=>simp at hn
 | cons a l ih =>
  cases m with
  | nil=>simp at hn
  | cons b m =>
   obtain ⟨h1,h2,h3⟩:=ih (m:=m) (fun v hv=>hl v (by simp [hv])) (fun v hv=>hm v (by simp [hv])) (by simpa using hn) fun k x y hx hy=>h (k + 1) x y (by simpa using hx) (by simpa using hy)
   obtain ⟨g1,g2,g3⟩:=Val.le_k (hl a (by simp)) (hm b (by simp)) (h 0 a b rfl rfl)
   simp only [List.map_cons,List.sum_cons,List.length_cons]
   refine ⟨by omega,fun hne=>?_,by omega⟩
   by_cases hab:a=b
   ·have:l ≠ m:=fun e=>hne (by rw [hab,e])
    have:=h2 this
    omega
   ·have:=g2 hab
    omega
end Go.Proofs.YtnhfofmhkfdpgaaGreatDoor.Vm
namespace Go.Proofs.YtnhfofmhkfdpgaaGreatDoor.Vm
open Go Go.RowKit
set_option maxRecDepth 100000
variable {N:Nat} {g:Glob}
noncomputable def runCode (z:AV):VCode:=zs (zr [zk 10 0]) (zs (zr [zm 24 0,zc1 25 118 24,zm 11 25]) (zs (zr [zm 26 0,zn 27 26,⟨some 28,.sk (.makeSlice [.bool false] 1 1) [.t 27,.t 27],none⟩,zm 12 28]) (zs (zs (zr [zm 29 1,zn 30 29,zk 31 0]) (.block 0 (.loop (zs (zr [zt 32 31 30]) (zs (.cond (.t 32) .skip (.exit 0)) (zs (.block 1 (zs (zr [zi 33 1 29 31,zl 34 1 33,zm 14 34]) (zs (zr [zm 35 14,⟨some 36,.pk (.ibin .geq) [.t 35,.c (.int .i64 0)],none⟩,zm 37 36,zg true 37 (zm 38 14),zg true 37 (zm 39 0),zg true 37 (zn 40 39),zg true 37 (zt 41 38 40),zu 42 37 41]) (.cond (.t 42) (zr [zm 43 12,zm 44 14,zi 45 1 43 44,⟨none,.sk (.store 1) [.t 45,.c (.bool true)],none⟩]) .skip)))) (zr [zp 46 31,zm 31 46]))))))) (zs (zr [zm 47 11,⟨some 48,.callF 120 [.t 47,.c (.int .i64 0)],none⟩,zc1 49 119 48,zm 15 49]) (zs (zs (zr [zm 50 12,zn 51 50,zk 52 0]) (.block 2 (.loop (zs (zr [zt 53 52 51]) (zs (.cond (.t 53) .skip (.exit 2)) (zs (.block 3 (zs (zr [zm 54 52,zi 55 1 50 52,zl 56 1 55,zm 16 54,zm 17 56]) (zs (zr [zm 57 17]) (.cond (.t 57) (zr [zm 58 15,zm 59 16,zc2 60 121 58 59]) .skip)))) (zr [zp 61 52,zm 52 61]))))))) (zs (zr [zk 18 0]) (zs (zs (zr [zm 63 15,zc1 64 122 63,zm 62 64,ze 65 0 62,ze 66 1 62,zm 19 65,zm 20 66]) (.block 4 (.loop (zs (zs (zr [zm 67 20]) (.cond (.t 67) .skip (.exit 4))) (zs (.block 5 (zs (zr [zm 73 18,zp 74 73,zm 18 74]) (zs (zr [zm 75 2,zm 76 19,zi 77 2 75 76,zL 78 2 77,⟨some 21,.sk (.alloc [z,.nilsl]) [],none⟩,zw 2 21 78]) (zs (zr [zm 79 2,zm 80 19,zm 81 3,zm 82 19,zm 83 2,⟨some 84,.callV (.t 81) [.t 82,.t 83],none⟩,zi 85 2 79 80,zw 2 85 84]) (zs (zs (.region true [zm 86 4,zL 87 2 21,zm 88 2,zm 89 19,zi 90 2 88 89,zL 91 2 90,⟨some 92,.callV (.t 86) [.t 87,.t 91],none⟩] [[],[],[],[],[2,3],[4],[0,1,5]]) (.cond (.t 92) (.exit 5) .skip)) (zs (zr [zm 93 11,zm 94 19,zi 95 1 93 94,zl 96 1 95,zn 97 96,zk 98 0]) (.block 6 (.loop (zs (zr [zt 99 98 97]) (zs (.cond (.t 99) .skip (.exit 6)) (zs (.block 7 (zs (zr [zi 100 1 96 98,zl 101 1 100,zm 23 101]) (zs (zr [zm 102 12,zm 103 23,zi 104 1 102 103,zl 105 1 104]) (.cond (.t 105) (zr [zm 106 15,zm 107 23,zc2 108 121 106 107]) .skip)))) (zr [zp 109 98,zm 98 109])))))))))))) (zr [zm 69 15,zc1 70 122 69,zm 68 70,ze 71 0 68,ze 72 1 68,zm 19 71,zm 20 72])))))) (zs (zr [zm 110 18,zm 10 110]) .ret))))))))
structure El (α:Type) where
 c1:α→AV
 c2:α→AV
 o1:∀a,(c1 a).one=true
 o2:∀a,(c2 a).one=true
 s1:∀a,(c1 a).stab=true
 s2:∀a,(c2 a).stab=true
 d1:∀a,(c1 a).solid=true
 d2:∀a,(c2 a).solid=true
def El.e {α:Type} (E:El α) (a:α):List AV:=[E.c1 a,E.c2 a]
section
variable {α:Type} {E:El α} {Y:Sys α}
structure GRun (Y:Sys α) (E:El α) (o ib B:Nat) (x:List α) (h:List Nat) (t:Option Nat) (S0 S:St) (W:Nat):Prop where
 ex:∃ ord A I H ho ov,Wo Y.n ord S W A I H ho ov h∧B≤A∧B≤I∧B≤H∧B≤ho∧Y.Mid x (fun j=>todo ord h j ∨ t=some j)∧(t=none→∀j,¬ todo ord h j)
 ti:∀i,t=some i→i < Y.n
 row:S.obj o=some (.row 2 (els E.e x))
 inn:S.obj ib=some (.row 1 (els boolc (List.replicate Y.n true)))
 lt:o < ib∧ib < B∧B≤S.next∧B≤W
 keep:∀q,q < ib→q ≠ o→S.obj q=S0.obj q
def GPut (Y:Sys α) (E:El α) (o ib B:Nat) (x:List α) (ord:List Nat) (W A I H:Nat) (ov:AV) (D:Nat→Nat→Prop) (a:Nat) (S0 S:St):Prop:=∃ ho h,Wo Y.n ord S W A I H ho ov h∧B≤ho∧(∀j,todo ord h j ↔ D a j)∧S.obj o=some (.row 2 (els E.e x)) ∧
 S.obj ib=some (.row 1 (els boolc (List.replicate Y.n true)))∧B≤S.next∧∀q,q < ib→q ≠ o→S.obj q=S0.obj q
theorem xEa {o ib B:Nat} {I H ho ho':Nat} {S0 S S':St} (hf:WoF S S' I H ho) (hho:ho'=ho ∨ S.next≤ho') (hB:o < ib∧ib < B∧B≤S.next) (hI:B≤I) (hH:B≤H) (hh:B≤ho) (keep:∀q,q < ib→q ≠ o→S.obj q=S0.obj q) :
  S'.obj o=S.obj o∧S'.obj ib=S.obj ib∧B≤ho'∧(∀q,q < ib→q ≠ o→S'.obj q=S0.obj q):=by
 have hq:∀q,q < B→S'.obj q=S.obj q:=fun q hq=>hf.2 q (by omega) (by omega) (by omega) (by omega)
 exact ⟨hq o (by omega),hq ib (by omega),by omega,fun q h1 h2=>by rw [hq q (by omega)];exact keep q h1 h2⟩
structure GEv (g:Glob) (Y:Sys α) (E:El α) (evV:AV) (fs:Nat) (o:Nat) (S0:St):Prop where
 ev:∀(S:St) (x:List α) (i:Nat) (K:AV→St→Prop),Y.Fit x→i < Y.n→S0.next≤S.next→S.obj o=some (.row 2 (els E.e x))→(∀q,q < S0.next→q ≠ o→S.obj q=S0.obj q)→(∀S',Up S S'→K (.agg (E.e (Y.ev x i))) S')→CalV P g evV [.int .i64 (i:Int),.sl 2 o 0 Y.n] S K
 same:∀a b,Y.ok a→Y.ok b→∃ t:Bool,(t=true ↔ a=b)∧Ret P g false fs [.agg (E.e a),.agg (E.e b)] (.bool t)
end
end Go.Proofs.YtnhfofmhkfdpgaaGreatDoor.Vm
namespace Go.Proofs.YtnhfofmhkfdpgaaGreatDoor.Vm
open Go Go.RowKit
variable {N:Nat} {g:Glob}
def Fun.outs (f:Fun) (k:Nat):List Int:=(f.blks[k]?.map Blk.out).getD []
def Fun.code (f:Fun) (k:Nat):List Ins:=(f.blks[k]?.map Blk.ins).getD []
def Fun.predsTo (f:Fun) (b:Int) (k:Nat):List Int:=((List.range k).filter fun j=>decide (b ∈ f.outs j)).map fun j:Nat=>(j:Int)
def Fun.preds (f:Fun) (b:Int):List Int:=f.predsTo b f.blks.length
theorem Fun.predsTo_succ {f:Fun} {b:Int} {k:Nat} {x:Blk} (hx:f.blks[k]?=some x):f.predsTo b (k + 1)=f.predsTo b k ++ if b ∈ x.out then [(k:Int)] else []:=by
 have e:f.outs k=x.out:=by simp [Fun.outs,hx]
 unfold Fun.predsTo
 rw [List.range_succ,List.filter_append,List.map_append]
 congr 1
 by_cases h:b ∈ x.out <;> simp [e,h]
theorem Fun.predsTo_len (f:Fun) (b:Int) (k:Nat):(f.predsTo b k).length≤k:=by
 unfold Fun.predsTo
 have:=List.length_filter_le (fun j=>decide (b ∈ f.outs j)) (List.range k)
 simpa using this
theorem Fun.preds_mem {f:Fun} {b j:Int}:j ∈ f.preds b ↔ ∃ k x,j=((k:Nat):Int)∧f.blks[k]?=some x∧b ∈ x.out:=by
 unfold Fun.preds Fun.predsTo
 simp only [List.mem_map,List.mem_filter,List.mem_range,decide_eq_true_eq]
 constructor
 ·rintro ⟨k,⟨hk,hb⟩,rfl⟩
  refine ⟨k,f.blks[k],rfl,xgG hk,?_⟩
  simpa [Fun.outs,xgG hk] using hb
 ·rintro ⟨k,x,rfl,hx,hb⟩
  exact ⟨k,⟨(xgS hx).1,by simpa [Fun.outs,hx] using hb⟩,rfl⟩
noncomputable def Prg.preds (p:Prg) (i b:Int):List Int:=((p.fn i).getD Fun.none).preds b
theorem xEB (p:Prg) (i b:Int) (hp:p.Fit):OwnL P (gl N) intc 1 19 [encP p,.int .i64 i,.int .i64 b] (p.preds i b):=by
 refine OwnL.in c19 (by simp) ?_
 simp [k19]
 refine (xD1 p i hp).use (n:=9) (by simp [mapOpt,xAd p.funsS.stab]) (by simp [solids,AV.solid,p.funsS.solid]) ?_
 have hsm:((p.fn i).getD Fun.none).Small:=by
  cases h:p.fn i with
  | none=>exact ⟨by simp,fun b hb=>by simp at hb,fun b hb=>by simp at hb⟩
  | some f=>exact xKy hp h
 have h12:((p.fn i).getD Fun.none).blks.length≤12:=by
  cases h:p.fn i with
  | none=>simp
  | some f=>exact (xQB h).len.2
 have hpr:p.preds i b=((p.fn i).getD Fun.none).preds b:=rfl
 rw [hpr]
 generalize (p.fn i).getD Fun.none=f at *
 simp
 refine W.whileI (fun (k:Nat) F S=>k≤f.blks.length∧F 2=.int .i64 b∧F 19=f.blksV∧F 20=.int .i64 f.blks.length∧F 21=.int .i64 k∧Has intc 1 S (F 9) (f.predsTo b k)∧Bel S (F 9)) (fun k=>f.blks.length - k) ?_ 0 _ _ ?_
 ·rintro k F S ⟨hk,h2,h19,h20,h21,h9,hb9⟩
  by_cases hlt:k < f.blks.length
  ·obtain ⟨y,hy⟩:∃ y,f.blks[k]?=some y:=⟨_,xgG hlt⟩
   have hbl:=hsm.blks
   have e4:=wrapS k (by omega)
   have hst:=Fun.predsTo_succ (b:=b) hy
   have hpl:=f.predsTo_len b k
   have hol:y.out.length < 2 ^ 40:=by have:=hsm.out y (xmG hy);omega
   simp [h20,h21,hlt]
   simp [h19,h21,f.blksS.idx hy,h2]
   refine (xB1 (g:=gl N) y.out b y.outV y.outS hol).use (n:=9) (by simp [mapOpt]) rfl ?_
   generalize hS1:(S.new (.row 3 [[.bool false,.nilsl,.nilsl]])).set S.next (.row 3 [[.bool y.on,y.insV,y.outV]])=S1
   have hn1:S1.next=S.next + 1:=by rw [← hS1];simp
   have h91:Has intc 1 S1 (F 9) (f.predsTo b k):=h9.keep fun q ⟨len,hq⟩=>by
    have:=hb9 _ _ _ hq
    rw [← hS1];simp [show ¬ q=S.next by omega]
   have hb1:Bel S1 (F 9):=hb9.mono (by omega)
   clear hS1
   by_cases hm:b ∈ y.out
   ·simp [hm] at hst ⊢
    refine xBe (e:=intc) (x:=(k:Int)) (h91.new hb1) rfl (by simp [room];omega) ?_
    intro S' hS hnx hoth
    simp [h2,h19,h20,h21,e4]
    exact ⟨k + 1,by omega,by omega,by omega,by rw [hst];simpa using hS,Bel.sl (by rw [hnx];exact Nat.lt_succ_self _)⟩
   ·simp [hm] at hst ⊢
    simp [h2,h19,h20,h21,e4]
    exact ⟨k + 1,by omega,by omega,by omega,by rw [hst];exact h91,hb1⟩
  ·have:k=f.blks.length:=by omega
   subst this
   simp [h20,h21]
   exact h9
 ·simp
  exact ⟨.nil,Bel.nil⟩
def Fun.start (f:Fun):Env:=some (startL f.par f.vars)
def Fun.cevTo (f:Fun) (x:List Env) (i:Nat) (m:List Int):Env:=m.foldl (fun e j=>e.join (pastL (x.getD j.toNat Option.none) (f.code j.toNat))) (if i=0 then f.start else Option.none)
def Fun.cev (f:Fun) (x:List Env) (i:Nat):Env:=f.cevTo x i (f.preds i)
theorem xKH {n:Nat} {h:Int→Env} (hh:∀j,(h j).fit n) (m:List Int):∀{e:Env},e.fit n→(m.foldl (fun e j=>e.join (h j)) e).fit n:=by
 induction m with
 | nil=>intro e he;exact he
 | cons j m ih=>intro e he;exact ih (Env.join_fit he (hh j))
theorem xNn {n:Nat} {h h':Int→Env} (hh:∀j,(h j).fit n) (hh':∀j,(h' j).fit n) (hle:∀j,(h j).le (h' j)) (m:List Int):∀{e e':Env},e.fit n→e'.fit n→e.le e'→(m.foldl (fun e j=>e.join (h j)) e).le (m.foldl (fun e j=>e.join (h' j)) e'):=by
 induction m with
 | nil=>intro e e' _ _ hee;exact hee
 | cons j m ih=>intro e e' he he' hee;exact ih (Env.join_fit he (hh j)) (Env.join_fit he' (hh' j)) (Env.join_mono he (hh j) he' (hh' j) hee (hle j))
theorem xIN {h h':Int→Env}:∀(m:List Int) (e:Env),(∀j ∈ m,h j=h' j)→m.foldl (fun e j=>e.join (h j)) e=m.foldl (fun e j=>e.join (h' j)) e
 | [],e,_=>rfl
 | j :: m,e,hm=>by
  rw [List.foldl_cons,List.foldl_cons,hm j (by simp)]
  exact xIN m _ fun k hk=>hm k (by simp [hk])
def Fun.wid (f:Fun):Nat:=capN f.vars
theorem Fun.start_fit (f:Fun):f.start.fit f.wid:=Env.fit_some (xEA _ _) (xIM _ _)
theorem xGQ {n:Nat} {x:List Env} (h:∀e ∈ x,Env.fit n e) (k:Nat):(x.getD k Option.none).fit n:=by
 rw [List.getD_eq_getElem?_getD]
 cases hx:x[k]? with
 | none=>exact Env.fit_none n
 | some e=>exact h e (xmG hx)
theorem Fun.cev_first (f:Fun) (i:Nat):(if i=0 then f.start else Option.none:Env).fit f.wid:=by
 split
 ·exact f.start_fit
 ·exact Env.fit_none _
theorem Fun.cevTo_fit (f:Fun) {x:List Env} (h:∀e ∈ x,Env.fit f.wid e) (i:Nat) (m:List Int):(f.cevTo x i m).fit f.wid :=
 xKH (fun j=>xB3 (xGQ h _)) _ (f.cev_first i)
theorem Fun.cev_fit (f:Fun) {x:List Env} (h:∀e ∈ x,Env.fit f.wid e) (i:Nat):(f.cev x i).fit f.wid:=f.cevTo_fit h i _
theorem xQH {n:Nat} {x y:List Env} (hl:x.length=y.length) (h:∀(k:Nat) a b,x[k]?=some a→y[k]?=some b→Env.le a b) (k:Nat):(x.getD k Option.none).le (y.getD k Option.none):=by
 rw [List.getD_eq_getElem?_getD,List.getD_eq_getElem?_getD]
 by_cases hk:k < x.length
 ·obtain ⟨a,ha⟩:∃ v,x[k]?=some v:=⟨_,xgG hk⟩
  obtain ⟨b,hb⟩:∃ v,y[k]?=some v:=⟨_,xgG (by omega)⟩
  rw [ha,hb];exact h k a b ha hb
 ·rw [List.getElem?_eq_none (by omega)];exact Env.le_none _
def Fun.csys (f:Fun):Sys Env where
 n:=f.blks.length
 ev:=f.cev
 rd i:=f.preds i
 ok:=Env.fit f.wid
 le:=Env.le
 bot:=Option.none
 ht:=Env.ht
 top:=1 + 2 * f.wid
 refl a _:=Env.le_refl a
 trans a b c ha hb hc h1 h2:=Env.le_trans hb hc h1 h2 ha
 anti a b ha hb h1 h2:=Env.le_anti ha hb h1 h2
 botOk:=Env.fit_none _
 botLe a _:=Env.le_none a
 htop a ha:=by
  cases a with
  | none=>simp [Env.ht]
  | some l =>
   have h1:=htL (ha l rfl).2 (ha l rfl).2 rfl (fun k a b h1 h2=>by rw [h1] at h2;cases h2;exact Val.le_refl a)
   have h2:=(ha l rfl).1
   simp only [Env.ht]
   omega
 hlt a b ha hb hle hne:=by
  cases a with
  | none =>
   cases b with
   | none=>exact absurd rfl hne
   | some m=>simp only [Env.ht];omega
  | some l =>
   obtain ⟨m,hm,h3⟩:=hle l rfl
   subst hm
   have h1:=htL (ha l rfl).2 (hb m rfl).2 (by rw [(ha l rfl).1,(hb m rfl).1]) h3
   have h2:=h1.2.1 fun e=>hne (by rw [e])
   simp only [Env.ht]
   omega
 evOk x i _ hx _:=f.cev_fit hx i
 mono x y i hx hy hxo hyo hle _:=xNn (fun j=>xB3 (xGQ hxo _)) (fun j=>xB3 (xGQ hyo _)) (fun j=>xLI (xGQ hxo _) (xGQ hyo _) (xQH (n:=f.wid) (by rw [hx,hy]) hle _)) _ (f.cev_first i) (f.cev_first i) (Env.le_refl _)
 dep x i k a hno:=xIN _ _ fun j hj=>by
  rw [List.getD_eq_getElem?_getD,List.getD_eq_getElem?_getD,List.getElem?_set_ne (Ne.symm (hno j hj))]
 nn i j hj:=by
  obtain ⟨k,_,rfl,_⟩:=Fun.preds_mem.1 hj
  exact Int.natCast_nonneg k
noncomputable def Fun.cin (f:Fun):List Env:=f.csys.sol
def prc (m:List Int):List AV:=[encF intc 1 m]
def Fun.pgr (f:Fun):List (List Int):=(List.range f.blks.length).map fun i:Nat=>f.preds i
noncomputable def Prg.cin (p:Prg) (i:Int):List Env:=match p.fn i with
 | none=>[]
 | some f=>f.cin
noncomputable def Fun.cat (f:Fun) (j:Nat) (k:Nat):Env:=pastL (f.cin.getD j Option.none) ((f.code j).take k)
noncomputable def Prg.cat (p:Prg) (i j k:Int):Env:=match p.fn i with
 | none=>Option.none
 | some f=>match f.blk j with
  | none=>Option.none
  | some b=>if 0≤k∧k≤b.ins.length then f.cat j.toNat k.toNat else Option.none
theorem FSl.upto {α:Type} {e:α→List AV} {sz:Nat} {v:AV} {l:List α} (h:FSl e sz v l) {k:Nat} (hk:k≤l.length):∃ v',pk (.slice sz false true false) [v,.int .i64 (k:Int)]=some v'∧FSl e sz v' (l.take k):=by
 rcases h with rfl | ⟨rfl,rfl⟩
 ·refine ⟨.fsl sz (els e (l.take k)),?_,.inl rfl⟩
  simp [pk,bnds,hk,els]
 ·refine ⟨.nilsl,?_,.inr ⟨rfl,by simp⟩⟩
  have:k=0:=by simpa using hk
  subst this
  simp [pk,bnds]
theorem xNr {n:Nat} {x:Ins} {e:Env} (he:e.fit n) (h:x.def < 0):x.flat e=e:=by
 cases e with
 | none=>rfl
 | some l =>
  rw [Ins.flat,Env.set_of he _ (x.number_ok _),if_neg (by omega)]
theorem FunOK.wid {p:Prg} {f:Fun} (h:FunOK p f):(f.wid:Int)=f.vars:=by
 have:=h.vars
 unfold Fun.varsOK at this
 unfold Fun.wid capN
 omega
end Go.Proofs.YtnhfofmhkfdpgaaGreatDoor.Vm
namespace Go.Proofs.YtnhfofmhkfdpgaaGreatDoor.Vm
open Go Go.RowKit
set_option maxRecDepth 100000
variable {N:Nat} {g:Glob}
structure SFam (nf:Nat→Nat):Prop where
 c0:Fun' P (nf 0) 53 [] (sk0 nf)
 c1:Fun' P (nf 1) 18 [(.tmp 8)] (sk1 nf)
 c2:Fun' P (nf 2) 41 [(.tmp 12)] (sk2 nf)
 c3:Fun' P (nf 3) 34 [] (sk3 nf)
 c4:Fun' P (nf 4) 178 [(.tmp 10),(.tmp 11)] (sk4 nf)
 c5:Fun' P (nf 5) 90 [(.tmp 10)] (sk5 nf)
 c6:Fun' P (nf 6) 82 [] (sk6 nf)
 c7:Fun' P (nf 7) 60 [] (sk7 nf)
 c8:Fun' P (nf 8) 67 [] (sk8 nf)
 c9:Fun' P (nf 9) 63 [(.tmp 8),(.tmp 9)] (sk9 nf)
 c10:Fun' P (nf 10) 148 [] (sk10 nf)
 c11:Fun' P (nf 11) 141 [(.tmp 8)] (sk11 nf)
 c12:Fun' P (nf 12) 32 [(.tmp 10),(.tmp 11)] (sk12 nf)
 c13:Fun' P (nf 13) 14 [] (sk13 nf)
theorem famI:SFam nI:=⟨c254,c274,c275,c258,c261,c260,c273,c255,c256,c257,c231,c259,c283,c176⟩
theorem famR:SFam nR:=⟨c287,c296,c297,c291,c294,c293,c295,c288,c289,c290,c282,c292,c298,c271⟩
def Srt {α:Type} (c:α→AV) (S:St) (o:Nat) (l:List α) (S':St):Prop:=Keeps (·=o) S S'∧S'.obj o=some (.row 1 (els (cel c) l))
structure Cmp {α:Type} (g:Glob) (c:α→AV) (f:Nat) (cap:List AV) (L:List α) (o:Nat) (S:St) (cm:α→α→Int):Prop where
 one:∀x,(c x).one=true
 lt:o < S.next
 len:L.length < 2 ^ 40
 cal:∀a ∈ L,∀b ∈ L,∀(l':List α) (S':St),Srt c S o l' S'→Cal P g f ([c a,c b] ++ cap) S' (fun v S''=>v=.int .i64 (cm a b)∧S''=S')
section
variable {α:Type} {c:α→AV} {f:Nat} {cap:List AV} {L:List α} {o:Nat} {S:St} {cm:α→α→Int}
theorem Srt.put {l l':List α} {S':St} (h:Srt c S o l S'):Srt c S o l' (S'.set o (.row 1 (els (cel c) l'))):=by
 refine ⟨⟨by simpa using h.1.1,fun a ha hn=>?_⟩,by simp⟩
 rw [xJx,if_neg hn]
 exact h.1.2 a ha hn
theorem Srt.new {l:List α} {S':St} (h:Srt c S o l S') (hC:Cmp g c f cap L o S cm) (x:AObj):Srt c S o l (S'.new x):=by
 have hlt:=hC.lt
 have hn:=h.1.1
 refine ⟨⟨by simp;omega,fun a ha hn2=>?_⟩,?_⟩
 ·simp [show ¬ a=S'.next by omega]
  exact h.1.2 a ha hn2
 ·simp [show ¬ o=S'.next by omega]
  exact h.2
theorem Srt.set {l:List α} {S':St} (h:Srt c S o l S') {q:Nat} (hq:S.next≤q) (hC:Cmp g c f cap L o S cm) (x:AObj):Srt c S o l (S'.set q x):=by
 have hlt:=hC.lt
 refine ⟨⟨by simpa using h.1.1,fun a ha hn2=>?_⟩,?_⟩
 ·simp [show ¬ a=q by omega]
  exact h.1.2 a ha hn2
 ·simp [show ¬ o=q by omega]
  exact h.2
theorem Cmp.cells (hC:Cmp g c f cap L o S cm) (x:α):(c x).cells=[c x]:=xCY (hC.one x)
theorem xO3 {nf:Nat→Nat} (H:SFam nf) (hC:Cmp g c f cap L o S cm) {a b:Nat} (hab:a≤b) (hb:b≤L.length) {l:List α} {S1:St} {K:AV→St→Prop} (hl:l.Perm L) (hS:Srt c S o l S1)
  (hk:∀l' S',l'.Perm L→Srt c S o l' S'→K (.tuple []) S'):Cal P g (nf 0) [.sl 1 o 0 L.length,.int .i64 (a:Int),.int .i64 (b:Int),.func (.func f) [] cap] S1 K:=by
 refine H.c0.in (by simp) ?_
 have hc1:=hC.one
 have hcc:=hC.cells
 have hlen:=hC.len
 have e1:=wrapS a (by omega)
 simp [sk0,e1]
 refine W.whileI (fun (i:Nat) F S'=>a + 1≤i∧i≤b + 1∧F 0=.sl 1 o 0 L.length∧F 1=.int .i64 a∧F 2=.int .i64 b∧F 3=.func (.func f) [] cap∧F 8=.int .i64 i∧∃ l':List α,l'.Perm L∧Srt c S o l' S') (fun i=>b + 1 - i) ?_ (a + 1) _ _ ?_
 ·rintro i F S' ⟨hi1,hi2,h0,h1,h2,h3,h8,l',hp,hs⟩
  by_cases hlt:i < b
  ·have e4:=wrapS i (by omega)
   simp [h2,h8,hlt]
   refine W.whileI (fun (j:Nat) F S'=>a≤j∧j≤i∧F 0=.sl 1 o 0 L.length∧F 1=.int .i64 a∧F 2=.int .i64 b∧F 3=.func (.func f) [] cap∧F 8=.int .i64 i∧F 9=.int .i64 j∧∃ l':List α,l'.Perm L∧Srt c S o l' S') (fun j=>j) ?_ i _ _ ?_
   ·clear h0 h1 h2 h3 h8 hp hs l'
    rintro j F S' ⟨hja,hj,h0,h1,h2,h3,h8,h9,l',hp,hs⟩
    have hpl:=hp.length_eq
    by_cases hj0:a < j
    ·have hjl:j < L.length:=by omega
     have hjl1:j - 1 < L.length:=by omega
     have e5:IntKind.i64.wrap ((j:Int) - 1)=((j - 1:Nat):Int):=by rw [xAa (by omega)];omega
     obtain ⟨x,hx⟩:∃ x,l'[j]?=some x:=⟨_,xgG (by omega)⟩
     obtain ⟨y,hy⟩:∃ y,l'[j - 1]?=some y:=⟨_,xgG (by omega)⟩
     have hxm:x ∈ L:=hp.mem_iff.1 (xmG hx)
     have hym:y ∈ L:=hp.mem_iff.1 (xmG hy)
     have ho:=hs.2
     simp
     refine Dra.auto [14] mix ?_ ?_
     ·kernel_rfl
     simp [classes,h0,h1,h3,h9,hj0,e5,xAc hjl,xAc hjl1,hx,hy,cel,ho]
     refine ⟨_,_,hC.cal x hxm y hym l' S' hs,?_⟩
     simp
     by_cases hc:cm x y < 0
     ·simp [hc]
      refine Dra.auto [] mix ?_ ?_
      ·kernel_rfl
      simp [classes,h0,h1,h3,h9,hj0,e5,xAc hjl,xAc hjl1,hx,hy,cel,hc1,hcc,ho,show ¬ j=j - 1 by omega]
      refine ⟨j - 1,by omega,by omega,by omega,h2,h8,rfl,(l'.set j y).set (j - 1) x,(xAm hx hy).trans hp,?_⟩
      have:=hs.put (l':=(l'.set j y).set (j - 1) x)
      rw [← xAg,← xAg] at this
      rw [xAk]
      exact this
     ·simp [hc,h8,e4,h0,h1,h2,h3]
      exact ⟨i + 1,by omega,by omega,by omega,by omega,l',hp,hs⟩
    ·simp
     refine Dra.auto [14] mix ?_ ?_
     ·kernel_rfl
     simp [classes,h1,h9,h8,e4,hj0]
     exact ⟨i + 1,by omega,by omega,by omega,h0,h2,h3,by omega,l',hp,hs⟩
   ·simp [h0,h1,h2,h3,h8]
    exact ⟨by omega,l',hp,hs⟩
  ·simp [h2,h8,hlt]
   exact hk l' S' hp hs
 ·simp
  exact ⟨by omega,l,hl,hS⟩
theorem xNu {nf:Nat→Nat} (H:SFam nf) (hC:Cmp g c f cap L o S cm) {a b:Nat} (hab:a < b) (hb:b≤L.length) {l:List α} {S1:St} {K:AV→St→Prop} (hl:l.Perm L) (hS:Srt c S o l S1)
  (hk:∀l' S',l'.Perm L→Srt c S o l' S'→K (.tuple []) S'):Cal P g (nf 3) [.sl 1 o 0 L.length,.int .i64 (a:Int),.int .i64 (b:Int),.func (.func f) [] cap] S1 K:=by
 refine H.c3.in (by simp) ?_
 have hc1:=hC.one
 have hcc:=hC.cells
 have hlen:=hC.len
 have e1:IntKind.i64.wrap ((b:Int) - 1)=((b - 1:Nat):Int):=by rw [xAa (by omega)];omega
 simp [sk3,e1]
 refine W.whileI (fun (z:Nat) F S'=>∃ i j:Nat,z=j + 1 - i∧a≤i∧j < b∧F 0=.sl 1 o 0 L.length∧F 8=.int .i64 i∧F 9=.int .i64 j∧∃ l':List α,l'.Perm L∧Srt c S o l' S') (fun z=>z) ?_ (b - a) _ _ ?_
 ·rintro z F S' ⟨i,j,rfl,hi,hj,h0,h8,h9,l',hp,hs⟩
  have hpl:=hp.length_eq
  by_cases hlt:i < j
  ·have e4:=wrapS i (by omega)
   have e5:IntKind.i64.wrap ((j:Int) - 1)=((j - 1:Nat):Int):=by rw [xAa (by omega)];omega
   have hil:i < L.length:=by omega
   have hjl:j < L.length:=by omega
   obtain ⟨x,hx⟩:∃ x,l'[i]?=some x:=⟨_,xgG (by omega)⟩
   obtain ⟨y,hy⟩:∃ y,l'[j]?=some y:=⟨_,xgG (by omega)⟩
   have ho:=hs.2
   simp [h8,h9,hlt]
   refine Dra.auto [] mix ?_ ?_
   ·kernel_rfl
   simp [classes,h0,h8,h9,xAc hil,xAc hjl,hx,hy,cel,hc1,hcc,ho,e4,e5,show ¬ i=j by omega]
   refine ⟨j - 1 + 1 - (i + 1),by omega,i + 1,j - 1,rfl,by omega,by omega,by omega,by omega,(l'.set i y).set j x,(xAm hx hy).trans hp,?_⟩
   have:=hs.put (l':=(l'.set i y).set j x)
   rw [← xAg,← xAg] at this
   rw [xAk]
   exact this
  ·simp [h8,h9,hlt]
   exact hk l' S' hp hs
 ·simp
  exact ⟨a,b - 1,by omega,by omega,by omega,rfl,by omega,l,hl,hS⟩
theorem xHH {nf:Nat→Nat} (H:SFam nf) (hC:Cmp g c f cap L o S cm) {a b q:Nat} {n:Int} (ha:a < L.length) (hb:b < L.length) {l:List α} {S1:St} {K:AV→St→Prop} (hl:l.Perm L) (hS:Srt c S o l S1) (hq:S.next≤q) (hqo:S1.obj q=some (.row 1 [[.int .i64 n]]))
  (hk:∀(S':St) (a' b':Nat) (n':Int),a' < L.length→b' < L.length→(a'=a ∨ a'=b)→(b'=a ∨ b'=b)→Srt c S o l S'→S'.obj q=some (.row 1 [[.int .i64 n']])→S'.next=S1.next→K (.tuple [.int .i64 (a':Int),.int .i64 (b':Int)]) S') :
  Cal P g (nf 12) [.sl 1 o 0 L.length,.int .i64 (a:Int),.int .i64 (b:Int),.ptr q 0 0,.func (.func f) [] cap] S1 K:=by
 refine H.c12.in (by simp) ?_
 have hpl:=hl.length_eq
 have ho:=hS.2
 obtain ⟨x,hx⟩:∃ x,l[a]?=some x:=⟨_,xgG (by omega)⟩
 obtain ⟨y,hy⟩:∃ y,l[b]?=some y:=⟨_,xgG (by omega)⟩
 have hxm:x ∈ L:=hl.mem_iff.1 (xmG hx)
 have hym:y ∈ L:=hl.mem_iff.1 (xmG hy)
 simp [sk12]
 refine Dra.auto [9] mix ?_ ?_
 ·kernel_rfl
 simp [classes,xAc ha,xAc hb,hx,hy,cel,ho]
 refine ⟨_,_,hC.cal y hym x hxm l S1 hS,?_⟩
 simp
 by_cases hc:cm y x < 0
 ·simp [hc,hqo]
  exact hk _ b a (IntKind.i64.wrap (n + 1)) hb ha (.inr rfl) (.inl rfl) (hS.set hq hC _) (by simp) (by simp)
 ·simp [hc]
  exact hk _ a b n ha hb (.inl rfl) (.inr rfl) hS hqo rfl
theorem xHI {nf:Nat→Nat} (H:SFam nf) (hC:Cmp g c f cap L o S cm) {a b d q:Nat} {n:Int} (ha:a < L.length) (hb:b < L.length) (hd:d < L.length) {l:List α} {S1:St} {K:AV→St→Prop} (hl:l.Perm L) (hS:Srt c S o l S1) (hq:S.next≤q) (hqo:S1.obj q=some (.row 1 [[.int .i64 n]]))
  (hk:∀(S':St) (m:Nat) (n':Int),m < L.length→(m=a ∨ m=b ∨ m=d)→Srt c S o l S'→S'.obj q=some (.row 1 [[.int .i64 n']])→S'.next=S1.next→K (.int .i64 (m:Int)) S') :
  Cal P g (nf 2) [.sl 1 o 0 L.length,.int .i64 (a:Int),.int .i64 (b:Int),.int .i64 (d:Int),.ptr q 0 0,.func (.func f) [] cap] S1 K:=by
 refine H.c2.in (by simp) ?_
 simp [sk2]
 refine xHH H hC ha hb hl hS hq hqo fun S2 a2 b2 n2 ha2 hb2 ma mb hS2 hq2 hn2=>?_
 simp
 refine xHH H hC hb2 hd hl hS2 hq hq2 fun S3 b3 d3 n3 hb3 hd3 mb3 md3 hS3 hq3 hn3=>?_
 simp
 refine xHH H hC ha2 hb3 hl hS3 hq hq3 fun S4 a4 b4 n4 ha4 hb4 ma4 mb4 hS4 hq4 hn4=>?_
 simp
 exact hk S4 b4 n4 hb4 (by omega) hS4 hq4 (by omega)
theorem xED {nf:Nat→Nat} (H:SFam nf) (hC:Cmp g c f cap L o S cm) {a q:Nat} {n:Int} (ha0:1≤a) (ha:a + 1 < L.length) {l:List α} {S1:St} {K:AV→St→Prop} (hl:l.Perm L) (hS:Srt c S o l S1) (hq:S.next≤q) (hqo:S1.obj q=some (.row 1 [[.int .i64 n]]))
  (hk:∀(S':St) (m:Nat) (n':Int),a - 1≤m→m≤a + 1→Srt c S o l S'→S'.obj q=some (.row 1 [[.int .i64 n']])→S'.next=S1.next→K (.int .i64 (m:Int)) S') :
  Cal P g (nf 1) [.sl 1 o 0 L.length,.int .i64 (a:Int),.ptr q 0 0,.func (.func f) [] cap] S1 K:=by
 refine H.c1.in (by simp) ?_
 have hlen:=hC.len
 have e1:IntKind.i64.wrap ((a:Int) - 1)=((a - 1:Nat):Int):=by rw [xAa (by omega)];omega
 have e2:=wrapS a (by omega)
 simp [sk1,e1,e2]
 refine xHI H hC (a:=a - 1) (b:=a) (d:=a + 1) (by omega) (by omega) ha hl hS hq hqo fun S2 m n2 hm hmm hS2 hq2 hn2=>?_
 simp
 exact hk S2 m n2 (by omega) (by omega) hS2 hq2 hn2
end
end Go.Proofs.YtnhfofmhkfdpgaaGreatDoor.Vm
