/- A part of the proof: Rf Rb Rg. -/
import Derived.Test.YtbhkamemheaajaaGreatDoorQ25
set_option linter.unusedVariables false
set_option linter.unusedSimpArgs false
set_option linter.constructorNameAsVariable false
namespace Go.Proofs.YtbhkamemheaajaaGreatDoor.Vm
open Go Go.RowKit
theorem Val.cases {v:Val} (h:v.ok=true):v=⟨0,0⟩ ∨ v=⟨2,0⟩ ∨ ∃ c,v=⟨1,c⟩:=by
 obtain ⟨k,c⟩:=v
 unfold Val.ok at h
 simp only at h
 split at h
 ·rename_i hk;subst hk;exact .inr (.inr ⟨c,rfl⟩)
 ·split at h
  ·rename_i h1 hk
   simp only [decide_eq_true_eq] at h
   subst h
   rcases hk with rfl | rfl
   ·exact .inl rfl
   ·exact .inr (.inl rfl)
  ·cases h
theorem Val.join_of {a b:Val} (ha:a.ok=true) (hb:b.ok=true):a.join b=if a.k=0 ∨ a=b then b else if b.k=0 then a else ⟨2,0⟩:=by
 unfold Val.join;rw [Val.sane_of ha,Val.sane_of hb]
def Val.le (a b:Val):Prop:=a.k=0 ∨ b.k=2 ∨ a=b
theorem Val.le_refl (a:Val):a.le a:=.inr (.inr rfl)
theorem Val.ok_top {v:Val} (h:v.ok=true) (hk:v.k=2):v=⟨2,0⟩:=by
 rcases Val.cases h with rfl | rfl | ⟨c,rfl⟩
 ·cases hk
 ·rfl
 ·cases hk
theorem Val.le_trans {a b c:Val} (hb:b.ok=true) (h1:a.le b) (h2:b.le c):a.le c:=by
 rcases h1 with h1 | h1 | h1
 ·exact .inl h1
 ·rcases h2 with h2 | h2 | h2
  ·rw [h1] at h2;cases h2
  ·exact .inr (.inl h2)
  ·rw [← h2];exact .inr (.inl h1)
 ·rw [h1];exact h2
theorem Val.le_anti {a b:Val} (ha:a.ok=true) (hb:b.ok=true) (h1:a.le b) (h2:b.le a):a=b:=by
 rcases h1 with h1 | h1 | h1
 ·rcases h2 with h2 | h2 | h2
  ·rw [Val.ok_bot ha h1,Val.ok_bot hb h2]
  ·rw [h1] at h2;cases h2
  ·exact h2.symm
 ·rcases h2 with h2 | h2 | h2
  ·rw [h1] at h2;cases h2
  ·rw [Val.ok_top ha h2,Val.ok_top hb h1]
  ·exact h2.symm
 ·exact h1
theorem Val.join_ok {a b:Val} (ha:a.ok=true) (hb:b.ok=true):(a.join b).ok=true:=by
 rw [Val.join_of ha hb]
 split
 ·exact hb
 ·split
  ·exact ha
  ·rfl
theorem Val.join_ok' (a b:Val):(a.join b).ok=true:=by
 unfold Val.join
 split
 ·exact b.sane_ok
 ·split
  ·exact a.sane_ok
  ·rfl
theorem Val.le_join_l {a b:Val} (ha:a.ok=true) (hb:b.ok=true):a.le (a.join b):=by
 rw [Val.join_of ha hb]
 split
 ·rename_i h
  rcases h with h | h
  ·exact .inl h
  ·exact .inr (.inr h)
 ·split
  ·exact Val.le_refl a
  ·exact .inr (.inl rfl)
theorem Val.le_join_r {a b:Val} (ha:a.ok=true) (hb:b.ok=true):b.le (a.join b):=by
 rw [Val.join_of ha hb]
 split
 ·exact Val.le_refl b
 ·split
  ·rename_i h;exact .inl h
  ·exact .inr (.inl rfl)
theorem Val.join_le {a b c:Val} (ha:a.ok=true) (hb:b.ok=true) (hc:c.ok=true) (h1:a.le c) (h2:b.le c):(a.join b).le c:=by
 rw [Val.join_of ha hb]
 split
 ·exact h2
 ·split
  ·exact h1
  ·rename_i h3 h4
   rcases h1 with h1 | h1 | h1
   ·exact absurd (.inl h1) h3
   ·exact .inr (.inl h1)
   ·rcases h2 with h2 | h2 | h2
    ·exact absurd h2 h4
    ·exact .inr (.inl h2)
    ·exact absurd (.inr (h1.trans h2.symm)) h3
theorem Val.join_mono {a b a' b':Val} (ha:a.ok=true) (hb:b.ok=true) (ha':a'.ok=true) (hb':b'.ok=true) (h1:a.le a') (h2:b.le b'):(a.join b).le (a'.join b') :=
 Val.join_le ha hb (Val.join_ok ha' hb') (Val.le_trans ha' h1 (Val.le_join_l ha' hb')) (Val.le_trans hb' h2 (Val.le_join_r ha' hb'))
theorem Val.leq_iff {a b:Val} (ha:a.ok=true) (hb:b.ok=true):a.leq b=true ↔ a.le b:=by
 unfold Val.leq
 rw [decide_eq_true_eq,Val.sane_of hb]
 constructor
 ·intro h;rw [← h];exact Val.le_join_l ha hb
 ·intro h
  exact Val.le_anti (Val.join_ok ha hb) hb (Val.join_le ha hb hb h (Val.le_refl b)) (Val.le_join_r ha hb)
theorem Val.each_of {op:Int→Int→Int} {a b:Val} (ha:a.ok=true) (hb:b.ok=true):a.each op b=if a.k=0 ∨ b.k=0 then ⟨0,0⟩ else if a.k=2 ∨ b.k=2 then ⟨2,0⟩ else ⟨1,wrap32 (op a.c b.c)⟩:=by
 unfold Val.each;rw [Val.sane_of ha,Val.sane_of hb]
theorem Val.one_ok (n:Int):(⟨1,wrap32 n⟩:Val).ok=true:=by
 have:=wrap32_in n
 simp [Val.ok,this]
theorem Val.each_ok (op:Int→Int→Int) (a b:Val):(a.each op b).ok=true:=by
 unfold Val.each
 split
 ·rfl
 ·split
  ·rfl
  ·exact Val.one_ok _
theorem Val.each_mono {op:Int→Int→Int} {a b a' b':Val} (ha:a.ok=true) (hb:b.ok=true) (ha':a'.ok=true) (hb':b'.ok=true) (h1:a.le a') (h2:b.le b'):(a.each op b).le (a'.each op b'):=by
 have e3:=Val.each_of (op:=op) ha' hb'
 rw [Val.each_of ha hb]
 by_cases h0:a.k=0 ∨ b.k=0
 ·rw [if_pos h0];exact .inl rfl
 ·rw [if_neg h0]
  have n1:a'.k ≠ 0:=by
   intro h
   rcases h1 with h1 | h1 | h1
   ·exact h0 (.inl h1)
   ·rw [h] at h1;cases h1
   ·rw [← h1] at h;exact h0 (.inl h)
  have n2:b'.k ≠ 0:=by
   intro h
   rcases h2 with h2 | h2 | h2
   ·exact h0 (.inr h2)
   ·rw [h] at h2;cases h2
   ·rw [← h2] at h;exact h0 (.inr h)
  rw [if_neg (fun h=>h.elim n1 n2)] at e3
  by_cases h3:a'.k=2 ∨ b'.k=2
  ·rw [if_pos h3] at e3
   rw [e3];exact .inr (.inl rfl)
  ·rw [if_neg h3] at e3
   rw [e3]
   have e1:a=a':=by
    rcases h1 with h1 | h1 | h1
    ·exact absurd (.inl h1) h0
    ·exact absurd (.inl h1) h3
    ·exact h1
   have e2:b=b':=by
    rcases h2 with h2 | h2 | h2
    ·exact absurd (.inr h2) h0
    ·exact absurd (.inr h2) h3
    ·exact h2
   subst e1;subst e2
   rw [if_neg h3]
   exact Val.le_refl _
theorem Val.le_k {a b:Val} (ha:a.ok=true) (hb:b.ok=true) (h:a.le b):a.k.toNat≤b.k.toNat∧(a ≠ b→a.k.toNat < b.k.toNat)∧b.k.toNat≤2:=by
 rcases Val.cases ha with rfl | rfl | ⟨c,rfl⟩ <;> rcases Val.cases hb with rfl | rfl | ⟨d,rfl⟩ <;> simp [Val.le] at h ⊢
 exact h
def okL (l:List Val):Prop:=∀v ∈ l,v.ok=true
theorem getL_of {l:List Val} (h:okL l) {k:Nat} {v:Val} (hv:l[k]?=some v):getL l (k:Int)=v:=by
 have hk:=(List.getElem?_eq_some_iff.1 hv).1
 unfold getL
 rw [if_pos (by omega)]
 simp only [Int.toNat_natCast,List.getD_eq_getElem?_getD,hv,Option.getD_some]
 exact Val.sane_of (h v (List.mem_of_getElem? hv))
theorem getL_ok (l:List Val) (i:Int):(getL l i).ok=true:=by
 unfold getL
 split
 ·exact Val.sane_ok _
 ·rfl
theorem ownL_of {l:List Val} (h:okL l):ownL l 0=l:=by
 apply List.ext_getElem?
 intro k
 by_cases hk:k < l.length
 ·obtain ⟨v,hv⟩:∃ v,l[k]?=some v:=⟨_,List.getElem?_eq_getElem hk⟩
  rw [getL_ownL l 0 (by omega),getL_of h hv,hv]
 ·rw [List.getElem?_eq_none (by rw [ownL_len];omega),List.getElem?_eq_none (by omega)]
def leL (l m:List Val):Prop:=∀(k:Nat) (a b:Val),l[k]?=some a→m[k]?=some b→a.le b
theorem getL_mono {l m:List Val} (hl:okL l) (hm:okL m) (hn:l.length=m.length) (h:leL l m) (i:Int):(getL l i).le (getL m i):=by
 by_cases hi:0≤i∧i < l.length
 ·obtain ⟨k,rfl⟩:∃ k:Nat,i=(k:Int):=⟨i.toNat,by omega⟩
  obtain ⟨a,ha⟩:∃ v,l[k]?=some v:=⟨_,List.getElem?_eq_getElem (by omega)⟩
  obtain ⟨b,hb⟩:∃ v,m[k]?=some v:=⟨_,List.getElem?_eq_getElem (by omega)⟩
  rw [getL_of hl ha,getL_of hm hb]
  exact h k a b ha hb
 ·have e:getL l i=Val.zero:=by unfold getL;rw [if_neg hi]
  rw [e];exact .inl rfl
def Env.fit (n:Nat) (e:Env):Prop:=∀l,e=some l→l.length=n∧okL l
def Env.le (a b:Env):Prop:=∀l,a=some l→∃ m,b=some m∧leL l m
theorem Env.fit_none (n:Nat):Env.fit n none:=fun l h=>by cases h
theorem Env.fit_some {n:Nat} {l:List Val} (h1:l.length=n) (h2:okL l):Env.fit n (some l):=fun m h=>by cases h;exact ⟨h1,h2⟩
theorem Env.fit.small {n:Nat} {e:Env} (h:e.fit n) (hn:n < 2 ^ 20):e.small:=fun l hl=>by have:=(h l hl).1;omega
theorem Env.own_of {n:Nat} {e:Env} (h:e.fit n):e.own=e:=by
 cases e with
 | none=>rfl
 | some l=>simp [Env.own,ownL_of (h l rfl).2]
theorem Env.le_refl (e:Env):e.le e:=fun l h=>⟨l,h,fun k a b ha hb=>by rw [ha] at hb;cases hb;exact Val.le_refl a⟩
theorem Env.le_none (e:Env):Env.le none e:=fun l h=>by cases h
theorem Env.le_trans {n:Nat} {a b c:Env} (hb:b.fit n) (hc:c.fit n) (h1:a.le b) (h2:b.le c) (ha:a.fit n):a.le c:=by
 intro l hl
 obtain ⟨m,hm,h3⟩:=h1 l hl
 obtain ⟨q,hq,h4⟩:=h2 m hm
 refine ⟨q,hq,fun k x z hx hz=>?_⟩
 have hk:=(List.getElem?_eq_some_iff.1 hx).1
 have e1:=(ha l hl).1
 have e2:=(hb m hm).1
 obtain ⟨y,hy⟩:∃ v,m[k]?=some v:=⟨_,List.getElem?_eq_getElem (by omega)⟩
 exact Val.le_trans ((hb m hm).2 y (List.mem_of_getElem? hy)) (h3 k x y hx hy) (h4 k y z hy hz)
theorem Env.le_anti {n:Nat} {a b:Env} (ha:a.fit n) (hb:b.fit n) (h1:a.le b) (h2:b.le a):a=b:=by
 cases a with
 | none =>
  cases b with
  | none=>rfl
  | some m=>obtain ⟨l,hl,_⟩:=h2 m rfl;cases hl
 | some l =>
  obtain ⟨m,hm,h3⟩:=h1 l rfl
  subst hm
  obtain ⟨l',hl',h4⟩:=h2 m rfl
  cases hl'
  congr 1
  have e1:=(ha l rfl).1
  have e2:=(hb m rfl).1
  apply List.ext_getElem?
  intro k
  by_cases hk:k < n
  ·obtain ⟨x,hx⟩:∃ v,l[k]?=some v:=⟨_,List.getElem?_eq_getElem (by omega)⟩
   obtain ⟨y,hy⟩:∃ v,m[k]?=some v:=⟨_,List.getElem?_eq_getElem (by omega)⟩
   rw [hx,hy,Val.le_anti ((ha l rfl).2 x (List.mem_of_getElem? hx)) ((hb m rfl).2 y (List.mem_of_getElem? hy)) (h3 k x y hx hy) (h4 k y x hy hx)]
  ·rw [List.getElem?_eq_none (by omega),List.getElem?_eq_none (by omega)]
theorem joinL_get {l m:List Val} {n:Nat} (hl:l.length=n) (hm:m.length=n) {k:Nat} (hk:k < n):(joinL l m)[k]?=some ((getL l k).join (getL m k)):=by
 simp [joinL,hl,hm,hk]
theorem Env.join_fit {n:Nat} {a b:Env} (ha:a.fit n) (hb:b.fit n):(a.join b).fit n:=by
 cases a with
 | none=>show Env.fit n b.own;rw [Env.own_of hb];exact hb
 | some l =>
  cases b with
  | none=>show Env.fit n (Env.own (some l));rw [Env.own_of ha];exact ha
  | some m =>
   refine Env.fit_some ?_ fun v hv=>?_
   ·simp [joinL,(ha l rfl).1,(hb m rfl).1]
   ·simp only [joinL,List.mem_map] at hv
    obtain ⟨k,_,rfl⟩:=hv
    exact Val.join_ok' _ _
theorem Env.le_join_l {n:Nat} {a b:Env} (ha:a.fit n) (hb:b.fit n):a.le (a.join b):=by
 cases a with
 | none=>exact Env.le_none _
 | some l =>
  cases b with
  | none=>show Env.le (some l) (Env.own (some l));rw [Env.own_of ha];exact Env.le_refl _
  | some m =>
   intro l' hl'
   cases hl'
   refine ⟨joinL l m,rfl,fun k x z hx hz=>?_⟩
   have hk:=(List.getElem?_eq_some_iff.1 hx).1
   rw [joinL_get (ha l rfl).1 (hb m rfl).1 (by have:=(ha l rfl).1;omega),getL_of (ha l rfl).2 hx] at hz
   cases hz
   exact Val.le_join_l ((ha l rfl).2 x (List.mem_of_getElem? hx)) (getL_ok _ _)
theorem Env.le_join_r {n:Nat} {a b:Env} (ha:a.fit n) (hb:b.fit n):b.le (a.join b):=by
 cases a with
 | none=>show Env.le b b.own;rw [Env.own_of hb];exact Env.le_refl _
 | some l =>
  cases b with
  | none=>exact Env.le_none _
  | some m =>
   intro l' hl'
   cases hl'
   refine ⟨joinL l m,rfl,fun k x z hx hz=>?_⟩
   have hk:=(List.getElem?_eq_some_iff.1 hx).1
   rw [joinL_get (ha l rfl).1 (hb m rfl).1 (by have:=(hb m rfl).1;omega),getL_of (hb m rfl).2 hx] at hz
   cases hz
   exact Val.le_join_r (getL_ok _ _) ((hb m rfl).2 x (List.mem_of_getElem? hx))
theorem Env.join_le {n:Nat} {a b c:Env} (ha:a.fit n) (hb:b.fit n) (hc:c.fit n) (h1:a.le c) (h2:b.le c):(a.join b).le c:=by
 cases a with
 | none=>show Env.le b.own c;rw [Env.own_of hb];exact h2
 | some l =>
  cases b with
  | none=>show Env.le (Env.own (some l)) c;rw [Env.own_of ha];exact h1
  | some m =>
   intro l' hl'
   cases hl'
   obtain ⟨q,hq,h3⟩:=h1 l rfl
   obtain ⟨q',hq',h4⟩:=h2 m rfl
   rw [hq] at hq';cases hq'
   refine ⟨q,hq,fun k x z hx hz=>?_⟩
   have hk:=(List.getElem?_eq_some_iff.1 hz).1
   have e1:=(ha l rfl).1
   have e2:=(hb m rfl).1
   have e3:=(hc q hq).1
   obtain ⟨u,hu⟩:∃ v,l[k]?=some v:=⟨_,List.getElem?_eq_getElem (by omega)⟩
   obtain ⟨v,hv⟩:∃ v,m[k]?=some v:=⟨_,List.getElem?_eq_getElem (by omega)⟩
   rw [joinL_get e1 e2 (by omega),getL_of (ha l rfl).2 hu,getL_of (hb m rfl).2 hv] at hx
   cases hx
   exact Val.join_le ((ha l rfl).2 u (List.mem_of_getElem? hu)) ((hb m rfl).2 v (List.mem_of_getElem? hv)) ((hc q hq).2 z (List.mem_of_getElem? hz)) (h3 k u z hu hz) (h4 k v z hv hz)
theorem Env.join_mono {n:Nat} {a b a' b':Env} (ha:a.fit n) (hb:b.fit n) (ha':a'.fit n) (hb':b'.fit n) (h1:a.le a') (h2:b.le b'):(a.join b).le (a'.join b') :=
 Env.join_le ha hb (Env.join_fit ha' hb') (Env.le_trans ha' (Env.join_fit ha' hb') h1 (Env.le_join_l ha' hb') ha) (Env.le_trans hb' (Env.join_fit ha' hb') h2 (Env.le_join_r ha' hb') hb)
theorem Env.get_ok (e:Env) (i:Int):(e.get i).ok=true:=by
 cases e with
 | none=>rfl
 | some l=>exact getL_ok l i
theorem Env.get_mono {n:Nat} {a b:Env} (ha:a.fit n) (hb:b.fit n) (h:a.le b) (i:Int):(a.get i).le (b.get i):=by
 cases a with
 | none=>exact .inl rfl
 | some l =>
  obtain ⟨m,hm,h3⟩:=h l rfl
  subst hm
  exact getL_mono (ha l rfl).2 (hb m rfl).2 (by rw [(ha l rfl).1,(hb m rfl).1]) h3 i
theorem Env.set_of {n:Nat} {l:List Val} (h:Env.fit n (some l)) (i:Int) {v:Val} (hv:v.ok=true):Env.set (some l) i v=some (if 0≤i∧i < n then l.set i.toNat v else l):=by
 show Option.map _ (Env.own (some l))=_
 rw [Env.own_of h]
 simp [Val.sane_of hv,(h l rfl).1]
theorem Env.set_fit {n:Nat} {e:Env} (h:e.fit n) (i:Int) {v:Val} (hv:v.ok=true):(e.set i v).fit n:=by
 cases e with
 | none=>exact Env.fit_none n
 | some l =>
  rw [Env.set_of h i hv]
  refine Env.fit_some ?_ fun u hu=>?_
  ·split <;> simp [(h l rfl).1]
  ·split at hu
   ·rcases List.mem_or_eq_of_mem_set hu with h1 | h1
    ·exact (h l rfl).2 u h1
    ·rw [h1];exact hv
   ·exact (h l rfl).2 u hu
theorem Env.set_mono {n:Nat} {a b:Env} (ha:a.fit n) (hb:b.fit n) (h:a.le b) (i:Int) {u v:Val} (hu:u.ok=true) (hv:v.ok=true) (huv:u.le v):(a.set i u).le (b.set i v):=by
 cases a with
 | none=>exact Env.le_none _
 | some l =>
  obtain ⟨m,hm,h3⟩:=h l rfl
  subst hm
  rw [Env.set_of ha i hu,Env.set_of hb i hv]
  intro l' hl'
  cases hl'
  refine ⟨_,rfl,fun k x y hx hy=>?_⟩
  by_cases hi:0≤i∧i < n
  ·rw [if_pos hi] at hx hy
   by_cases hk:k=i.toNat
   ·subst hk
    rw [List.getElem?_set_self (by rw [(ha l rfl).1];omega)] at hx
    rw [List.getElem?_set_self (by rw [(hb m rfl).1];omega)] at hy
    cases hx;cases hy;exact huv
   ·rw [List.getElem?_set_ne (Ne.symm hk)] at hx hy
    exact h3 k x y hx hy
  ·rw [if_neg hi] at hx hy
   exact h3 k x y hx hy
theorem Ins.number_ok (i:Ins) (e:Env):(i.number e).ok=true:=by
 unfold Ins.number
 repeat' split
 all_goals first | exact Val.one_ok _ | exact Env.get_ok _ _ | exact Val.each_ok _ _ _ | rfl
theorem Ins.number_mono {n:Nat} {a b:Env} (ha:a.fit n) (hb:b.fit n) (h:a.le b) (i:Ins):(i.number a).le (i.number b):=by
 have g1:=Env.get_mono ha hb h i.a
 have g2:=Env.get_mono ha hb h i.b
 have o1:=Env.get_ok a i.a
 have o2:=Env.get_ok a i.b
 have o3:=Env.get_ok b i.a
 have o4:=Env.get_ok b i.b
 unfold Ins.number
 repeat' split
 all_goals first | exact Val.le_refl _ | exact g1 | exact Val.each_mono (Val.one_ok _) o1 (Val.one_ok _) o3 (Val.le_refl _) g1 | exact Val.each_mono o1 o2 o3 o4 g1 g2
theorem Ins.flat_fit {n:Nat} {e:Env} (h:e.fit n) (i:Ins):(i.flat e).fit n:=Env.set_fit h _ (i.number_ok e)
theorem Ins.flat_mono {n:Nat} {a b:Env} (ha:a.fit n) (hb:b.fit n) (h:a.le b) (i:Ins):(i.flat a).le (i.flat b):=Env.set_mono ha hb h _ (i.number_ok a) (i.number_ok b) (i.number_mono ha hb h)
theorem pastL_fit {n:Nat} {l:List Ins}:∀{e:Env},e.fit n→(pastL e l).fit n:=by
 induction l with
 | nil=>intro e h;exact h
 | cons i l ih=>intro e h;exact ih (i.flat_fit h)
theorem pastL_mono {n:Nat} {l:List Ins}:∀{a b:Env},a.fit n→b.fit n→a.le b→(pastL a l).le (pastL b l):=by
 induction l with
 | nil=>intro a b _ _ h;exact h
 | cons i l ih=>intro a b ha hb h;exact ih (i.flat_fit ha) (i.flat_fit hb) (i.flat_mono ha hb h)
theorem startL_ok (par vars:Int):okL (startL par vars):=by
 intro v hv
 simp only [startL,List.mem_map] at hv
 obtain ⟨k,_,rfl⟩:=hv
 split <;> rfl
def Env.ht:Env→Nat
 | none=>0
 | some l=>1 + (l.map fun v:Val=>v.k.toNat).sum
theorem htL {l m:List Val} (hl:okL l) (hm:okL m) (hn:l.length=m.length) (h:leL l m):(l.map fun v:Val=>v.k.toNat).sum≤(m.map fun v:Val=>v.k.toNat).sum∧(l ≠ m→(l.map fun v:Val=>v.k.toNat).sum < (m.map fun v:Val=>v.k.toNat).sum)∧(m.map fun v:Val=>v.k.toNat).sum≤2 * m.length:=by
 induction l generalizing m with
 | nil =>
  cases m with
  | nil=>simp
  | cons b m=>simp at hn
 | cons a l ih =>
  cases m with
  | nil=>simp at hn
  | cons b m =>
   obtain ⟨h1,h2,h3⟩:=ih (m:=m) (fun v hv=>hl v (by simp [hv])) (fun v hv=>hm v (by simp [hv])) (by simpa using hn) fun k x y hx hy=>h (k + 1) x y (by simpa using hx) (by simpa using hy)
   obtain ⟨g1,g2,g3⟩:=Val.le_k (hl a (by simp)) (hm b (by simp)) (h 0 a b rfl rfl)
   simp only [List.map_cons,List.sum_cons,List.length_cons]
   refine ⟨by omega,fun hne=>?_,by omega⟩
   by_cases hab:a=b
   ·have:l ≠ m:=fun e=>hne (by rw [hab,e])
    have:=h2 this
    omega
   ·have:=g2 hab
    omega
end Go.Proofs.YtbhkamemheaajaaGreatDoor.Vm
namespace Go.Proofs.YtbhkamemheaajaaGreatDoor.Vm
open Go Go.RowKit
set_option maxRecDepth 100000
variable {N:Nat} {g:Glob}
noncomputable def runCode (z:AV):VCode:=zs (zr [zk 10 0]) (zs (zr [zm 24 0,zc1 25 121 24,zm 11 25]) (zs (zr [zm 26 0,zn 27 26,⟨some 28,.sk (.makeSlice [.bool false] 1 1) [.t 27,.t 27],none⟩,zm 12 28]) (zs (zs (zr [zm 29 1,zn 30 29,zk 31 0]) (.block 0 (.loop (zs (zr [zt 32 31 30]) (zs (.cond (.t 32) .skip (.exit 0)) (zs (.block 1 (zs (zr [zi 33 1 29 31,zl 34 1 33,zm 14 34]) (zs (zr [zm 35 14,⟨some 36,.pk (.ibin .geq) [.t 35,.c (.int .i64 0)],none⟩,zm 37 36,zg true 37 (zm 38 14),zg true 37 (zm 39 0),zg true 37 (zn 40 39),zg true 37 (zt 41 38 40),zu 42 37 41]) (.cond (.t 42) (zr [zm 43 12,zm 44 14,zi 45 1 43 44,⟨none,.sk (.store 1) [.t 45,.c (.bool true)],none⟩]) .skip)))) (zr [zp 46 31,zm 31 46]))))))) (zs (zr [zm 47 11,⟨some 48,.callF 123 [.t 47,.c (.int .i64 0)],none⟩,zc1 49 122 48,zm 15 49]) (zs (zs (zr [zm 50 12,zn 51 50,zk 52 0]) (.block 2 (.loop (zs (zr [zt 53 52 51]) (zs (.cond (.t 53) .skip (.exit 2)) (zs (.block 3 (zs (zr [zm 54 52,zi 55 1 50 52,zl 56 1 55,zm 16 54,zm 17 56]) (zs (zr [zm 57 17]) (.cond (.t 57) (zr [zm 58 15,zm 59 16,zc2 60 124 58 59]) .skip)))) (zr [zp 61 52,zm 52 61]))))))) (zs (zr [zk 18 0]) (zs (zs (zr [zm 63 15,zc1 64 125 63,zm 62 64,ze 65 0 62,ze 66 1 62,zm 19 65,zm 20 66]) (.block 4 (.loop (zs (zs (zr [zm 67 20]) (.cond (.t 67) .skip (.exit 4))) (zs (.block 5 (zs (zr [zm 73 18,zp 74 73,zm 18 74]) (zs (zr [zm 75 2,zm 76 19,zi 77 2 75 76,zL 78 2 77,⟨some 21,.sk (.alloc [z,.nilsl]) [],none⟩,zw 2 21 78]) (zs (zr [zm 79 2,zm 80 19,zm 81 3,zm 82 19,zm 83 2,⟨some 84,.callV (.t 81) [.t 82,.t 83],none⟩,zi 85 2 79 80,zw 2 85 84]) (zs (zs (.region true [zm 86 4,zL 87 2 21,zm 88 2,zm 89 19,zi 90 2 88 89,zL 91 2 90,⟨some 92,.callV (.t 86) [.t 87,.t 91],none⟩] [[],[],[],[],[2,3],[4],[0,1,5]]) (.cond (.t 92) (.exit 5) .skip)) (zs (zr [zm 93 11,zm 94 19,zi 95 1 93 94,zl 96 1 95,zn 97 96,zk 98 0]) (.block 6 (.loop (zs (zr [zt 99 98 97]) (zs (.cond (.t 99) .skip (.exit 6)) (zs (.block 7 (zs (zr [zi 100 1 96 98,zl 101 1 100,zm 23 101]) (zs (zr [zm 102 12,zm 103 23,zi 104 1 102 103,zl 105 1 104]) (.cond (.t 105) (zr [zm 106 15,zm 107 23,zc2 108 124 106 107]) .skip)))) (zr [zp 109 98,zm 98 109])))))))))))) (zr [zm 69 15,zc1 70 125 69,zm 68 70,ze 71 0 68,ze 72 1 68,zm 19 71,zm 20 72])))))) (zs (zr [zm 110 18,zm 10 110]) .ret))))))))
structure El (α:Type) where
 c1:α→AV
 c2:α→AV
 o1:∀a,(c1 a).one=true
 o2:∀a,(c2 a).one=true
 s1:∀a,(c1 a).stab=true
 s2:∀a,(c2 a).stab=true
 d1:∀a,(c1 a).solid=true
 d2:∀a,(c2 a).solid=true
def El.e {α:Type} (E:El α) (a:α):List AV:=[E.c1 a,E.c2 a]
section
variable {α:Type} {E:El α} {Y:Sys α}
structure GRun (Y:Sys α) (E:El α) (o ib B:Nat) (x:List α) (h:List Nat) (t:Option Nat) (S0 S:St) (W:Nat):Prop where
 ex:∃ ord A I H ho ov,Wo Y.n ord S W A I H ho ov h∧B≤A∧B≤I∧B≤H∧B≤ho∧Y.Mid x (fun j=>todo ord h j ∨ t=some j)∧(t=none→∀j,¬ todo ord h j)
 ti:∀i,t=some i→i < Y.n
 row:S.obj o=some (.row 2 (els E.e x))
 inn:S.obj ib=some (.row 1 (els boolc (List.replicate Y.n true)))
 lt:o < ib∧ib < B∧B≤S.next∧B≤W
 keep:∀q,q < ib→q ≠ o→S.obj q=S0.obj q
def GPut (Y:Sys α) (E:El α) (o ib B:Nat) (x:List α) (ord:List Nat) (W A I H:Nat) (ov:AV) (D:Nat→Nat→Prop) (a:Nat) (S0 S:St):Prop:=∃ ho h,Wo Y.n ord S W A I H ho ov h∧B≤ho∧(∀j,todo ord h j ↔ D a j)∧S.obj o=some (.row 2 (els E.e x)) ∧
 S.obj ib=some (.row 1 (els boolc (List.replicate Y.n true)))∧B≤S.next∧∀q,q < ib→q ≠ o→S.obj q=S0.obj q
theorem grun_Take {o ib B:Nat} {x:List α} {ord:List Nat} {S0 S:St} {Wp A I H ho:Nat} {ov:AV} {h:List Nat} {K:AV→St→Prop} (hl:Y.n≤12) (hw:Wo Y.n ord S Wp A I H ho ov h) (hA:B≤A) (hI:B≤I) (hH:B≤H) (hh:B≤ho) (hm:Y.Mid x (fun j=>todo ord h j))
  (row:S.obj o=some (.row 2 (els E.e x))) (inn:S.obj ib=some (.row 1 (els boolc (List.replicate Y.n true)))) (lt:o < ib∧ib < B∧B≤S.next∧B≤Wp) (keep:∀q,q < ib→q ≠ o→S.obj q=S0.obj q)
  (hk:∀S' h' t (c:Int),GRun Y E o ib B x h' t S0 S' Wp→(∀i:Nat,t=some i→c=(i:Int))→h'.length + (if t.isSome then 1 else 0)≤h.length→K (.tuple [.int .i64 c,.bool t.isSome]) S'):Cal P g 125 [.ptr Wp 0 0] S K:=by
 refine work_Take hw (by omega) (fun h0=>?_) fun S' h' i k1 k2 k3 k4 k5 k6=>?_
 ·subst h0
  have hnt:∀j,¬ todo ord [] j:=fun j ⟨k,h,_⟩=>by simp at h
  refine hk S [] none 0 ⟨⟨ord,A,I,H,ho,ov,hw,hA,hI,hH,hh,?_,fun _=>hnt⟩,(fun i h=>by cases h),row,inn,lt,keep⟩ (fun i h=>by cases h) (by simp)
  have e:(fun j=>todo ord [] j ∨ (none:Option Nat)=some j)=fun j=>todo ord [] j:=by funext j;simp
  rw [e];exact hm
 ·have hq:∀q,q < B→S'.obj q=S.obj q:=fun q hq=>k5.2 q (by omega) (by omega) (by omega) (by omega)
  refine hk S' h' (some i) i ⟨⟨ord,A,I,H,ho,ov,k1,hA,hI,hH,hh,?_,(fun h=>by cases h)⟩,(fun j h=>by cases h;exact k2),by rw [hq o (by omega)];exact row,by rw [hq ib (by omega)];exact inn,⟨lt.1,lt.2.1,by have:=k5.1;omega,lt.2.2.2⟩,fun q h1 h2=>by rw [hq q (by omega)];exact keep q h1 h2⟩ (fun j h=>by cases h;rfl) (by simp;omega)
  have e:(fun j=>todo ord h' j ∨ some i=some j)=fun j=>todo ord h j:=by
   funext j
   simp only [k4,Option.some.injEq,eq_iff_iff]
   constructor
   ·rintro (h | rfl)
    ·exact h.1
    ·exact k3
   ·intro h
    by_cases hj:i=j
    ·exact .inr hj
    ·exact .inl ⟨h,fun e=>hj e.symm⟩
  rw [e];exact hm
theorem gput_step {o ib B:Nat} {I H ho ho':Nat} {S0 S S':St} (hf:WoF S S' I H ho) (hho:ho'=ho ∨ S.next≤ho') (hB:o < ib∧ib < B∧B≤S.next) (hI:B≤I) (hH:B≤H) (hh:B≤ho) (keep:∀q,q < ib→q ≠ o→S.obj q=S0.obj q) :
  S'.obj o=S.obj o∧S'.obj ib=S.obj ib∧B≤ho'∧(∀q,q < ib→q ≠ o→S'.obj q=S0.obj q):=by
 have hq:∀q,q < B→S'.obj q=S.obj q:=fun q hq=>hf.2 q (by omega) (by omega) (by omega) (by omega)
 exact ⟨hq o (by omega),hq ib (by omega),by omega,fun q h1 h2=>by rw [hq q (by omega)];exact keep q h1 h2⟩
structure GEv (g:Glob) (Y:Sys α) (E:El α) (evV:AV) (fs:Nat) (o:Nat) (S0:St):Prop where
 ev:∀(S:St) (x:List α) (i:Nat) (K:AV→St→Prop),Y.Fit x→i < Y.n→S0.next≤S.next→S.obj o=some (.row 2 (els E.e x))→(∀q,q < S0.next→q ≠ o→S.obj q=S0.obj q)→(∀S',Up S S'→K (.agg (E.e (Y.ev x i))) S')→CalV P g evV [.int .i64 (i:Int),.sl 2 o 0 Y.n] S K
 same:∀a b,Y.ok a→Y.ok b→∃ t:Bool,(t=true ↔ a=b)∧Ret P g false fs [.agg (E.e a),.agg (E.e b)] (.bool t)
theorem solver_RunG {f fs:Nat} {z:AV} {evV rv gv:AV} {G:List (List Int)} {o:Nat} {S:St} {K:AV→St→Prop} (hc:Fun' P f 111 [.tmp 10] (runCode z)) (hl:Y.n≤12) (hrl:lenV rv=some Y.n) (hrp:pict S [] 9 rv=some gv) (hgr:GrV gv G) (hG:G.length=Y.n)
  (hout:∀m ∈ G,m.length < 64∧∀j ∈ m,0≤j∧j < Y.n) (hrd:∀(k:Nat) (m:List Int),G[k]?=some m→Y.rd k=m) (hE:GEv g Y E evV fs o S) (ho:S.obj o=some (.row 2 (els E.e (List.replicate Y.n Y.bot)))) (hos:o < S.next) {allv:AV} (hal:lenV allv=some Y.n) (hai:∀S',Up S S'→∀a:Nat,a < Y.n→∃ pt,pk (.indexAddr 1) [allv,.int .i64 (a:Int)]=some pt∧sk (.load false 1) [pt] S'=some (.int .i64 (a:Int),S'))
  (hk:∀S',S'.obj o=some (.row 2 (els E.e Y.sol))→S.next≤S'.next→(∀q,q < S.next→q ≠ o→S'.obj q=S.obj q)→K (.anyi .i64) S') :
  Cal P g f [rv,allv,.sl 2 o 0 Y.n,evV,.func (.func fs) [] []] S K:=by
 refine Cal.post ?_
 have hroom:Y.n≤room:=by simp [room];omega
 refine hc.in (by simp) ?_
 simp [runCode]
 refine (graph_Turn hgr (by omega) (fun m hm=>(hout m hm).1)).use (n:=9) (by simp [mapOpt,hrp]) (by simp) ?_
 rintro _ ⟨L,rfl,hT⟩
 have hLl:L.length=Y.n:=by rw [hT.len];simp [cleanG,hG]
 have hLs:∀m ∈ L,m.length≤768∧∀x ∈ m,0≤x∧x < Y.n:=by
  intro m hm
  have h1:=hT.short m hm
  have h2:=hT.sub m hm
  simp [cleanG,hG] at h1 h2
  exact ⟨by omega,h2⟩
 have hTa:∀(i k:Nat) (c:List Int),G[k]?=some c→(i:Int) ∈ c→∃ m,L[i]?=some m∧(k:Int) ∈ m:=by
  intro i k c hc hi
  have h1:=(hout c (List.mem_of_getElem? hc)).2 _ hi
  refine hT.all k i (cleanL G.length c) ?_ ?_
  ·simp [cleanG,hc]
  ·rw [cleanL_mem]
   exact ⟨hi,by omega,by omega⟩
 clear hT
 simp [hrl,hroom,hal]
 have e1:∀n:Nat,List.replicate n [AV.bool false]=els boolc (List.replicate n false):=fun n=>els_replicate (e:=boolc)
 refine W.whileI (fun (a:Nat) F S'=>a≤Y.n∧F 0=rv∧F 2=.sl 2 o 0 Y.n∧F 3=evV∧F 4=.func (.func fs) [] []∧F 11=.fsl 1 (els (fun m=>[encF intc 1 m]) L)∧F 12=.sl 1 S.next 0 Y.n ∧
  F 29=allv∧F 30=.int .i64 Y.n∧F 31=.int .i64 a∧S'.next=S.next + 1∧Up S S'∧∃ m:List Bool,m.length=Y.n∧S'.obj S.next=some (.row 1 (els boolc m))∧m.take a=List.replicate a true) (fun a=>Y.n - a) ?_ 0 _ _ ?_
 ·rintro a F S' ⟨ha,h0,h2,h3,h4,h11,h12,h29,h30,h31,hn,hup,m,hm,hob,hmt⟩
  by_cases hlt:a < Y.n
  ·have e4:=wrapS a (by omega)
   obtain ⟨u,hu⟩:∃ u,m[a]?=some u:=⟨_,List.getElem?_eq_getElem (by omega)⟩
   obtain ⟨pt,hp1,hp2⟩:=hai S' hup a hlt
   simp [h30,h31,hlt]
   simp [h29,h31,hp1,hp2,h0,hrl,hlt]
   simp [h12,ix_sl hlt,hob,hu,boolc,h0,h2,h3,h4,h11,h29,h30,h31,e4]
   refine ⟨a + 1,by omega,by omega,by omega,hn,⟨by simpa using hup.1,fun q hq=>by simp [show ¬ q=S.next by omega];exact hup.2 q hq⟩,m.set a true,by simp [hm],by rw [← els_set];rfl,?_⟩
   rw [set_take_succ (by omega),hmt,List.replicate_succ']
  ·have:a=Y.n:=by omega
   subst this
   have hmR:m=List.replicate Y.n true:=by rw [← hmt,List.take_of_length_le (by omega)]
   subst hmR
   simp [h30,h31,h11]
   refine (rank_Schedule (encR_gr L) (by omega) (fun m hm=>by have:=(hLs m hm).1;omega) 0).use (n:=9) (by simp) (by simp [solids,AV.solid]) ?_
   rintro _ ⟨ord,rfl,hord⟩
   rw [hLl] at hord
   simp
   refine work_New rfl hord (by omega) fun S2 Wp A I H hh ov hw hup2 hids=>?_
   have hn2:=hup2.1
   have hob2:S2.obj S.next=some (.row 1 (els boolc (List.replicate Y.n true))):=by rw [hup2.2 _ (by omega)];exact hob
   have hro2:S2.obj o=some (.row 2 (els E.e (List.replicate Y.n Y.bot))):=by rw [hup2.2 o (by omega),hup.2 o hos];exact ho
   have hke2:∀q,q < S.next→q ≠ o→S2.obj q=S.obj q:=fun q h1 _=>by rw [hup2.2 q (by omega),hup.2 q h1]
   have hBh:S.next + 1≤Wp∧S.next + 1≤A∧S.next + 1≤I∧S.next + 1≤H∧S.next + 1≤hh:=by rw [hn] at hids;exact hids
   have hntd:∀j,¬ todo ord [] j:=fun j ⟨k,h,_⟩=>by simp at h
   simp [h12]
   refine W.whileI (fun (a:Nat) F S'=>a≤Y.n∧F 2=.sl 2 o 0 Y.n∧F 3=evV∧F 4=.func (.func fs) [] []∧F 11=.fsl 1 (els (fun m=>[encF intc 1 m]) L)∧F 12=.sl 1 S.next 0 Y.n∧F 15=.ptr Wp 0 0 ∧
    F 50=.sl 1 S.next 0 Y.n∧F 51=.int .i64 Y.n∧F 52=.int .i64 a∧GPut Y E o S.next (S.next + 1) (List.replicate Y.n Y.bot) ord Wp A I H ov (fun a j=>j < a) a S S') (fun a=>Y.n - a) ?_ 0 _ _ ?_
   ·rintro a F S3 ⟨ha,h2,h3,h4,h11,h12,h15,h50,h51,h52,ho3,h',hw3,hb3,ht3,hr3,hi3,hn3,hk3⟩
    by_cases hlt:a < Y.n
    ·have e4:=wrapS a (by omega)
     have hr:(List.replicate Y.n true)[a]?=some true:=by simp [hlt]
     simp [h51,h52,hlt]
     simp [h50,h52,ix_sl hlt,hi3,hr,boolc,h15]
     refine work_Put hw3 hlt (by omega) fun S4 ho4 h4' b k1 k2 k3 k4 k5=>?_
     obtain ⟨m1,m2,m3,m4⟩:=gput_step (o:=o) (ib:=S.next) (B:=S.next + 1) k3 k4 ⟨by omega,by omega,hn3⟩ hBh.2.2.1 hBh.2.2.2.1 hb3 hk3
     simp [h2,h3,h4,h11,h12,h15,h50,h51,h52,e4]
     refine ⟨a + 1,by omega,by omega,by omega,ho4,h4',k1,m3,fun j=>?_,by rw [m1];exact hr3,by rw [m2];exact hi3,by have:=k3.1;omega,m4⟩
     rw [k2,ht3];omega
    ·have:a=Y.n:=by omega
     subst this
     simp [h51,h52,hlt,h15]
     have hmid:Y.Mid (List.replicate Y.n Y.bot) (fun j=>todo ord h' j):=by
      have:=Sys.Mid.start (Y:=Y)
      have e:(fun i=>i < Y.n)=fun j=>todo ord h' j:=by funext j;exact propext (ht3 j).symm
      rwa [e] at this
     refine grun_Take (S0:=S) hl hw3 hBh.2.1 hBh.2.2.1 hBh.2.2.2.1 hb3 hmid hr3 hi3 ⟨hos,Nat.lt_succ_self _,hn3,hBh.1⟩ hk3 fun S4 h4' t c hR hc hlen=>?_
     simp
     refine W.whileI (fun (z:List α × List Nat × Option Nat) F S'=>F 2=.sl 2 o 0 Y.n∧F 3=evV∧F 4=.func (.func fs) [] []∧F 11=.fsl 1 (els (fun m=>[encF intc 1 m]) L)∧F 12=.sl 1 S.next 0 Y.n∧F 15=.ptr Wp 0 0 ∧
      (∃ c,F 18=.int .i64 c)∧(∃ c:Int,F 19=.int .i64 c∧∀i:Nat,z.2.2=some i→c=(i:Int))∧F 20=.bool z.2.2.isSome∧GRun Y E o S.next (S.next + 1) z.1 z.2.1 z.2.2 S S' Wp) (fun z=>Y.gap z.1 * 100 + z.2.1.length + (if z.2.2.isSome then 1 else 0)) ?_ (List.replicate Y.n Y.bot,h4',t) _ _ ?_
     ·rintro ⟨x,h,t⟩ F S4 ⟨h2,h3,h4,h11,h12,h15,⟨c,h18⟩,⟨i',h19,hti⟩,h20,hR⟩
      simp only at hti h20 hR
      obtain ⟨⟨ord,A,I,H,ho',ov,hw,hA,hI,hH,hh,hm,htn⟩,hil,row,inn,hlt,keep⟩:=hR
      cases t with
      | none =>
       simp [h20]
       have e:x=Y.sol:=(hm.done fun j hj=>by rcases hj with hj | hj;exact htn rfl j hj;cases hj).sol
       subst e
       exact .inr ⟨.anyi .i64,.inl ⟨_,_,h18,rfl⟩,S4,Wk.refl S4,hk S4 row (by omega) keep⟩
      | some i =>
       have hin:=hil i rfl
       have:=hti i rfl
       subst this
       obtain ⟨s,hs,hso⟩:=hm.fit.at hin
       have hxl:=hm.fit.len
       have hto:=hm.fit.ev hin
       simp [h20,h18,h2,h19,ix_sl hin,row,hs,h3,El.e,E.o1,E.o2]
       generalize hS5:(S4.new (.row 2 [[z,.nilsl]])).set S4.next (.row 2 [[E.c1 s,E.c2 s]])=S5
       have hn5:S5.next=S4.next + 1:=by rw [← hS5];simp
       have hq5:∀p,p < S4.next→S5.obj p=S4.obj p:=fun p hp=>by rw [← hS5];simp [show ¬ p=S4.next by omega]
       have hb5:S5.obj S4.next=some (.row 2 [[E.c1 s,E.c2 s]]):=by rw [← hS5];simp
       clear hS5
       refine hE.ev S5 x i _ hm.fit hin (by omega) (by rw [hq5 o (by omega)];exact row) (fun q h1 h2=>by rw [hq5 q (by omega)];exact keep q h1 h2) fun S6 hup6=>?_
       have hn6:=hup6.1
       have hq6:∀p,p < S4.next→S6.obj p=S4.obj p:=fun p hp=>by rw [hup6.2 p (by omega),hq5 p hp]
       have hb6:S6.obj S4.next=some (.row 2 [[E.c1 s,E.c2 s]]):=by rw [hup6.2 _ (by omega)];exact hb5
       have hr6:S6.obj o=some (.row 2 (els E.e x)):=by rw [hq6 o (by omega)];exact row
       have hes:(els E.e x).set i [E.c1 (Y.ev x i),E.c2 (Y.ev x i)]=els E.e (x.set i (Y.ev x i)):=els_set (e:=E.e)
       simp [h2,h19,ix_sl hin,hr6,hs,El.e,E.o1,E.o2,hes]
       generalize hS7:S6.set o (.row 2 (els E.e (x.set i (Y.ev x i))))=S7
       have hn7:S7.next=S6.next:=by rw [← hS7];simp
       have hr7:S7.obj o=some (.row 2 (els E.e (x.set i (Y.ev x i)))):=by rw [← hS7];simp
       have hq7:∀p,p < S4.next→p ≠ o→S7.obj p=S4.obj p:=fun p hp hpo=>by rw [← hS7];simp [hpo,hq6 p hp]
       have hb7:S7.obj S4.next=some (.row 2 [[E.c1 s,E.c2 s]]):=by rw [← hS7];simp [show ¬ S4.next=o by omega,hb6]
       clear hS7
       have hw7:=hw.keep2 (S':=S7) row (by omega) fun p hp h=>hq7 p hp h
       have inn7:S7.obj S.next=some (.row 1 (els boolc (List.replicate Y.n true))):=by rw [hq7 S.next (by omega) (by omega)];exact inn
       have keep7:∀q,q < S.next→q ≠ o→S7.obj q=S.obj q:=fun q h1 h2=>by rw [hq7 q (by omega) h2];exact keep q h1 h2
       have hg7:(x.set i (Y.ev x i))[i]?=some (Y.ev x i):=List.getElem?_set_self (by omega)
       obtain ⟨tt,htt,hsame⟩:=hE.same s (Y.ev x i) hso hto
       have p1:∀n a,pict S7 [] (n + 1) (E.c1 a)=some (E.c1 a):=fun n a=>pict_stab (E.s1 a)
       have p2:∀n a,pict S7 [] (n + 1) (E.c2 a)=some (E.c2 a):=fun n a=>pict_stab (E.s2 a)
       refine Dra.auto [] mix ?_ ?_
       ·kernel_rfl
       simp [classes,h4,h2,h19,hb7,ix_sl hin,hr7,hg7,El.e]
       refine hsame.b (n:=9) (by simp [mapOpt,p1,p2,El.e]) rfl ?_
       simp
       have hgap:s ≠ Y.ev x i→Y.gap (x.set i (Y.ev x i)) < Y.gap x:=fun hne=>Sys.gap_set hm.fit.ok hs hto (hm.pre i s hs) hne
       cases tt with
       | true =>
        have hse:s=Y.ev x i:=htt.1 rfl
        have hm2:Y.Mid (x.set i (Y.ev x i)) (fun j=>todo ord h j):=hm.step hs (fun k hk=>by
         by_cases hki:k=i
         ·exact .inl hki
         ·exact .inr fun hh=>by rcases hh with hh | hh;exact hk hh;cases hh;exact hki rfl) (fun hne=>absurd hse hne)
        have hgs:Y.gap (x.set i (Y.ev x i))=Y.gap x:=by rw [← hse,set_same hs]
        simp [h15]
        refine grun_Take (S0:=S) hl hw7 hA hI hH hh hm2 hr7 inn7 ⟨hlt.1,hlt.2.1,by omega,hlt.2.2.2⟩ keep7 fun S8 h8 t8 c8 hR8 hc8 hlen8=>?_
        simp [h2,h3,h4,h11,h12,h15]
        exact ⟨x.set i (Y.ev x i),h8,t8,by omega,hc8,rfl,hR8⟩
       | false =>
        have hse:s ≠ Y.ev x i:=fun h=>by cases htt.2 h
        have hgl:=hgap hse
        simp [h11,h19]
        obtain ⟨m,hmi⟩:∃ m,L[i]?=some m:=⟨_,List.getElem?_eq_getElem (by omega)⟩
        have hLm:=hLs m (List.mem_of_getElem? hmi)
        have hmf:FSl intc 1 (encF intc 1 m) m:=encF_sl
        have hrf:FSl (fun m=>[encF intc 1 m]) 1 (.fsl 1 (els (fun m=>[encF intc 1 m]) L)) L:=FSl.mk
        simp [hrf.idx hmi,hmf.len]
        refine W.whileI (fun (a:Nat) F S'=>a≤m.length∧F 2=.sl 2 o 0 Y.n∧F 3=evV∧F 4=.func (.func fs) [] []∧F 11=.fsl 1 (els (fun m=>[encF intc 1 m]) L)∧F 12=.sl 1 S.next 0 Y.n∧F 15=.ptr Wp 0 0 ∧
         (∃ c,F 18=.int .i64 c)∧F 96=encF intc 1 m∧F 97=.int .i64 m.length∧F 98=.int .i64 a∧GPut Y E o S.next (S.next + 1) (x.set i (Y.ev x i)) ord Wp A I H ov (fun a j=>todo ord h j ∨ (j:Int) ∈ m.take a) a S S') (fun a=>m.length - a) ?_ 0 _ _ ?_
        ·rintro a F S8 ⟨ha,h2,h3,h4,h11,h12,h15,⟨c,h18⟩,h96,h97,h98,ho8,h8,hw8,hb8,ht8,hr8,hi8,hn8,hk8⟩
         by_cases hlta:a < m.length
         ·have e4:=wrapS a (by omega)
          obtain ⟨r,hr⟩:∃ r,m[a]?=some r:=⟨_,List.getElem?_eq_getElem hlta⟩
          have hr0:=hLm.2 r (List.mem_of_getElem? hr)
          obtain ⟨r,rfl⟩:∃ k:Nat,r=(k:Int):=⟨r.toNat,by omega⟩
          have hrl:r < Y.n:=by omega
          have hrt:(List.replicate Y.n true)[r]?=some true:=by simp [hrl]
          simp [h97,h98,hlta]
          simp [h96,h98,hmf.idx hr,h12,ix_sl hrl,hi8,hrt,boolc,intc,h15]
          refine work_Put hw8 hrl (by omega) fun S9 ho9 h9 b9 k1 k2 k3 k4 k5=>?_
          obtain ⟨m1,m2,m3,m4⟩:=gput_step (o:=o) (ib:=S.next) (B:=S.next + 1) k3 k4 ⟨by omega,by omega,hn8⟩ hI hH hb8 hk8
          simp [h2,h3,h4,h11,h12,h15,h18,h96,h97,h98,e4]
          refine ⟨a + 1,by omega,by omega,by omega,ho9,h9,k1,m3,fun j=>?_,by rw [m1];exact hr8,by rw [m2];exact hi8,by have:=k3.1;omega,m4⟩
          show todo ord h9 j ↔ (todo ord h j ∨ (j:Int) ∈ m.take (a + 1))
          rw [k2,ht8]
          show (todo ord h j ∨ (j:Int) ∈ m.take a) ∨ j=r ↔ _
          rw [List.take_add_one,hr]
          have e:((j:Int)=(r:Int)) ↔ j=r:=by omega
          simp [or_assoc,e]
         ·have:a=m.length:=by omega
          subst this
          simp [h97,h98,hlta,h15]
          have hm2:Y.Mid (x.set i (Y.ev x i)) (fun j=>todo ord h8 j):=hm.step hs (fun k hk=>by
           by_cases hki:k=i
           ·exact .inl hki
           ·refine .inr fun hh=>?_
            rcases hh with hh | hh
            ·exact hk ((ht8 k).2 (.inl hh))
            ·cases hh;exact hki rfl) (fun hne k hkn hi=>by
             obtain ⟨c,hc⟩:∃ c,G[k]?=some c:=⟨_,List.getElem?_eq_getElem (by omega)⟩
             rw [hrd k c hc] at hi
             obtain ⟨m',q1,q2⟩:=hTa i k c hc hi
             rw [hmi] at q1;cases q1
             exact (ht8 k).2 (.inr (by simpa using q2)))
          have hl8:=hw8.hl
          refine grun_Take (S0:=S) hl hw8 hA hI hH hb8 hm2 hr8 hi8 ⟨hlt.1,hlt.2.1,hn8,hlt.2.2.2⟩ hk8 fun S9 h9 t9 c9 hR9 hc9 hlen9=>?_
          simp [h2,h3,h4,h11,h12,h15,h18]
          refine ⟨x.set i (Y.ev x i),h9,t9,?_,hc9,rfl,hR9⟩
          omega
        ·simp [h2,h3,h4,h11,h12,h15]
         exact ⟨ho',h,hw7,hh,fun j=>by simp,hr7,inn7,by omega,keep7⟩
     ·simp [h2,h3,h4,h11,h12,h15]
      exact ⟨hc,hR⟩
   ·simp [h2,h3,h4,h11,h12]
    exact ⟨hh,[],hw,hBh.2.2.2.2,fun j=>⟨fun h=>absurd h (hntd j),fun h=>absurd h (by omega)⟩,hro2,hob2,by omega,hke2⟩
 ·simp [e1]
  exact ⟨Up.new _ _,List.replicate Y.n false,by simp,rfl⟩
end
end Go.Proofs.YtbhkamemheaajaaGreatDoor.Vm
namespace Go.Proofs.YtbhkamemheaajaaGreatDoor.Vm
open Go Go.RowKit
variable {N:Nat} {g:Glob}
def Fun.outs (f:Fun) (k:Nat):List Int:=(f.blks[k]?.map Blk.out).getD []
def Fun.code (f:Fun) (k:Nat):List Ins:=(f.blks[k]?.map Blk.ins).getD []
def Fun.predsTo (f:Fun) (b:Int) (k:Nat):List Int:=((List.range k).filter fun j=>decide (b ∈ f.outs j)).map fun j:Nat=>(j:Int)
def Fun.preds (f:Fun) (b:Int):List Int:=f.predsTo b f.blks.length
theorem Fun.predsTo_succ {f:Fun} {b:Int} {k:Nat} {x:Blk} (hx:f.blks[k]?=some x):f.predsTo b (k + 1)=f.predsTo b k ++ if b ∈ x.out then [(k:Int)] else []:=by
 have e:f.outs k=x.out:=by simp [Fun.outs,hx]
 unfold Fun.predsTo
 rw [List.range_succ,List.filter_append,List.map_append]
 congr 1
 by_cases h:b ∈ x.out <;> simp [e,h]
theorem Fun.predsTo_len (f:Fun) (b:Int) (k:Nat):(f.predsTo b k).length≤k:=by
 unfold Fun.predsTo
 have:=List.length_filter_le (fun j=>decide (b ∈ f.outs j)) (List.range k)
 simpa using this
theorem Fun.preds_mem {f:Fun} {b j:Int}:j ∈ f.preds b ↔ ∃ k x,j=((k:Nat):Int)∧f.blks[k]?=some x∧b ∈ x.out:=by
 unfold Fun.preds Fun.predsTo
 simp only [List.mem_map,List.mem_filter,List.mem_range,decide_eq_true_eq]
 constructor
 ·rintro ⟨k,⟨hk,hb⟩,rfl⟩
  refine ⟨k,f.blks[k],rfl,List.getElem?_eq_getElem hk,?_⟩
  simpa [Fun.outs,List.getElem?_eq_getElem hk] using hb
 ·rintro ⟨k,x,rfl,hx,hb⟩
  exact ⟨k,⟨(List.getElem?_eq_some_iff.1 hx).1,by simpa [Fun.outs,hx] using hb⟩,rfl⟩
noncomputable def Prg.preds (p:Prg) (i b:Int):List Int:=((p.fn i).getD Fun.none).preds b
theorem prog_Preds (p:Prg) (i b:Int) (hp:p.Fit):OwnL P (gl N) intc 1 13 [encP p,.int .i64 i,.int .i64 b] (p.preds i b):=by
 refine OwnL.in c13 (by simp) ?_
 simp [k13]
 refine (prog_Fun p i hp).use (n:=9) (by simp [mapOpt,pict_stab p.funsS.stab]) (by simp [solids,AV.solid,p.funsS.solid]) ?_
 have hsm:((p.fn i).getD Fun.none).Small:=by
  cases h:p.fn i with
  | none=>exact ⟨by simp,fun b hb=>by simp at hb,fun b hb=>by simp at hb⟩
  | some f=>exact fn_fit hp h
 have h12:((p.fn i).getD Fun.none).blks.length≤12:=by
  cases h:p.fn i with
  | none=>simp
  | some f=>exact (fn_ok h).len.2
 have hpr:p.preds i b=((p.fn i).getD Fun.none).preds b:=rfl
 rw [hpr]
 generalize (p.fn i).getD Fun.none=f at *
 simp
 refine W.whileI (fun (k:Nat) F S=>k≤f.blks.length∧F 2=.int .i64 b∧F 19=f.blksV∧F 20=.int .i64 f.blks.length∧F 21=.int .i64 k∧Has intc 1 S (F 9) (f.predsTo b k)∧Bel S (F 9)) (fun k=>f.blks.length - k) ?_ 0 _ _ ?_
 ·rintro k F S ⟨hk,h2,h19,h20,h21,h9,hb9⟩
  by_cases hlt:k < f.blks.length
  ·obtain ⟨y,hy⟩:∃ y,f.blks[k]?=some y:=⟨_,List.getElem?_eq_getElem hlt⟩
   have hbl:=hsm.blks
   have e4:=wrapS k (by omega)
   have hst:=Fun.predsTo_succ (b:=b) hy
   have hpl:=f.predsTo_len b k
   have hol:y.out.length < 2 ^ 40:=by have:=hsm.out y (List.mem_of_getElem? hy);omega
   simp [h20,h21,hlt]
   simp [h19,h21,f.blksS.idx hy,h2]
   refine (slices_Contains (g:=gl N) y.out b y.outV y.outS hol).use (n:=9) (by simp [mapOpt]) rfl ?_
   generalize hS1:(S.new (.row 3 [[.bool false,.nilsl,.nilsl]])).set S.next (.row 3 [[.bool y.on,y.insV,y.outV]])=S1
   have hn1:S1.next=S.next + 1:=by rw [← hS1];simp
   have h91:Has intc 1 S1 (F 9) (f.predsTo b k):=h9.keep fun q ⟨len,hq⟩=>by
    have:=hb9 _ _ _ hq
    rw [← hS1];simp [show ¬ q=S.next by omega]
   have hb1:Bel S1 (F 9):=hb9.mono (by omega)
   clear hS1
   by_cases hm:b ∈ y.out
   ·simp [hm] at hst ⊢
    refine appV_own (e:=intc) (x:=(k:Int)) (h91.new hb1) rfl (by simp [room];omega) ?_
    intro S' hS hnx hoth
    simp [h2,h19,h20,h21,e4]
    exact ⟨k + 1,by omega,by omega,by omega,by rw [hst];simpa using hS,Bel.sl (by rw [hnx];exact Nat.lt_succ_self _)⟩
   ·simp [hm] at hst ⊢
    simp [h2,h19,h20,h21,e4]
    exact ⟨k + 1,by omega,by omega,by omega,by rw [hst];exact h91,hb1⟩
  ·have:k=f.blks.length:=by omega
   subst this
   simp [h20,h21]
   exact h9
 ·simp
  exact ⟨.nil,Bel.nil⟩
def Fun.start (f:Fun):Env:=some (startL f.par f.vars)
def Fun.cevTo (f:Fun) (x:List Env) (i:Nat) (m:List Int):Env:=m.foldl (fun e j=>e.join (pastL (x.getD j.toNat Option.none) (f.code j.toNat))) (if i=0 then f.start else Option.none)
def Fun.cev (f:Fun) (x:List Env) (i:Nat):Env:=f.cevTo x i (f.preds i)
theorem fold_fit {n:Nat} {h:Int→Env} (hh:∀j,(h j).fit n) (m:List Int):∀{e:Env},e.fit n→(m.foldl (fun e j=>e.join (h j)) e).fit n:=by
 induction m with
 | nil=>intro e he;exact he
 | cons j m ih=>intro e he;exact ih (Env.join_fit he (hh j))
theorem fold_mono {n:Nat} {h h':Int→Env} (hh:∀j,(h j).fit n) (hh':∀j,(h' j).fit n) (hle:∀j,(h j).le (h' j)) (m:List Int):∀{e e':Env},e.fit n→e'.fit n→e.le e'→(m.foldl (fun e j=>e.join (h j)) e).le (m.foldl (fun e j=>e.join (h' j)) e'):=by
 induction m with
 | nil=>intro e e' _ _ hee;exact hee
 | cons j m ih=>intro e e' he he' hee;exact ih (Env.join_fit he (hh j)) (Env.join_fit he' (hh' j)) (Env.join_mono he (hh j) he' (hh' j) hee (hle j))
theorem fold_same {h h':Int→Env}:∀(m:List Int) (e:Env),(∀j ∈ m,h j=h' j)→m.foldl (fun e j=>e.join (h j)) e=m.foldl (fun e j=>e.join (h' j)) e
 | [],e,_=>rfl
 | j :: m,e,hm=>by
  rw [List.foldl_cons,List.foldl_cons,hm j (by simp)]
  exact fold_same m _ fun k hk=>hm k (by simp [hk])
def Fun.wid (f:Fun):Nat:=capN f.vars
theorem Fun.start_fit (f:Fun):f.start.fit f.wid:=Env.fit_some (startL_len _ _) (startL_ok _ _)
theorem at_fit {n:Nat} {x:List Env} (h:∀e ∈ x,Env.fit n e) (k:Nat):(x.getD k Option.none).fit n:=by
 rw [List.getD_eq_getElem?_getD]
 cases hx:x[k]? with
 | none=>exact Env.fit_none n
 | some e=>exact h e (List.mem_of_getElem? hx)
theorem Fun.cev_first (f:Fun) (i:Nat):(if i=0 then f.start else Option.none:Env).fit f.wid:=by
 split
 ·exact f.start_fit
 ·exact Env.fit_none _
theorem Fun.cevTo_fit (f:Fun) {x:List Env} (h:∀e ∈ x,Env.fit f.wid e) (i:Nat) (m:List Int):(f.cevTo x i m).fit f.wid :=
 fold_fit (fun j=>pastL_fit (at_fit h _)) _ (f.cev_first i)
theorem Fun.cev_fit (f:Fun) {x:List Env} (h:∀e ∈ x,Env.fit f.wid e) (i:Nat):(f.cev x i).fit f.wid:=f.cevTo_fit h i _
theorem getD_le {n:Nat} {x y:List Env} (hl:x.length=y.length) (h:∀(k:Nat) a b,x[k]?=some a→y[k]?=some b→Env.le a b) (k:Nat):(x.getD k Option.none).le (y.getD k Option.none):=by
 rw [List.getD_eq_getElem?_getD,List.getD_eq_getElem?_getD]
 by_cases hk:k < x.length
 ·obtain ⟨a,ha⟩:∃ v,x[k]?=some v:=⟨_,List.getElem?_eq_getElem hk⟩
  obtain ⟨b,hb⟩:∃ v,y[k]?=some v:=⟨_,List.getElem?_eq_getElem (by omega)⟩
  rw [ha,hb];exact h k a b ha hb
 ·rw [List.getElem?_eq_none (by omega)];exact Env.le_none _
def Fun.csys (f:Fun):Sys Env where
 n:=f.blks.length
 ev:=f.cev
 rd i:=f.preds i
 ok:=Env.fit f.wid
 le:=Env.le
 bot:=Option.none
 ht:=Env.ht
 top:=1 + 2 * f.wid
 refl a _:=Env.le_refl a
 trans a b c ha hb hc h1 h2:=Env.le_trans hb hc h1 h2 ha
 anti a b ha hb h1 h2:=Env.le_anti ha hb h1 h2
 botOk:=Env.fit_none _
 botLe a _:=Env.le_none a
 htop a ha:=by
  cases a with
  | none=>simp [Env.ht]
  | some l =>
   have h1:=htL (ha l rfl).2 (ha l rfl).2 rfl (fun k a b h1 h2=>by rw [h1] at h2;cases h2;exact Val.le_refl a)
   have h2:=(ha l rfl).1
   simp only [Env.ht]
   omega
 hlt a b ha hb hle hne:=by
  cases a with
  | none =>
   cases b with
   | none=>exact absurd rfl hne
   | some m=>simp only [Env.ht];omega
  | some l =>
   obtain ⟨m,hm,h3⟩:=hle l rfl
   subst hm
   have h1:=htL (ha l rfl).2 (hb m rfl).2 (by rw [(ha l rfl).1,(hb m rfl).1]) h3
   have h2:=h1.2.1 fun e=>hne (by rw [e])
   simp only [Env.ht]
   omega
 evOk x i _ hx _:=f.cev_fit hx i
 mono x y i hx hy hxo hyo hle _:=fold_mono (fun j=>pastL_fit (at_fit hxo _)) (fun j=>pastL_fit (at_fit hyo _)) (fun j=>pastL_mono (at_fit hxo _) (at_fit hyo _) (getD_le (n:=f.wid) (by rw [hx,hy]) hle _)) _ (f.cev_first i) (f.cev_first i) (Env.le_refl _)
 dep x i k a hno:=fold_same _ _ fun j hj=>by
  rw [List.getD_eq_getElem?_getD,List.getD_eq_getElem?_getD,List.getElem?_set_ne (Ne.symm (hno j hj))]
 nn i j hj:=by
  obtain ⟨k,_,rfl,_⟩:=Fun.preds_mem.1 hj
  exact Int.natCast_nonneg k
noncomputable def Fun.cin (f:Fun):List Env:=f.csys.sol
theorem Fun.cin_least (f:Fun):f.csys.Least f.cin:=f.csys.least
theorem Fun.cin_len (f:Fun):f.cin.length=f.blks.length:=f.cin_least.fit.len
theorem Fun.cin_fit (f:Fun) (k:Nat):(f.cin.getD k Option.none).fit f.wid:=at_fit f.cin_least.fit.ok k
theorem Fun.wid_lt (f:Fun):f.wid < 2 ^ 20:=by unfold Fun.wid capN;omega
def envEl:El Env where
 c1 e:=.bool e.isSome
 c2 e:=match e with
  | none=>.nilsl
  | some l=>.fsl 2 (els valc l)
 o1 e:=rfl
 o2 e:=by cases e <;> rfl
 s1 e:=rfl
 s2 e:=by cases e <;> rfl
 d1 e:=rfl
 d2 e:=by cases e <;> rfl
theorem envEl_e (e:Env):envEl.e e=envc e:=by cases e <;> rfl
theorem envEl_els (x:List Env):els envEl.e x=els envc x:=by
 unfold els
 exact List.map_congr_left fun e _=>envEl_e e
end Go.Proofs.YtbhkamemheaajaaGreatDoor.Vm
