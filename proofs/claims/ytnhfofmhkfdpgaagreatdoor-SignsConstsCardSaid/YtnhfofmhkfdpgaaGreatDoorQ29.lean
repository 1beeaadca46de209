/- A part of the proof: Cc Cd. -/
import Derived.Test.YtnhfofmhkfdpgaaGreatDoorQ28
set_option linter.unusedVariables false
set_option linter.unusedSimpArgs false
set_option linter.constructorNameAsVariable false
namespace Go.Proofs.YtnhfofmhkfdpgaaGreatDoor.Vm
open Go Go.RowKit
abbrev SEnv:=Option (List Int)
def gS (l:List Int) (i:Int):Int:=if 0≤i∧i < l.length then sgS (l.getD i.toNat 0) else 0
def SEnv.get (e:SEnv) (i:Int):Int:=match e with
 | none=>0
 | some l=>gS l i
def ownS (l:List Int) (n:Nat):List Int:=(List.range (max n l.length)).map fun k:Nat=>gS l (k:Int)
def SEnv.own (e:SEnv):SEnv:=e.map fun l=>ownS l 0
def joinS (l m:List Int):List Int:=(List.range (max m.length l.length)).map fun k:Nat=>sgJ (gS l k) (gS m k)
def SEnv.join (a b:SEnv):SEnv:=match a,b with
 | none,b=>b.own
 | a,none=>a.own
 | some l,some m=>some (joinS l m)
def SEnv.set (e:SEnv) (i:Int) (v:Int):SEnv:=e.own.map fun l=>if 0≤i∧i < l.length then l.set i.toNat (sgS v) else l
theorem xA1 (l:List Int) (n:Nat):(ownS l n).length=max n l.length:=by simp [ownS]
theorem xBK (l:List Int) (i:Int):sgOk (gS l i):=by
 unfold gS;split
 ·exact xBe _
 ·exact ⟨by omega,by omega⟩
theorem xG7 (l:List Int) (i:Int):sgS (gS l i)=gS l i:=xAv (xBK l i)
theorem xC8 {l:List Int} {i:Int} (h:¬ (0≤i∧i < l.length)):gS l i=0:=by unfold gS;rw [if_neg h]
theorem xMp {l:List Int} {k:Nat} {v:Int} (h:l[k]?=some v):gS l (k:Int)=sgS v:=by
 have:=(xgS h).1
 unfold gS
 rw [if_pos (by omega)]
 simp [yAA,h]
theorem SEnv.get_ok (e:SEnv) (i:Int):sgOk (e.get i):=by
 cases e with
 | none=>exact ⟨Int.le_refl _,by simp [SEnv.get]⟩
 | some l=>exact xBK l i
theorem xEg {n:Nat} {h:Nat→Int} (i:Int):gS ((List.range n).map h) i=if 0≤i∧i < n then sgS (h i.toNat) else 0:=by
 by_cases hi:0≤i∧i < n
 ·obtain ⟨k,rfl⟩:∃ k:Nat,i=(k:Int):=⟨i.toNat,by omega⟩
  have hk:k < n:=by omega
  rw [if_pos hi,xMp (v:=h k) (by simp [hk])];simp
 ·rw [if_neg hi,xC8 (by simpa using hi)]
theorem xGc (l:List Int) (n:Nat) (i:Int):gS (ownS l n) i=gS l i:=by
 unfold ownS
 rw [xEg]
 split
 ·rename_i h
  rw [Int.toNat_of_nonneg h.1,xG7]
 ·rename_i h
  rw [xC8 (by omega)]
theorem xUh:sgJ 0 0=0:=by decide +kernel
theorem xH4 (l m:List Int) (i:Int):gS (joinS l m) i=sgJ (gS l i) (gS m i):=by
 unfold joinS
 rw [xEg]
 split
 ·rename_i h
  rw [Int.toNat_of_nonneg h.1,xAv (xOf _ _)]
 ·rename_i h
  rw [xC8 (l:=l) (by omega),xC8 (l:=m) (by omega),xUh]
theorem xEh (l m:List Int):(joinS l m).length=max m.length l.length:=by simp [joinS]
theorem xUi {l:List Int} {i:Int} (h:0≤i∧i < l.length) (v j:Int):gS (l.set i.toNat v) j=if j=i then sgS v else gS l j:=by
 by_cases hj:0≤j∧j < l.length
 ·obtain ⟨k,rfl⟩:∃ k:Nat,j=(k:Int):=⟨j.toNat,by omega⟩
  by_cases hk:(k:Int)=i
  ·have hkl:k < l.length:=by omega
   subst hk
   rw [if_pos rfl,xMp (v:=v)]
   simp [hkl]
  ·rw [if_neg hk]
   unfold gS
   rw [if_pos (by simpa using hj),if_pos hj]
   simp only [yAA,yAs]
   rw [yAH (by omega)]
 ·rw [if_neg (by omega),xC8 hj,xC8 (by simpa using hj)]
def leS (l m:List Int):Prop:=l.length≤m.length∧∀i,sgLe (gS l i) (gS m i)
def SEnv.le (a b:SEnv):Prop:=∀l,a=some l→∃ m,b=some m∧leS l m
def okS (l:List Int):Prop:=l.length≤64∧∀v ∈ l,sgOk v
def SEnv.ok (e:SEnv):Prop:=∀l,e=some l→okS l
theorem SEnv.ok_none:SEnv.ok none:=fun l h=>by cases h
theorem SEnv.ok_some {l:List Int} (h:okS l):SEnv.ok (some l):=fun m hm=>by cases hm;exact h
theorem xLl (l:List Int):leS l l:=⟨yAC _,fun i=>xAw (xBK l i)⟩
theorem xOo {l m q:List Int} (h1:leS l m) (h2:leS m q):leS l q:=⟨yAX h1.1 h2.1,fun i=>xAT (xBK _ _) (xBK _ _) (xBK _ _) (h1.2 i) (h2.2 i)⟩
theorem xOq {l:List Int} (h:okS l) {k:Nat} {v:Int} (hv:l[k]?=some v):gS l (k:Int)=v:=by rw [xMp hv,xAv (h.2 v (xmG hv))]
theorem xLm {l m:List Int} (hl:okS l) (hm:okS m) (hn:l.length=m.length) (h:∀i,gS l i=gS m i):l=m:=by
 apply yAY
 intro k
 by_cases hk:k < l.length
 ·obtain ⟨a,ha⟩:∃ v,l[k]?=some v:=⟨_,xgG hk⟩
  obtain ⟨b,hb⟩:∃ v,m[k]?=some v:=⟨_,xgG (by omega)⟩
  have:=h (k:Int)
  rw [xOq hl ha,xOq hm hb] at this
  rw [ha,hb,this]
 ·rw [yAG (by omega),yAG (by omega)]
theorem xOr {l:List Int} (h:okS l):ownS l 0=l:=by
 refine xLm ⟨by rw [xA1];have:=h.1;omega,fun v hv=>?_⟩ h (by rw [xA1];omega) fun i=>xGc l 0 i
 simp only [ownS,yAU] at hv
 obtain ⟨k,_,rfl⟩:=hv
 exact xBK _ _
theorem SEnv.own_of {e:SEnv} (h:e.ok):e.own=e:=by
 cases e with
 | none=>rfl
 | some l=>simp [SEnv.own,xOr (h l rfl)]
theorem SEnv.le_refl (e:SEnv):e.le e:=fun l h=>⟨l,h,xLl l⟩
theorem SEnv.le_none (e:SEnv):SEnv.le none e:=fun l h=>by cases h
theorem SEnv.le_trans {a b c:SEnv} (h1:a.le b) (h2:b.le c):a.le c:=by
 intro l hl
 obtain ⟨m,hm,h3⟩:=h1 l hl
 obtain ⟨q,hq,h4⟩:=h2 m hm
 exact ⟨q,hq,xOo h3 h4⟩
theorem SEnv.le_anti {a b:SEnv} (ha:a.ok) (hb:b.ok) (h1:a.le b) (h2:b.le a):a=b:=by
 cases a with
 | none =>
  cases b with
  | none=>rfl
  | some m=>obtain ⟨l,hl,_⟩:=h2 m rfl;cases hl
 | some l =>
  obtain ⟨m,hm,h3⟩:=h1 l rfl
  subst hm
  obtain ⟨l',hl',h4⟩:=h2 m rfl
  cases hl'
  have:=h3.1
  have:=h4.1
  rw [xLm (ha l rfl) (hb m rfl) (by omega) fun i=>xOg (xBK _ _) (xBK _ _) (h3.2 i) (h4.2 i)]
theorem SEnv.own_le (e:SEnv):e.own.le e∧e.le e.own:=by
 cases e with
 | none=>exact ⟨SEnv.le_none _,SEnv.le_none _⟩
 | some l=>exact ⟨fun m hm=>by cases hm;exact ⟨l,rfl,by rw [xA1];omega,fun i=>by rw [xGc];exact xAw (xBK _ _)⟩,fun m hm=>by cases hm;exact ⟨_,rfl,by rw [xA1];omega,fun i=>by rw [xGc];exact xAw (xBK _ _)⟩⟩
theorem xP0 {l m:List Int} (hl:okS l) (hm:okS m):okS (joinS l m):=by
 refine ⟨by rw [xEh];have:=hl.1;have:=hm.1;omega,fun v hv=>?_⟩
 simp only [joinS,yAU] at hv
 obtain ⟨k,_,rfl⟩:=hv
 exact xOf _ _
theorem SEnv.join_ok {a b:SEnv} (ha:a.ok) (hb:b.ok):(a.join b).ok:=by
 cases a with
 | none=>show SEnv.ok b.own;rw [SEnv.own_of hb];exact hb
 | some l =>
  cases b with
  | none=>show SEnv.ok (SEnv.own (some l));rw [SEnv.own_of ha];exact ha
  | some m=>exact SEnv.ok_some (xP0 (ha l rfl) (hb m rfl))
theorem xRF {l m:List Int} {i:Int}:sgJ (gS l i) (gS m i)=sgOr (gS l i) (gS m i):=xQx (xBK _ _) (xBK _ _)
theorem SEnv.le_join_l (a b:SEnv):a.le (a.join b):=by
 cases a with
 | none=>exact SEnv.le_none _
 | some l =>
  cases b with
  | none=>exact (SEnv.own_le (some l)).2
  | some m=>exact fun l' hl'=>by cases hl';exact ⟨_,rfl,by rw [xEh];omega,fun i=>by rw [xH4,xRF];exact xJk (xBK _ _) (xBK _ _)⟩
theorem SEnv.le_join_r (a b:SEnv):b.le (a.join b):=by
 cases a with
 | none=>exact b.own_le.2
 | some l =>
  cases b with
  | none=>exact SEnv.le_none _
  | some m=>exact fun l' hl'=>by cases hl';exact ⟨_,rfl,by rw [xEh];omega,fun i=>by rw [xH4,xRF];exact xJl (xBK _ _) (xBK _ _)⟩
theorem SEnv.join_le {a b c:SEnv} (h1:a.le c) (h2:b.le c):(a.join b).le c:=by
 cases a with
 | none=>exact SEnv.le_trans b.own_le.1 h2
 | some l =>
  cases b with
  | none=>exact SEnv.le_trans (SEnv.own_le (some l)).1 h1
  | some m =>
   intro l' hl'
   cases hl'
   obtain ⟨q,hq,h3⟩:=h1 l rfl
   obtain ⟨q',hq',h4⟩:=h2 m rfl
   rw [hq] at hq';cases hq'
   refine ⟨q,hq,by rw [xEh];have:=h3.1;have:=h4.1;omega,fun i=>?_⟩
   rw [xH4,xRF]
   exact xOh (xBK _ _) (xBK _ _) (xBK _ _) (h3.2 i) (h4.2 i)
theorem SEnv.join_mono {a b a' b':SEnv} (h1:a.le a') (h2:b.le b'):(a.join b).le (a'.join b'):=SEnv.join_le (SEnv.le_trans h1 (SEnv.le_join_l a' b')) (SEnv.le_trans h2 (SEnv.le_join_r a' b'))
theorem SEnv.join_on (a b:SEnv):(a.join b).isSome=(a.isSome || b.isSome):=by
 cases a <;> cases b <;> simp [SEnv.join,SEnv.own]
theorem SEnv.get_mono {a b:SEnv} (h:a.le b) (i:Int):sgLe (a.get i) (b.get i):=by
 cases a with
 | none=>exact xF9 (b.get_ok i)
 | some l =>
  obtain ⟨m,hm,h3⟩:=h l rfl
  subst hm
  exact h3.2 i
theorem SEnv.set_on (e:SEnv) (i v:Int):(e.set i v).isSome=e.isSome:=by cases e <;> simp [SEnv.set,SEnv.own]
theorem SEnv.set_some (l:List Int) (i v:Int):SEnv.set (some l) i v=some (if 0≤i∧i < l.length then (ownS l 0).set i.toNat (sgS v) else ownS l 0):=by
 have:=xA1 l 0
 simp only [Nat.zero_max] at this
 simp [SEnv.set,SEnv.own,this]
theorem SEnv.set_get (l:List Int) (i v j:Int):SEnv.get (SEnv.set (some l) i v) j=if 0≤i∧i < l.length∧j=i then sgS v else gS l j:=by
 have hl:=xA1 l 0
 simp only [Nat.zero_max] at hl
 rw [SEnv.set_some]
 show gS _ j=_
 by_cases h:0≤i∧i < l.length
 ·rw [if_pos h,xUi (by omega),xGc,xKs]
  by_cases hj:j=i
  ·rw [if_pos hj,if_pos ⟨h.1,h.2,hj⟩]
  ·rw [if_neg hj,if_neg fun h'=>hj h'.2.2]
 ·rw [if_neg h,xGc,if_neg fun h'=>h ⟨h'.1,h'.2.1⟩]
theorem SEnv.set_len {l m:List Int} {i v:Int} (h:SEnv.set (some l) i v=some m):m.length=l.length:=by
 have hl:=xA1 l 0
 rw [SEnv.set_some] at h
 cases h
 split <;> simp [hl]
theorem SEnv.set_ok {e:SEnv} (h:e.ok) (i v:Int):(e.set i v).ok:=by
 cases e with
 | none=>exact SEnv.ok_none
 | some l =>
  rw [SEnv.set_some]
  have hl:=h l rfl
  rw [xOr hl]
  refine SEnv.ok_some ⟨by split <;> simp [hl.1],fun u hu=>?_⟩
  split at hu
  ·rcases yAP hu with h1 | h1
   ·exact hl.2 u h1
   ·rw [h1];exact xBe _
  ·exact hl.2 u hu
theorem SEnv.set_mono {a b:SEnv} (h:a.le b) (i:Int) {u v:Int} (huv:sgLe (sgS u) (sgS v)):(a.set i u).le (b.set i v):=by
 cases a with
 | none=>exact SEnv.le_none _
 | some l =>
  obtain ⟨m,hm,h3⟩:=h l rfl
  subst hm
  intro l' hl'
  have h4:SEnv.set (some m) i v=some (if 0≤i∧i < m.length then (ownS m 0).set i.toNat (sgS v) else ownS m 0):=SEnv.set_some m i v
  refine ⟨_,h4,?_,fun j=>?_⟩
  ·have h5:=SEnv.set_len hl'
   have h6:=SEnv.set_len h4
   have:=h3.1
   omega
  ·have e1:=SEnv.set_get l i u j
   have e2:=SEnv.set_get m i v j
   rw [hl'] at e1
   rw [h4] at e2
   have e1':gS l' j=_:=e1
   have e2':gS (if 0≤i∧i < m.length then (ownS m 0).set i.toNat (sgS v) else ownS m 0) j=_:=e2
   rw [e1',e2']
   by_cases h7:0≤i∧i < l.length∧j=i
   ·rw [if_pos h7,if_pos ⟨h7.1,by have:=h3.1;omega,h7.2.2⟩];exact huv
   ·rw [if_neg h7]
    by_cases h8:0≤i∧i < m.length∧j=i
    ·rw [if_pos h8,xC8 (by omega)];exact xF9 (xBe _)
    ·rw [if_neg h8];exact h3.2 j
theorem xQz {a:Int} (h:sgOk a):sgLe a 7:=xLd h
def SEnv.ht:SEnv→Nat
 | none=>0
 | some l=>1 + l.length + (l.map sgPop).sum
theorem htS:∀{l m:List Int},okS l→okS m→leS l m→(l.map sgPop).sum≤(m.map sgPop).sum∧(l.length=m.length→l ≠ m→(l.map sgPop).sum < (m.map sgPop).sum)∧(m.map sgPop).sum≤3 * m.length:=by
 have tail:∀{a:Int} {l:List Int},okS (a :: l)→okS l:=fun h=>⟨by have:=h.1;simp at this;omega,fun v hv=>h.2 v (by simp [hv])⟩
 have gcons:∀(a:Int) (l:List Int) (k:Nat),gS (a :: l) ((k:Int) + 1)=gS l k:=by
  intro a l k
  by_cases hk:k < l.length
  ·obtain ⟨v,hv⟩:∃ v,l[k]?=some v:=⟨_,xgG hk⟩
   rw [xMp hv]
   have:(a :: l)[k + 1]?=some v:=by simpa using hv
   have h2:=xMp this
   rw [← h2];congr 1
  ·rw [xC8 (l:=l) (by omega),xC8 (l:=a :: l) (by simp only [yAh];omega)]
 have bound:∀{m:List Int},okS m→(m.map sgPop).sum≤3 * m.length:=by
  intro m
  induction m with
  | nil=>intro _;simp
  | cons b m ih =>
   intro hm
   have h1:=ih (tail hm)
   have hb:=hm.2 b (by simp)
   have:=(xLf hb hb (xAw hb)).2.2
   simp only [yAu,List.sum_cons,yAh]
   omega
 intro l
 induction l with
 | nil =>
  intro m _ hm _
  refine ⟨by simp,fun h hne=>?_,bound hm⟩
  cases m with
  | nil=>exact absurd rfl hne
  | cons b m=>simp at h
 | cons a l ih =>
  intro m hl hm h
  cases m with
  | nil=>have:=h.1;simp at this
  | cons b m =>
   have h':leS l m:=by
    refine ⟨by have:=h.1;simpa using this,fun i=>?_⟩
    by_cases hi:0≤i
    ·obtain ⟨k,rfl⟩:∃ k:Nat,i=(k:Int):=⟨i.toNat,by omega⟩
     have:=h.2 ((k:Int) + 1)
     rw [gcons,gcons] at this
     exact this
    ·rw [xC8 (by omega)];exact xF9 (xBK _ _)
   obtain ⟨h1,h2,h3⟩:=ih (tail hl) (tail hm) h'
   have h0:=h.2 ((0:Nat):Int)
   rw [xOq hl (k:=0) (v:=a) rfl,xOq hm (k:=0) (v:=b) rfl] at h0
   obtain ⟨g1,g2,g3⟩:=xLf (hl.2 a (by simp)) (hm.2 b (by simp)) h0
   simp only [yAu,List.sum_cons,yAh]
   refine ⟨by omega,fun hn hne=>?_,by omega⟩
   by_cases hab:a=b
   ·have:l ≠ m:=fun e=>hne (by rw [hab,e])
    have:=h2 (by omega) this
    omega
   ·have:=g2 hab
    omega
theorem SEnv.ht_top {a:SEnv} (ha:a.ok):a.ht≤257:=by
 cases a with
 | none=>simp [SEnv.ht]
 | some l =>
  have h1:=htS (ha l rfl) (ha l rfl) (xLl l)
  have h2:=(ha l rfl).1
  simp only [SEnv.ht]
  omega
theorem SEnv.ht_lt {a b:SEnv} (ha:a.ok) (hb:b.ok) (hle:a.le b) (hne:a ≠ b):a.ht < b.ht:=by
 cases a with
 | none =>
  cases b with
  | none=>exact absurd rfl hne
  | some m=>simp only [SEnv.ht];omega
 | some l =>
  obtain ⟨m,hm,h3⟩:=hle l rfl
  subst hm
  have h1:=htS (ha l rfl) (hb m rfl) h3
  have h4:=h3.1
  simp only [SEnv.ht]
  by_cases hn:l.length=m.length
  ·have:=h1.2.1 hn fun e=>hne (by rw [e])
   omega
  ·omega
def Ins.sgn (i:Ins) (e:SEnv) (ans:Int):Int :=
 if i.kind=0 then sgOf i.c else if i.kind=1 then e.get i.a else if i.kind=2 then sgNeg (e.get i.a) else if i.kind=3 then sgAdd (e.get i.a) (e.get i.b) else
 if i.kind=4 then sgSub (e.get i.a) (e.get i.b) else if i.kind=5 then sgMul (e.get i.a) (e.get i.b) else if i.kind=7 then ans else 7
def Ins.sign (i:Ins) (e:SEnv) (ans:Int):SEnv:=e.set i.def (i.sgn e ans)
theorem Ins.sign_ok {e:SEnv} (h:e.ok) (i:Ins) (ans:Int):(i.sign e ans).ok:=SEnv.set_ok h _ _
theorem Ins.sign_on (i:Ins) (e:SEnv) (ans:Int):(i.sign e ans).isSome=e.isSome:=SEnv.set_on _ _ _
theorem Ins.sgn_mono {a b:SEnv} (h:a.le b) {u v:Int} (huv:sgLe (sgS u) (sgS v)) (i:Ins):sgLe (sgS (i.sgn a u)) (sgS (i.sgn b v)):=by
 have g1:=SEnv.get_mono h i.a
 have g2:=SEnv.get_mono h i.b
 have o1:=a.get_ok i.a
 have o2:=a.get_ok i.b
 have o3:=b.get_ok i.a
 have o4:=b.get_ok i.b
 unfold Ins.sgn
 repeat' split
 all_goals first
  | exact huv
  | exact xAw (xBe _)
  | (rw [xAv o1,xAv o3];exact g1)
  | (rw [xAv (xBz _),xAv (xBz _)];exact xEM o1 o3 g1)
  | (rw [xAv (xBx _ _),xAv (xBx _ _)];exact xEK o1 o2 o3 o4 g1 g2)
  | (rw [xAv (xFm _ _),xAv (xFm _ _)];exact xMo o1 o2 o3 o4 g1 g2)
  | (rw [xAv (xBy _ _),xAv (xBy _ _)];exact xEL o1 o2 o3 o4 g1 g2)
theorem Ins.sign_mono {a b:SEnv} (h:a.le b) {u v:Int} (huv:sgLe (sgS u) (sgS v)) (i:Ins):(i.sign a u).le (i.sign b v):=SEnv.set_mono h _ (i.sgn_mono h huv)
end Go.Proofs.YtnhfofmhkfdpgaaGreatDoor.Vm
namespace Go.Proofs.YtnhfofmhkfdpgaaGreatDoor.Vm
open Go Go.RowKit
variable {N:Nat} {g:Glob}
def envcS:SEnv→List AV
 | none=>[.bool false,.nilsl]
 | some l=>[.bool true,.fsl 1 (els intc l)]
@[simp] theorem xSv:envcS none=[.bool false,.nilsl]:=_root_.id rfl
@[simp] theorem xBT {l:List Int}:envcS (some l)=[.bool true,.fsl 1 (els intc l)]:=_root_.id rfl
@[simp] def encES (e:SEnv):AV:=.agg (envcS e)
def opsS:AV:=.agg [.func (.func 24) [] [],.func (.func 12) [] []]
theorem xAX:AV.agg [.func (.func 24) [] [],.func (.func 12) [] []]=opsS:=rfl
@[simp] theorem xGd {S:St} {n:Nat} (e:SEnv):mapOpt (pict S [] (n + 1)) (envcS e)=some (envcS e):=by cases e <;> simp [mapOpt]
theorem RK.rowES {S:St} {o k:Nat} {l:List Int} (h:S.obj o=some (.row 1 (els intc l))) (hk:l.length=k):RK (.agg (envcS (some l))) (.agg [.bool true,.sl 1 o 0 k]) S:=by
 refine ⟨8,?_⟩
 have:=xA4 (e:=intc) (S:=S) (n:=5) h hk
 simp only [xB0,mapOpt,xCq,this]
 rfl
@[simp] theorem xRG (e:SEnv):solids (envcS e)=true:=by cases e <;> simp
@[simp] theorem xUj (e:SEnv):(envcS e).length=2:=by cases e <;> rfl
theorem RK.envS {e e':SEnv} {S:St} (h:e=e'):RK (.agg (envcS e')) (.agg (envcS e)) S:=by subst h;exact ⟨9,by simp⟩
@[simp] theorem xSx (e:SEnv):(∀x,x ∈ envcS e→x.one=true)=True:=by cases e <;> simp
@[simp] theorem xSy (e:SEnv):(envcS e).take 2=envcS e:=by cases e <;> rfl
@[simp] theorem xSz (u v:AV) (e:SEnv):over [u,v] 0 (envcS e)=envcS e:=by cases e <;> rfl
@[simp] theorem xRH (e' e:SEnv):over (envcS e') 0 (envcS e)=envcS e:=by cases e <;> cases e' <;> rfl
@[simp] theorem xMr (e:SEnv):okEl 2 (envcS e)=true:=by cases e <;> rfl
theorem xBU:Ret P g false 45 [] opsS:=by
 refine Ret.in c45 (by simp) ?_
 simp [k45]
 exact ⟨9,by simp [opsS,xB1,mapOpt]⟩
theorem xGe {v:Int} (hv:sgOk v):Ret P g false 84 [opsS,.int .i64 v] (.int .i64 v):=by
 refine Ret.in c84 (by simp) ?_
 simp [k84,opsS]
 refine (xEf hv xAu).use (n:=9) ?_ rfl ?_ <;> simp
 exact RK.eq (by rw [xPS,xAv hv]) rfl
@[simp] theorem xUk {S:St} {n:Nat}:pict S [] (n + 3) opsS=some opsS:=by simp [opsS,xB1]
@[simp] theorem xSA:opsS.solid=true:=by simp [opsS]
@[simp] theorem xDj:opsS.cells=[.func (.func 24) [] [],.func (.func 12) [] []]:=rfl
theorem xDk (e:SEnv) (i:Int) (he:e.ok):Ret P g false 46 [opsS,encES e,.int .i64 i] (.int .i64 (e.get i)):=by
 refine Ret.in c46 (by simp) ?_
 cases e with
 | none =>
  simp [k46]
  exact RK.eq rfl rfl
 | some l =>
  simp [k46]
  refine xAM (fun h1=>?_) (fun h1=>?_) <;> simp [h1]
  ·refine xAj (fun h2=>?_) (fun h2=>?_) <;> simp [h2]
   ·refine RK.eq ?_ rfl
    simp only [SEnv.get,gS]
    rw [if_neg (by omega)]
   ·obtain ⟨k,rfl⟩:∃ k:Nat,i=(k:Int):=⟨i.toNat,by omega⟩
    have hk:k < l.length:=by omega
    obtain ⟨v,hv⟩:∃ v,l[k]?=some v:=⟨_,xgG hk⟩
    refine Dra.auto [] mix ?_ ?_
    ·kernel_rfl
    simp [classes,xAP,hv]
    refine (xGe ((he l rfl).2 v (xmG hv))).b (n:=9) ?_ rfl ?_ <;> simp [xAX]
    refine RK.eq ?_ rfl
    show AV.int .i64 v=AV.int .i64 (gS l k)
    rw [xOq (he l rfl) hv]
  ·refine RK.eq ?_ rfl
   simp only [SEnv.get,gS]
   rw [if_neg (by omega)]
theorem xH5 (n:Int):Ret P g false 89 [opsS,encES none,.int .i64 n] (encES none):=by
 refine Ret.in c89 (by simp) ?_
 simp [k89]
 exact RK.agg (by simp [AV.stab])
theorem xEi (l:List Int) (n:Nat) (hok:okS l) (hn:n < 2 ^ 20):Own P g 89 [opsS,encES (some l),.int .i64 (n:Int)] (.agg [.bool true,.sl 1 0 0 (max n l.length)]) (St.ofL [.row 1 (els intc (ownS l n))]):=by
 refine Own.in [3] c89 (by simp) (by simp) ?_
 have hl:l.length < 2 ^ 20:=by have:=hok.1;omega
 have hm:max n l.length < 2 ^ 20:=Nat.max_lt.2 ⟨hn,hl⟩
 have hroom:max n l.length≤room:=by simp only [room];omega
 have e1:(if n < l.length then (l.length:Int) else n)=((max n l.length:Nat):Int):=by split <;> omega
 simp [k89,e1]
 have hcast:(max (n:Int) l.length)=((max n l.length:Nat):Int):=by omega
 try simp only [hcast]
 have hol:=xA1 l n
 generalize hM:max n l.length=m at *
 simp [hroom]
 refine W.whileI (fun (a:Nat) F S=>a≤m∧F 3=.ptr 0 0 0∧F 4=.ptr 1 0 0∧F 6=.ptr 2 0 0∧F 7=.ptr 4 0 0∧F 22=.int .i64 m∧F 23=.int .i64 a∧S.obj 0=some (.row 2 [opsS.cells])∧S.obj 1=some (.row 2 [envcS (some l)]) ∧
  S.obj 2=some (.row 2 [[.bool false,.nilsl]])∧S.obj 4=some (.row 2 [[.bool true,.sl 1 3 0 m]])∧∃ o:List Int,o.length=m∧o.take a=(ownS l n).take a∧S.obj 3=some (.row 1 (els intc o))) (fun a=>m - a) ?_ 0 _ _ ?_
 ·rintro a F S ⟨ha,h3,h4,h6,h7,h22,h23,s0,s1,s2,s4,o,ho,hot,s3⟩
  by_cases hlt:a < m
  ·have e4:=wrapS a (by omega)
   obtain ⟨u,hu⟩:∃ u,o[a]?=some u:=⟨_,xgG (by omega)⟩
   simp [h22,h23,hlt]
   refine Dra.auto [] mix ?_ ?_
   ·kernel_rfl
   simp only [xDj,xBT] at s0 s1
   simp [classes,h3,h4,h6,h7,h22,h23,s0,s1,s4]
   refine (xDk (some l) a (SEnv.ok_some hok)).b (n:=9) ?_ rfl ?_ <;> simp [xAX]
   simp [intc,xAd hlt,s3,hu,h3,h4,h6,h7,h22,h23,e4]
   refine ⟨a + 1,by omega,by omega,by omega,by simpa using s0,by simpa using s1,by simpa using s2,by simpa using s4,o.set a (gS l a),by simp [ho],?_,by rw [← xAg];rfl⟩
   rw [xAn (by omega),hot]
   have:(ownS l n)[a]?=some (gS l a):=by simp [ownS,hM,hlt]
   rw [xAe this]
  ·have:a=m:=by omega
   subst this
   have hoR:o=ownS l n:=by rw [yAI (by omega),yAI (by omega)] at hot;exact hot
   subst hoR
   simp [h22,h23,h7,h6,s4,s2]
   simp [RO,s3,ho]
 ·simp
  exact ⟨List.replicate m 0,by simp,by simp [els,intc]⟩
theorem xGf (e:SEnv) (he:e.ok):Ret P g true 89 [opsS,encES e,.int .i64 0] (encES e.own):=by
 cases e with
 | none =>
  refine Ret.inP c89 (by simp) ?_
  simp [k89]
  exact ⟨rfl,9,by simp [SEnv.own,mapOpt]⟩
 | some l =>
  have hl:=xA1 l 0
  refine (xEi l 0 (he l rfl) (by omega)).ret (m:=9) ?_
  have:=xA4 (e:=intc) (S:=St.ofL [.row 1 (els intc (ownS l 0))]) (o:=0) (n:=6) rfl hl
  simp only [xB0,mapOpt,xCq,this]
  rfl
theorem xKu (a b:SEnv) (ha:a.ok) (hb:b.ok):Ret P g false 52 [opsS,encES a,encES b] (encES (a.join b)):=by
 refine Ret.in c52 (by simp) ?_
 simp [k52]
 cases a with
 | none =>
  simp
  cases b with
  | none =>
   simp
   refine (xGf (none:SEnv) ha).use (n:=9) ?_ rfl ?_ <;> simp [xAX]
   exact RK.envS rfl
  | some m =>
   simp
   refine (xGf (some m) hb).use (n:=9) ?_ rfl ?_ <;> simp [xAX]
   exact RK.envS rfl
 | some l =>
  simp
  cases b with
  | none =>
   simp
   refine (xGf (some l) ha).use (n:=9) ?_ rfl ?_ <;> simp [xAX]
   exact RK.envS rfl
  | some m =>
   have hl:l.length < 2 ^ 20:=by have:=(ha l rfl).1;omega
   have hm:m.length < 2 ^ 20:=by have:=(hb m rfl).1;omega
   simp
   refine (xEi l m.length (ha l rfl) hm).use' (n:=9) ?_ ?_ ?_ <;> simp [xAX]
   have hn:max m.length l.length < 2 ^ 20:=Nat.max_lt.2 ⟨hm,hl⟩
   have hol:=xA1 l m.length
   have hcast:(max (m.length:Int) l.length)=((max m.length l.length:Nat):Int):=by omega
   try simp only [hcast]
   have hJ:(joinS l m).length=max m.length l.length:=by simp [joinS]
   have hget:∀k,k < max m.length l.length→(ownS l m.length)[k]?=some (gS l k):=fun k hk=>by simp [ownS,hk]
   have hjg:∀k,k < max m.length l.length→(joinS l m)[k]?=some (sgJ (gS l k) (gS m k)):=fun k hk=>by simp [joinS,hk]
   generalize max m.length l.length=n at *
   refine W.whileI (fun (a:Nat) F S=>a≤n∧F 3=.ptr 0 0 0∧F 5=.ptr 2 0 0∧F 6=.ptr 3 0 0∧F 7=.ptr 5 0 0∧F 28=.int .i64 n∧F 29=.int .i64 a∧S.obj 0=some (.row 2 [opsS.cells])∧S.obj 2=some (.row 2 [envcS (some m)]) ∧
    S.obj 3=some (.row 2 [[.bool false,.nilsl]])∧S.obj 5=some (.row 2 [[.bool true,.sl 1 4 0 n]])∧∃ o:List Int,o.length=n∧o.take a=(joinS l m).take a∧o.drop a=(ownS l m.length).drop a∧S.obj 4=some (.row 1 (els intc o))) (fun a=>n - a) ?_ 0 _ _ ?_
   ·rintro a F S ⟨ha,h3,h5,h6,h7,h28,h29,s0,s2,s3,s5,o,ho,hot,hod,s4⟩
    by_cases hlt:a < n
    ·have e4:=wrapS a (by omega)
     have hoa:o[a]?=some (gS l a):=by
      have h1:=hget a hlt
      have h2:(o.drop a)[0]?=((ownS l m.length).drop a)[0]?:=by rw [hod]
      simp only [yBB,yBG] at h2
      rw [h2,h1]
     simp [h28,h29,hlt]
     refine Dra.auto [] mix ?_ ?_
     ·kernel_rfl
     simp only [xDj,xBT] at s0 s2
     simp [classes,h3,h5,h6,h7,h28,h29,s0,s2,s5,xAd hlt,s4,hoa,intc]
     refine (xDk (some m) a (SEnv.ok_some (hb m rfl))).b (n:=9) ?_ rfl ?_ <;> simp [xAX]
     refine (xEf (xBK l a) (SEnv.get_ok (some m) a)).b (n:=9) ?_ rfl ?_ <;> simp
     simp [intc,xAd hlt,s4,hoa,h3,h5,h6,h7,h28,h29,e4]
     refine ⟨a + 1,by omega,by omega,by omega,by simpa using s0,by simpa using s2,by simpa using s3,by simpa using s5,o.set a (sgJ (gS l a) (gS m a)),by simp [ho],?_,?_,by rw [← xAg];rfl⟩
     ·rw [xAn (by omega),hot,xAe (hjg a hlt)]
     ·rw [List.drop_set_of_lt (by omega)]
      have h2:(o.drop a).drop 1=((ownS l m.length).drop a).drop 1:=by rw [hod]
      simpa [yAt,Nat.add_comm] using h2
    ·have:a=n:=by omega
     subst this
     have hoR:o=joinS l m:=by rw [yAI (by omega),yAI (by omega)] at hot;exact hot
     subst hoR
     simp [h28,h29,h7,h6,s5,s3]
     exact RK.rowES (by simp [s4]) hJ
   ·simp
    exact ⟨ownS l m.length,by simp [hol],rfl,rfl⟩
theorem xP1 (e:SEnv) (i:Int) {v:Int} (hv:sgOk v) (he:e.ok):Ret P g false 132 [opsS,encES e,.int .i64 i,.int .i64 v] (encES (e.set i v)):=by
 refine Ret.in c132 (by simp) ?_
 simp [k132]
 cases e with
 | none =>
  refine (xH5 0).use (n:=9) ?_ rfl ?_ <;> simp [xAX]
  refine xCD (fun h1=>?_) (fun h1=>?_) <;> simp [h1]
  ·refine xAj (fun h2=>?_) (fun h2=>?_) <;> simp [h2]
   ·omega
   ·exact RK.envS (e:=none) (e':=SEnv.set none i v) rfl
  ·exact RK.envS (e:=none) (e':=SEnv.set none i v) rfl
 | some l =>
  have hl:=(he l rfl).1
  refine (xEi l 0 (he l rfl) (by omega)).use' (n:=9) ?_ ?_ ?_ <;> simp [xAX]
  have hol:=xA1 l 0
  have hse:SEnv.set (some l) i v=some (if 0≤i∧i < (ownS l 0).length then (ownS l 0).set i.toNat v else ownS l 0):=by rw [SEnv.set_some,hol];simp [xAv hv]
  simp only [Nat.zero_max] at hol
  rw [hol] at hse
  have hra:=readAll (e:=intc) hol
  refine xCD (fun h1=>?_) (fun h1=>?_) <;> simp [h1]
  ·refine xAj (fun h2=>?_) (fun h2=>?_) <;> simp [h2]
   ·obtain ⟨k,rfl⟩:∃ k:Nat,i=(k:Int):=⟨i.toNat,by omega⟩
    have hk:k < l.length:=by omega
    obtain ⟨u,hu⟩:∃ u,(ownS l 0)[k]?=some u:=⟨_,xgG (by omega)⟩
    refine Dra.auto [] mix ?_ ?_
    ·kernel_rfl
    simp [classes]
    refine (xGe hv).b (n:=9) ?_ rfl ?_ <;> simp [xAX]
    simp [xAd hk,hu,intc]
    have e3:(els intc (ownS l 0)).set k [.int .i64 v]=els intc ((ownS l 0).set k v):=xAg (e:=intc)
    simp only [e3]
    rw [if_pos (by omega)] at hse
    rw [hse]
    exact RK.rowES (by simp) (by simp [hol])
   ·rw [if_neg (by omega)] at hse
    rw [hse]
    exact RK.rowES (by simp) hol
  ·rw [if_neg (by omega)] at hse
   rw [hse]
   exact RK.rowES (by simp) hol
theorem xH6 (a b:SEnv) (ha:a.ok) (hb:b.ok):Ret P g false 20 [encES a,encES b] (encES (a.join b)):=by
 refine Ret.in c20 (by simp) ?_
 simp [k20]
 refine Dra.auto [] mix ?_ ?_
 ·kernel_rfl
 simp [classes]
 refine xBU.b (n:=9) ?_ rfl ?_ <;> simp
 refine (xKu a b ha hb).b (n:=9) (by simp) (by simp [solids,AV.solid]) ?_
 simp
 exact RK.envS rfl
theorem xAJ (e:SEnv) (i:Int) (he:e.ok):Ret P g false 14 [encES e,.int .i64 i] (.int .i64 (e.get i)):=by
 refine Ret.in c14 (by simp) ?_
 simp [k14]
 refine Dra.auto [] mix ?_ ?_
 ·kernel_rfl
 simp [classes]
 refine xBU.b (n:=9) ?_ rfl ?_ <;> simp
 refine (xDk e i he).b (n:=9) (by simp) rfl ?_
 simp
 exact RK.stab rfl
theorem xJq (e:SEnv) (i:Int) {v:Int} (hv:sgOk v) (he:e.ok):Ret P g false 90 [encES e,.int .i64 i,.int .i64 v] (encES (e.set i v)):=by
 refine Ret.in c90 (by simp) ?_
 simp [k90]
 refine Dra.auto [] mix ?_ ?_
 ·kernel_rfl
 simp [classes]
 refine xBU.b (n:=9) ?_ rfl ?_ <;> simp
 refine (xP1 e i hv he).b (n:=9) (by simp) (by simp [solids,AV.solid]) ?_
 simp
 exact RK.envS rfl
def leqS (l m:List Int) (k:Nat):Prop:=∀j:Nat,j < k→sgLe (gS l (j:Int)) (gS m (j:Int))
noncomputable instance (l m:List Int) (k:Nat):Decidable (leqS l m k):=Classical.propDecidable _
theorem xP2 (n:Int) {v:Int} (hv:sgOk v):Own P g 49 [opsS,.int .i64 n,.int .i64 v] (.agg [.bool true,.sl 1 0 0 (capN n)]) (St.ofL [.row 1 (els intc (List.replicate (capN n) v))]):=by
 have e1:(if 0 < (if 64 < n then 64 else n) then (if 64 < n then 64 else n) else 0)=((capN n:Nat):Int):=by
  unfold capN;split <;> split <;> omega
 have hc:capN n < 2 ^ 30:=by unfold capN;omega
 have hra:=readAll (e:=intc) (l:=List.replicate (capN n) v) (k:=capN n) (by simp)
 refine Own.in [3] c49 (by simp) (by simp) ?_
 simp [k49]
 refine (xGe hv).use (n:=9) ?_ rfl ?_ <;> simp [xAX]
 simp [e1]
 refine (xCt v (capN n) hc).use' (n:=9) ?_ ?_ ?_ <;> simp
 simp [RO]
theorem xEO (n:Int) {v:Int} (hv:sgOk v):Own P g 17 [.int .i64 n,.int .i64 v] (.agg [.bool true,.sl 1 0 0 (capN n)]) (St.ofL [.row 1 (els intc (List.replicate (capN n) v))]):=by
 refine Own.in [1] c17 (by simp) (by simp) ?_
 simp [k17]
 refine xBU.use (n:=9) ?_ rfl ?_ <;> simp
 refine (xP2 n hv).use' (n:=9) ?_ ?_ ?_ <;> simp
 simp [RO]
end Go.Proofs.YtnhfofmhkfdpgaaGreatDoor.Vm
