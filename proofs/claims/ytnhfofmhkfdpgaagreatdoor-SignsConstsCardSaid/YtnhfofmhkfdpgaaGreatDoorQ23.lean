/- A part of the proof: Gv Gw Gx Ga Gz He Hg Hi Ra Rc. -/
import Derived.Test.YtnhfofmhkfdpgaaGreatDoorQ22
set_option linter.unusedVariables false
set_option linter.unusedSimpArgs false
set_option linter.constructorNameAsVariable false
namespace Go.Proofs.YtnhfofmhkfdpgaaGreatDoor.Vm
open Go Go.RowKit
variable {N:Nat} {g:Glob}
theorem xNP {S:St} {H ho x:Nat} {h:List Nat} {K:AV→St→Prop} (hp:Hp S H ho h) (hl:h.length < 2 ^ 20)
  (hk:∀S' h',Hp S' H (S.next + 1) h'→h'.Perm (h ++ [x])→S'.next=S.next + 2→(∀q,q < S.next→q ≠ H→q ≠ ho→S'.obj q=S.obj q)→K (.tuple []) S'):Cal P g 180 [.iface 245 (.ptr H 0 0),.iface 3 (.int .i64 (x:Int))] S K:=by
 refine c180.in (by simp) ?_
 have e1:IntKind.i64.wrap (h.length:Int)=(h.length:Int):=xAa (by omega)
 simp [k180]
 refine xL9 hp (by simp [room];omega) fun S1 a1 a2 a3=>?_
 simp
 refine xHP a2 ?_
 simp [e1]
 refine xRj a2 (by simp) (by simp;omega) fun h' hpm=>?_
 simp
 refine hk _ h' (a2.set hpm.length_eq) hpm (by simp [a1]) fun q h1 h2 h3=>?_
 simp [show ¬ q=S.next + 1 by omega]
 exact a3 q h1 h2 h3
theorem xPz {S:St} {H ho:Nat} {h:List Nat} {K:AV→St→Prop} (hp:Hp S H ho h) (hne:h ≠ []) (hl:h.length < 2 ^ 20)
  (hk:∀S' h' (x:Nat),Hp S' H ho h'→(h' ++ [x]).Perm h→S'.next=S.next→(∀q,q ≠ H→q ≠ ho→S'.obj q=S.obj q)→K (.iface 3 (.int .i64 (x:Int))) S'):Cal P g 182 [.iface 245 (.ptr H 0 0)] S K:=by
 refine c182.in (by simp) ?_
 have hpos:=List.length_pos_iff.2 hne
 have e1:IntKind.i64.wrap ((h.length:Int) - 1)=((h.length - 1:Nat):Int):=by rw [xAa (by omega)];omega
 simp [k182]
 refine xHP hp ?_
 simp [e1]
 refine xC4 hp (a:=0) (b:=h.length - 1) (by omega) (by omega) fun h1 hp1=>?_
 have a1:=hp.set hp1.length_eq
 have l1:=hp1.length_eq
 simp
 refine xNO a1 (n:=h.length - 1) (by omega) (by omega) fun h2 t hp2=>?_
 have a2:=a1.set hp2.length_eq
 have l2:=hp2.length_eq
 simp
 rcases List.eq_nil_or_concat h2 with e | ⟨h3,x,e⟩
 ·subst e;simp at l2;omega
 ·rw [yBP] at e
  subst e
  refine xNN a2 (by simp at l2;omega) ?_
  simp
  refine hk _ h3 x ⟨by simp [hp.ne],by simp,hp.ne,by simpa using hp.lH,by simpa using hp.lo⟩ (hp2.trans hp1) (by simp) fun q k1 k2=>by simp [k1,k2]
def KeysI (es:List (AV × AV)):Prop:=∀p ∈ es,∃ z,p.1=.int .i64 z
theorem KeysI.find {es:List (AV × AV)} (h:KeysI es) (i:Int):∃ r,findV (.int .i64 i) es=some r:=by
 induction es with
 | nil=>exact ⟨none,rfl⟩
 | cons p es ih =>
  obtain ⟨q,u⟩:=p
  obtain ⟨z,hz⟩:=h (q,u) (by simp)
  simp only at hz
  subst hz
  obtain ⟨r,hr⟩:=ih fun p hp=>h p (by simp [hp])
  simp only [findV,keyEq,scalarEq,if_true]
  cases hb:(i == z)
  ·exact ⟨r,hr⟩
  ·exact ⟨some u,rfl⟩
theorem KeysI.put {es:List (AV × AV)} (h:KeysI es) (k:Int) (v:AV):∃ es',putV (.int .i64 k) v es=some es'∧KeysI es'∧∀i,findV (.int .i64 i) es'=if i=k then some (some v) else findV (.int .i64 i) es:=by
 induction es with
 | nil =>
  refine ⟨[(.int .i64 k,v)],rfl,fun p hp=>?_,fun i=>?_⟩
  ·simp at hp;exact ⟨k,by rw [hp]⟩
  ·simp only [findV,keyEq,scalarEq,if_true]
   by_cases hik:i=k
   ·simp [hik]
   ·have:(i == k)=false:=by simpa using hik
    simp [this,hik]
 | cons p es ih =>
  obtain ⟨q,u⟩:=p
  obtain ⟨z,hz⟩:=h (q,u) (by simp)
  simp only at hz
  subst hz
  obtain ⟨es',h1,h2,h3⟩:=ih fun p hp=>h p (by simp [hp])
  simp only [putV,keyEq,scalarEq,if_true]
  by_cases hkz:k=z
  ·subst hkz
   refine ⟨(.int .i64 k,v) :: es,by simp,fun p hp=>?_,fun i=>?_⟩
   ·rcases yAS.1 hp with rfl | hp
    ·exact ⟨k,rfl⟩
    ·exact h p (by simp [hp])
   ·simp only [findV,keyEq,scalarEq,if_true]
    by_cases hik:i=k
    ·simp [hik]
    ·have:(i == k)=false:=by simpa using hik
     simp [this,hik]
  ·have hb:(k == z)=false:=by simpa using hkz
   refine ⟨(.int .i64 z,u) :: es',by simp [hb,h1],fun p hp=>?_,fun i=>?_⟩
   ·rcases yAS.1 hp with rfl | hp
    ·exact ⟨z,rfl⟩
    ·exact h2 p hp
   ·simp only [findV,keyEq,scalarEq,if_true,h3 i]
    by_cases hiz:i=z
    ·have:¬ i=k:=fun e=>hkz (e.symm.trans hiz)
     subst hiz
     simp [this]
    ·have:(i == z)=false:=by simpa using hiz
     simp [this]
def todo (ord h:List Nat) (i:Nat):Prop:=∃ k,k ∈ h∧ord[k]?=some i
structure Wo (n:Nat) (ord:List Nat) (S:St) (W A I H ho:Nat) (ov:AV) (h:List Nat):Prop where
 obj:S.obj W=some (.row 4 [[ov,.map A,.map I,.iface 245 (.ptr H 0 0)]])
 hp:Hp S H ho h
 at':∃ ea,S.obj A=some (.map ea)∧KeysI ea∧∀i,i < n→∃ k:Nat,findV (.int .i64 (i:Int)) ea=some (some (.int .i64 (k:Int)))∧ord[k]?=some i
 in':∃ ei,S.obj I=some (.map ei)∧KeysI ei∧∀i:Nat,i < n→(findV (.int .i64 (i:Int)) ei=some none∧¬ todo ord h i) ∨ ∃ b:Bool,findV (.int .i64 (i:Int)) ei=some (some (.bool b))∧(b=true ↔ todo ord h i)
 ids:A ≠ I∧W ≠ A∧W ≠ I∧W ≠ H∧W ≠ ho∧A ≠ H∧A ≠ ho∧I ≠ H∧I ≠ ho
 lt:W < S.next∧A < S.next∧I < S.next
 orow:(ov=.nilsl∧ord=[]) ∨ ∃ q,ov=.sl 1 q 0 ord.length∧q < S.next∧S.obj q=some (.row 1 (els natc ord))∧q ≠ W∧q ≠ A∧q ≠ I∧q ≠ H∧q ≠ ho
 perm:ord.Perm (List.range n)
 nodup:h.Nodup
 hlt:∀k ∈ h,k < n
theorem xIZ {S:St} {W:Nat} {a b c:AV} {t:Nat} {v:AV} {K:AV→St→Prop} (h:S.obj W=some (.row 4 [[a,b,c,.iface t v]])) (hk:K (.bool true) S):Cal P g 179 [.ptr W 0 0] S K:=by
 refine c179.in (by simp) ?_
 simp [k179,h]
 exact hk
theorem xPA {n:Nat} {ord:List Nat} {S:St} {W A I H ho:Nat} {ov:AV} {h:List Nat} {K:AV→St→Prop} (hw:Wo n ord S W A I H ho ov h) (hk:K (.int .i64 h.length) S):Cal P g 181 [.ptr W 0 0] S K:=by
 refine c181.in (by simp) ?_
 simp [k181]
 refine xIZ hw.obj ?_
 simp [hw.obj]
 refine xHP hw.hp ?_
 simp
 exact hk
theorem Wo.len {n:Nat} {ord:List Nat} {S:St} {W A I H ho:Nat} {ov:AV} {h:List Nat} (hw:Wo n ord S W A I H ho ov h):ord.length=n:=by rw [hw.perm.length_eq];simp
theorem xHQ:∀(n:Nat) (h:List Nat),h.Nodup→(∀k ∈ h,k < n)→h.length≤n
 | 0,h,_,hl=>by
  cases h with
  | nil=>simp
  | cons a h=>exact absurd (hl a (by simp)) (by omega)
 | n + 1,h,hn,hl=>by
  by_cases hm:n ∈ h
  ·have h1:=xHQ n (h.erase n) (hn.erase n) fun k hk=>by
    have h2:=(hn.mem_erase_iff.1 hk)
    have:=hl k h2.2
    have:=h2.1
    omega
   rw [List.length_erase_of_mem hm] at h1
   omega
  ·have h1:=xHQ n h hn fun k hk=>by
    have:=hl k hk
    have:k ≠ n:=fun e=>hm (e ▸ hk)
    omega
   omega
theorem Wo.hl {n:Nat} {ord:List Nat} {S:St} {W A I H ho:Nat} {ov:AV} {h:List Nat} (hw:Wo n ord S W A I H ho ov h):h.length≤n:=xHQ n h hw.nodup hw.hlt
theorem xRk {n:Nat} {ord:List Nat} (hp:ord.Perm (List.range n)) {k l i:Nat} (h1:ord[k]?=some i) (h2:ord[l]?=some i):k=l:=by
 have hn:ord.Nodup:=hp.nodup_iff.2 List.nodup_range
 obtain ⟨a,b⟩:=xgS h1
 obtain ⟨c,d⟩:=xgS h2
 exact (List.getElem_inj hn).1 (b.trans d.symm)
def WoF (S S':St) (I H ho:Nat):Prop:=S.next≤S'.next∧∀q,q < S.next→q ≠ I→q ≠ H→q ≠ ho→S'.obj q=S.obj q
theorem xFl {n i:Nat} {ord:List Nat} {S:St} {W A I H ho:Nat} {ov:AV} {h:List Nat} {K:AV→St→Prop} (hw:Wo n ord S W A I H ho ov h) (hi:i < n) (hn:n≤128)
  (hk:∀S' ho' h' b,Wo n ord S' W A I H ho' ov h'→(∀j,todo ord h' j ↔ todo ord h j ∨ j=i)→WoF S S' I H ho→(ho'=ho ∨ S.next≤ho')→h'.length≤h.length + 1→K (.bool b) S'):Cal P g 121 [.ptr W 0 0,.int .i64 (i:Int)] S K:=by
 have hhl:=hw.hl
 obtain ⟨obj,hp,⟨ea,a1,a2,a3⟩,⟨ei,b1,b2,b3⟩,⟨d1,d2,d3,d4,d5,d6,d7,d8,d9⟩,⟨l1,l2,l3⟩,oo,pm,nd,hlt⟩:=id hw
 refine c121.in (by simp) ?_
 simp [k121]
 refine xIZ obj ?_
 obtain ⟨r,hr⟩:=b2.find (i:Int)
 obtain ⟨k,e1,e2⟩:=a3 i hi
 obtain ⟨ei',g1,g2,g3⟩:=b2.put (i:Int) (.bool true)
 have hkn:k < n:=by
  have:=(xgS e2).1
  rw [hw.len] at this;exact this
 have hcase:(r=some (.bool true)∧todo ord h i) ∨ ((r=none ∨ r=some (.bool false))∧¬ todo ord h i):=by
  rcases b3 i hi with ⟨f1,f2⟩ | ⟨b,f1,f2⟩
  ·rw [hr] at f1;cases f1
   exact .inr ⟨.inl rfl,f2⟩
  ·rw [hr] at f1;cases f1
   cases b
   ·exact .inr ⟨.inr rfl,fun h'=>by cases f2.2 h'⟩
   ·exact .inl ⟨rfl,f2.1 rfl⟩
 rcases hcase with ⟨rfl,f3⟩ | ⟨hr2,f2⟩
 ·simp [obj,b1,hr]
  exact hk S ho h false hw (fun j=>⟨.inl,fun h'=>h'.elim id fun e=>e ▸ f3⟩) ⟨yAC _,fun _ _ _ _ _=>rfl⟩ (.inl rfl) (by omega)
 ·have hk0:k ∉ h:=fun h'=>f2 ⟨k,h',e2⟩
  have hpS:Hp (S.set I (.map ei')) H ho h:=⟨by simp [Ne.symm d8,hp.box],by simp [Ne.symm d9,hp.row],hp.ne,by simpa using hp.lH,by simpa using hp.lo⟩
  rcases hr2 with rfl | rfl <;> simp [obj,b1,hr,a1,e1,g1,d3]
  all_goals
  refine xNP hpS (by omega) fun S' h' k1 k2 k3 k4=>?_
  simp at k1 k3 k4
  have k5:∀q,q < S.next→q ≠ I→q ≠ H→q ≠ ho→S'.obj q=S.obj q:=fun q h1 h2 h3 h4=>by
   have:=k4 q h1 h3 h4
   rwa [if_neg h2] at this
  have hmem:∀j,j ∈ h' ↔ j ∈ h ∨ j=k:=fun j=>by rw [k2.mem_iff];simp
  have htd:∀j,todo ord h' j ↔ todo ord h j ∨ j=i:=by
   intro j
   constructor
   ·rintro ⟨l,h1,h2⟩
    rcases (hmem l).1 h1 with h3 | rfl
    ·exact .inl ⟨l,h3,h2⟩
    ·rw [e2] at h2;cases h2;exact .inr rfl
   ·rintro (⟨l,h1,h2⟩ | rfl)
    ·exact ⟨l,(hmem l).2 (.inl h1),h2⟩
    ·exact ⟨k,(hmem k).2 (.inr rfl),e2⟩
  simp
  refine hk S' (S.next + 1) h' true ⟨?_,k1,⟨ea,?_,a2,a3⟩,⟨ei',?_,g2,?_⟩,⟨d1,d2,d3,d4,by omega,d6,by omega,d8,by omega⟩,⟨by omega,by omega,by omega⟩,?_,pm,?_,?_⟩ htd ⟨by omega,k5⟩ (.inr (by omega)) (by rw [k2.length_eq];simp)
  ·rw [k5 W l1 d3 d4 d5];exact obj
  ·rw [k5 A l2 d1 d6 d7];exact a1
  ·have:=k4 I l3 d8 d9
   rwa [if_pos rfl] at this
  ·intro j hj
   rw [g3]
   by_cases hji:(j:Int)=(i:Int)
   ·rw [if_pos hji]
    exact .inr ⟨true,rfl,by simp only [true_iff];exact (htd j).2 (.inr (by omega))⟩
   ·rw [if_neg hji]
    rcases b3 j hj with ⟨m1,m2⟩ | ⟨b,m1,m2⟩
    ·exact .inl ⟨m1,fun h'=>((htd j).1 h').elim m2 fun e=>hji (by omega)⟩
    ·exact .inr ⟨b,m1,m2.trans ⟨fun h'=>(htd j).2 (.inl h'),fun h'=>((htd j).1 h').elim id fun e=>absurd (by omega) hji⟩⟩
  ·rcases oo with h | ⟨q,rfl,o1,o2,o3,o4,o5,o6,o7⟩
   ·exact .inl h
   ·exact .inr ⟨q,rfl,by omega,by rw [k5 q o1 o5 o6 o7];exact o2,o3,o4,o5,o6,by omega⟩
  ·rw [k2.nodup_iff,yBW]
   exact ⟨nd,by simp,fun x hx y hy e=>by simp at hy;subst hy;subst e;exact hk0 hx⟩
  ·intro x hx
   rcases (hmem x).1 hx with h | rfl
   ·exact hlt x h
   ·exact hkn
theorem xF1 {n:Nat} {ord:List Nat} {S:St} {W A I H ho:Nat} {ov:AV} {h:List Nat} {K:AV→St→Prop} (hw:Wo n ord S W A I H ho ov h) (hn:n≤128)
  (hk0:h=[]→K (.tuple [.int .i64 0,.bool false]) S)
  (hk:∀S' h' i,Wo n ord S' W A I H ho ov h'→i < n→todo ord h i→(∀j,todo ord h' j ↔ todo ord h j∧j ≠ i)→WoF S S' I H ho→h'.length + 1=h.length→K (.tuple [.int .i64 (i:Int),.bool true]) S'):Cal P g 122 [.ptr W 0 0] S K:=by
 have hhl:=hw.hl
 obtain ⟨obj,hp,⟨ea,a1,a2,a3⟩,⟨ei,b1,b2,b3⟩,⟨d1,d2,d3,d4,d5,d6,d7,d8,d9⟩,⟨l1,l2,l3⟩,oo,pm,nd,hlt⟩:=id hw
 refine c122.in (by simp) ?_
 simp [k122]
 refine xPA hw ?_
 by_cases hne:h=[]
 ·subst hne
  simp
  exact hk0 rfl
 ·have hlen:¬ h.length=0:=fun e=>hne (yAm.1 e)
  simp [hne,obj]
  refine xPz hp hne (by omega) fun S' h' k k1 k2 k3 k4=>?_
  have hkh:k ∈ h:=k2.mem_iff.1 (by simp)
  have hkn:=hlt k hkh
  have hol:=hw.len
  obtain ⟨i,hi⟩:∃ i,ord[k]?=some i:=⟨_,xgG (by omega)⟩
  have hin:i < n:=by
   have:=pm.mem_iff.1 (xmG hi)
   exact yAg.1 this
  have hmem:∀j,j ∈ h ↔ j ∈ h' ∨ j=k:=fun j=>by rw [← k2.mem_iff];simp
  have hnd:(h' ++ [k]).Nodup:=k2.nodup_iff.2 nd
  rw [yBW] at hnd
  have hk':k ∉ h':=fun hx=>hnd.2.2 k hx k (by simp) rfl
  have htd:∀j,todo ord h' j ↔ todo ord h j∧j ≠ i:=by
   intro j
   constructor
   ·rintro ⟨l,h1,h2⟩
    refine ⟨⟨l,(hmem l).2 (.inl h1),h2⟩,fun e=>?_⟩
    subst e
    have:=xRk pm h2 hi
    exact hk' (this ▸ h1)
   ·rintro ⟨⟨l,h1,h2⟩,hji⟩
    rcases (hmem l).1 h1 with h3 | rfl
    ·exact ⟨l,h3,h2⟩
    ·rw [hi] at h2;cases h2;exact absurd rfl hji
  rcases oo with ⟨_,h⟩ | ⟨q,rfl,o1,o2,o3,o4,o5,o6,o7⟩
  ·rw [h] at hol;simp at hol;omega
  obtain ⟨ei',g1,g2,g3⟩:=b2.put (i:Int) (.bool false)
  have oW:S'.obj W=_:=(k4 W d4 d5).trans obj
  have oI:S'.obj I=_:=(k4 I d8 d9).trans b1
  have oq:S'.obj q=_:=(k4 q o6 o7).trans o2
  have hko:k < ord.length:=by omega
  simp [xIC,oW,xAd hko,oq,hi,natc,oI,g1]
  refine hk _ h' i ⟨?_,⟨by simp [Ne.symm d8,k1.box],by simp [Ne.symm d9,k1.row],k1.ne,by simpa using k1.lH,by simpa using k1.lo⟩,⟨ea,?_,a2,a3⟩,⟨ei',?_,g2,?_⟩,⟨d1,d2,d3,d4,d5,d6,d7,d8,d9⟩,⟨?_,?_,?_⟩,?_,pm,hnd.1,fun x hx=>hlt x ((hmem x).2 (.inl hx))⟩ hin ⟨k,hkh,hi⟩ htd ⟨by simp [k3],?_⟩ (by rw [← k2.length_eq];simp)
  ·simp [d3,oW]
  ·simp [d1]
   rw [k4 A d6 d7];exact a1
  ·simp
  ·intro j hj
   rw [g3]
   by_cases hji:(j:Int)=(i:Int)
   ·rw [if_pos hji]
    refine .inr ⟨false,rfl,?_⟩
    constructor
    ·intro h;cases h
    ·intro h'
     exact absurd (by omega) ((htd j).1 h').2
   ·rw [if_neg hji]
    have hji':j ≠ i:=fun e=>hji (by omega)
    rcases b3 j hj with ⟨m1,m2⟩ | ⟨b,m1,m2⟩
    ·exact .inl ⟨m1,fun h'=>m2 ((htd j).1 h').1⟩
    ·exact .inr ⟨b,m1,m2.trans ⟨fun h'=>(htd j).2 ⟨h',hji'⟩,fun h'=>((htd j).1 h').1⟩⟩
  ·simp [k3];exact l1
  ·simp [k3];exact l2
  ·simp [k3];exact l3
  ·exact .inr ⟨q,rfl,by simp [k3];exact o1,by simp [o5,oq],o3,o4,o5,o6,o7⟩
  ·intro x hx h1 h2 h3
   simp [h1]
   exact k4 x h2 h3
structure NwI (S:St) (l:List Int) (v w:AV) (j:Nat) (LF:AFrame) (k:Nat) (S':St):Prop where
 next:S'.next=j + 1 + 1 + 1 + 1 + 1 + 1 + 1 + 1
 up:Up S S'
 lp:S'.obj (j + 1 + 1 + 1 + 1 + 1 + 1 + 1)=some (.loop 26 #[17,18] LF (rngA Tryz.f119 0) (rngB Tryz.f119 0) .ready)
 bv:S'.obj (j + 1 + 1 + 1 + 1 + 1 + 1)=some (.row 1 [[v]])
 bx:S'.obj (j + 1 + 1 + 1 + 1 + 1)=some (.row 1 [[.ptr (j + 1 + 1 + 1 + 1) 0 0]])
 bW:S'.obj (j + 1 + 1 + 1 + 1)=some (.row 4 [[w,.map j,.map (j + 1),.iface 245 (.ptr (j + 1 + 1 + 1) 0 0)]])
 bH:S'.obj (j + 1 + 1 + 1)=some (.row 1 [[.sl 1 (j + 1 + 1) 0 0]])
 bo:S'.obj (j + 1 + 1)=some (.row 1 [])
 bI:S'.obj (j + 1)=some (.map [])
 row:(w=.nilsl∧l=[]) ∨ ∃ o,w=.sl 1 o 0 l.length∧o < j∧S'.obj o=some (.row 1 (els intc l))
 bA:∃ ea,S'.obj j=some (.map ea)∧KeysI ea∧∀(m:Nat) (x:Int),l.length - k≤m→l[m]?=some x→∃ m':Nat,findV (.int .i64 x) ea=some (some (.int .i64 (m':Int)))∧l[m']?=some x
theorem xK5 {n:Nat} {ord:List Nat} {v:AV} {S:St} {K:AV→St→Prop} (hv:v=.fsl 1 (els natc ord)) (hp:ord.Perm (List.range n)) (hn:n≤128)
  (hk:∀S' W A I H ho ov,Wo n ord S' W A I H ho ov []→Up S S'→(S.next≤W∧S.next≤A∧S.next≤I∧S.next≤H∧S.next≤ho)→K (.ptr W 0 0) S'):Cal P g 119 [v] S K:=by
 have hol:ord.length=n:=by rw [hp.length_eq];simp
 obtain ⟨l,hl⟩:∃ l:List Int,l=ord.map fun k:Nat=>(k:Int):=⟨_,rfl⟩
 have hll:l.length=n:=by rw [hl];simp [hol]
 have hvl:FSl intc 1 v l:=by rw [hv,xEA,← hl];exact FSl.mk
 refine c119.in (by simp) ?_
 simp [k119]
 refine xCQ hvl (by omega) (Up.refl S) fun w S1 hw=>?_
 obtain ⟨w1,w2,w3⟩:=hw
 have hwo:w.one=true:=by rcases w1 with ⟨rfl,_⟩ | ⟨o,rfl,_⟩ <;> rfl
 simp [xC2 hwo,hwo]
 refine xDt hvl.cells ?_
 simp
 refine W.rangeC (f:=226) (captured:=[.ptr (S1.next + 1 + 1 + 1 + 1 + 1 + 1) 0 0]) (by simp) ?_
 simp
 generalize hLF:(upd (upd (upd (upd (upd (upd (upd (upd (upd (upd (upd (upd (upd (entry [v]) 2 AV.nilptr) 6 v) 7 w) 8 (AV.map S1.next)) 9 (AV.map (S1.next + 1))) 10 (AV.sl 1 (S1.next + 1 + 1) 0 0)) 11 (AV.ptr (S1.next + 1 + 1 + 1) 0 0)) 12 (AV.iface 245 (AV.ptr (S1.next + 1 + 1 + 1) 0 0))) 13 (AV.agg [w,AV.map S1.next,AV.map (S1.next + 1),AV.iface 245 (AV.ptr (S1.next + 1 + 1 + 1) 0 0)])) 14 (AV.ptr (S1.next + 1 + 1 + 1 + 1) 0 0)) 3 (AV.ptr (S1.next + 1 + 1 + 1 + 1 + 1) 0 0)) 15 v) 16 (AV.func (Fn.func 226) [] [AV.ptr (S1.next + 1 + 1 + 1 + 1 + 1 + 1) 0 0]))=LF
 have lf3:LF 3=.ptr (S1.next + 1 + 1 + 1 + 1 + 1) 0 0:=by rw [← hLF];simp
 have hw1:(w=.nilsl∧l=[]) ∨ ∃ o,w=.sl 1 o 0 l.length∧S.next≤o∧o < S1.next∧S1.obj o=some (.row 1 (els intc l)):=by
  rcases w1 with h | ⟨o,rfl,h1,h2⟩
  ·exact .inl h
  ·exact .inr ⟨o,rfl,w3 o _ rfl,h1,h2⟩
 have hup:=w2.1
 have hup2:=w2.2
 refine xE9 hvl (by omega) (NwI S l v w S1.next LF) ?_ ?_ ?_ ?_
 ·refine ⟨by simp,⟨by simp;omega,fun q hq=>?_⟩,by simp,by simp,by simp,by simp,by simp,by simp,by simp,?_,[],by simp [show ¬ S1.next=S1.next + 1 + 1 + 1 + 1 + 1 + 1 + 1 by omega,show ¬ S1.next=S1.next + 1 + 1 + 1 + 1 + 1 + 1 by omega,show ¬ S1.next=S1.next + 1 + 1 + 1 + 1 + 1 by omega,show ¬ S1.next=S1.next + 1 + 1 + 1 + 1 by omega,show ¬ S1.next=S1.next + 1 + 1 + 1 by omega,show ¬ S1.next=S1.next + 1 + 1 by omega],fun p hp=>by simp at hp,fun m x h1 h2=>?_⟩
  ·simp [show ¬ q=S1.next + 1 + 1 + 1 + 1 + 1 + 1 + 1 by omega,show ¬ q=S1.next + 1 + 1 + 1 + 1 + 1 + 1 by omega,show ¬ q=S1.next + 1 + 1 + 1 + 1 + 1 by omega,show ¬ q=S1.next + 1 + 1 + 1 + 1 by omega,show ¬ q=S1.next + 1 + 1 + 1 by omega,show ¬ q=S1.next + 1 + 1 by omega,show ¬ q=S1.next + 1 by omega,show ¬ q=S1.next by omega]
   exact hup2 q hq
  ·rcases hw1 with h | ⟨o,rfl,h0,h1,h2⟩
   ·exact .inl h
   ·refine .inr ⟨o,rfl,h1,?_⟩
    simp [show ¬ o=S1.next + 1 + 1 + 1 + 1 + 1 + 1 + 1 by omega,show ¬ o=S1.next + 1 + 1 + 1 + 1 + 1 + 1 by omega,show ¬ o=S1.next + 1 + 1 + 1 + 1 + 1 by omega,show ¬ o=S1.next + 1 + 1 + 1 + 1 by omega,show ¬ o=S1.next + 1 + 1 + 1 by omega,show ¬ o=S1.next + 1 + 1 by omega,show ¬ o=S1.next + 1 by omega,show ¬ o=S1.next by omega]
    exact h2
  ·have:=(xgS h2).1
   omega
 ·intro k S' h
  exact h.bv
 ·rintro k x S' hkl hx ⟨b1,b2,b3,b4,b5,b6,b7,b8,b9,b10,ea,b11,b12,b13⟩ K' hK'
  obtain ⟨ea',g1,g2,g3⟩:=b12.put x (.int .i64 ((l.length - 1 - k:Nat):Int))
  simp
  refine Yie.in b3 (by simp) (by simp) c119A0 c119B0 ?_
  have n5:¬ S1.next + 1 + 1 + 1 + 1 + 1=S1.next + 1 + 1 + 1 + 1 + 1 + 1 + 1:=by omega
  have n4:¬ S1.next + 1 + 1 + 1 + 1=S1.next + 1 + 1 + 1 + 1 + 1 + 1 + 1:=by omega
  have n0:¬ S1.next=S1.next + 1 + 1 + 1 + 1 + 1 + 1 + 1:=by omega
  simp [k119A0,k119B0,puts,lf3,b3,b5,b6,b11,n5,n4,n0,Ne.symm n0,g1]
  refine hK' _ ⟨by simp [b1],⟨by simp;exact b2.1,fun q hq=>?_⟩,by simp,?_,?_,?_,?_,?_,?_,?_,ea',by simp [n0],g2,fun m y h1 h2=>?_⟩
  ·simp [show ¬ q=S1.next + 1 + 1 + 1 + 1 + 1 + 1 + 1 by omega,show ¬ q=S1.next by omega]
   exact b2.2 q hq
  ·simp [show ¬ S1.next + 1 + 1 + 1 + 1 + 1 + 1=S1.next by omega,b4]
  ·simp [show ¬ S1.next + 1 + 1 + 1 + 1 + 1=S1.next by omega,n5,b5]
  ·simp [show ¬ S1.next + 1 + 1 + 1 + 1=S1.next by omega,n4,b6]
  ·simp [show ¬ S1.next + 1 + 1 + 1=S1.next by omega,show ¬ S1.next + 1 + 1 + 1=S1.next + 1 + 1 + 1 + 1 + 1 + 1 + 1 by omega,b7]
  ·simp [show ¬ S1.next + 1 + 1=S1.next by omega,show ¬ S1.next + 1 + 1=S1.next + 1 + 1 + 1 + 1 + 1 + 1 + 1 by omega,b8]
  ·simp [show ¬ S1.next + 1=S1.next + 1 + 1 + 1 + 1 + 1 + 1 + 1 by omega,b9]
  ·rcases b10 with h | ⟨o,rfl,h1,h2⟩
   ·exact .inl h
   ·exact .inr ⟨o,rfl,h1,by simp [show ¬ o=S1.next by omega,show ¬ o=S1.next + 1 + 1 + 1 + 1 + 1 + 1 + 1 by omega,h2]⟩
  ·rw [g3]
   by_cases hyx:y=x
   ·rw [if_pos hyx]
    exact ⟨l.length - 1 - k,rfl,by rw [hyx];exact hx⟩
   ·rw [if_neg hyx]
    refine b13 m y ?_ h2
    by_cases hm:m=l.length - 1 - k
    ·rw [hm,hx] at h2;cases h2;exact absurd rfl hyx
    ·omega
 ·rintro S' ⟨b1,b2,b3,b4,b5,b6,b7,b8,b9,b10,ea,b11,b12,b13⟩
  refine ⟨b3,?_⟩
  simp [b5]
  have hnt:∀j,¬ todo ord [] j:=fun j ⟨k,h,_⟩=>by simp at h
  refine hk (S'.drop (S1.next + 1 + 1 + 1 + 1 + 1 + 1 + 1)) (S1.next + 1 + 1 + 1 + 1) S1.next (S1.next + 1) (S1.next + 1 + 1 + 1) (S1.next + 1 + 1) w ⟨?_,⟨?_,?_,by omega,?_,?_⟩,⟨ea,?_,b12,fun i hi=>?_⟩,⟨[],?_,fun p hp=>by simp at hp,fun i hi=>.inl ⟨rfl,hnt i⟩⟩,⟨by omega,by omega,by omega,by omega,by omega,by omega,by omega,by omega,by omega⟩,⟨?_,?_,?_⟩,?_,hp,by simp,by simp⟩ ⟨?_,fun q hq=>?_⟩ ⟨by omega,by omega,by omega,by omega,by omega⟩
  ·simp [b6]
  ·simp [b7]
  ·simp [b8,els]
  ·simp [b1]
  ·simp [b1]
  ·simp [b11];omega
  ·have hip:i ∈ ord:=hp.mem_iff.2 (yAg.2 hi)
   obtain ⟨m,hm,hme⟩:=yAx.1 hip
   have hlm:l[m]?=some (i:Int):=by rw [hl,yAN,xgG hm,hme];rfl
   obtain ⟨m',h1,h2⟩:=b13 m _ (by omega) hlm
   refine ⟨m',h1,?_⟩
   rw [hl,yAN] at h2
   cases ho:ord[m']? with
   | none=>rw [ho] at h2;cases h2
   | some z =>
    rw [ho] at h2
    simp at h2
    have:z=i:=by omega
    rw [this]
  ·simp [b9]
  ·simp [b1]
  ·simp [b1];omega
  ·simp [b1]
  ·rcases b10 with ⟨h1,h2⟩ | ⟨o,rfl,h1,h2⟩
   ·left
    rw [h2] at hll
    exact ⟨h1,yAm.1 (by rw [hol];simpa using hll.symm)⟩
   ·refine .inr ⟨o,by rw [hll,hol],by simp [b1];omega,?_,by omega,by omega,by omega,by omega,by omega⟩
    simp [show ¬ o=S1.next + 1 + 1 + 1 + 1 + 1 + 1 + 1 by omega]
    rw [h2,xEA,← hl]
  ·simp;exact b2.1
  ·simp [show ¬ q=S1.next + 1 + 1 + 1 + 1 + 1 + 1 + 1 by omega]
   exact b2.2 q hq
theorem Has.up {α:Type} {e:α→List AV} {sz:Nat} {S S':St} {v:AV} {l:List α} (h:Has e sz S v l) (hb:Bel S v) (hu:Up S S'):Has e sz S' v l:=h.keep fun q ⟨c,e⟩=>hu.2 q (hb _ _ _ e)
theorem Wo.keep2 {n:Nat} {ord:List Nat} {S S':St} {W A I H ho:Nat} {ov:AV} {h:List Nat} {o:Nat} {es:List (List AV)} (hw:Wo n ord S W A I H ho ov h) (hob:S.obj o=some (.row 2 es)) (hn:S.next≤S'.next) (hq:∀q,q < S.next→q ≠ o→S'.obj q=S.obj q):Wo n ord S' W A I H ho ov h:=by
 obtain ⟨obj,hp,⟨ea,a1,a2,a3⟩,⟨ei,b1,b2,b3⟩,ids,⟨l1,l2,l3⟩,oo,pm,nd,hlt⟩:=hw
 have nW:W ≠ o:=fun e=>by rw [e,hob] at obj;cases obj
 have nA:A ≠ o:=fun e=>by rw [e,hob] at a1;cases a1
 have nI:I ≠ o:=fun e=>by rw [e,hob] at b1;cases b1
 have nH:H ≠ o:=fun e=>by have:=hp.box;rw [e,hob] at this;cases this
 have nh:ho ≠ o:=fun e=>by have:=hp.row;rw [e,hob] at this;cases this
 refine ⟨by rw [hq W l1 nW];exact obj,⟨by rw [hq H hp.lH nH];exact hp.box,by rw [hq ho hp.lo nh];exact hp.row,hp.ne,by have:=hp.lH;omega,by have:=hp.lo;omega⟩,⟨ea,by rw [hq A l2 nA];exact a1,a2,a3⟩,⟨ei,by rw [hq I l3 nI];exact b1,b2,b3⟩,ids,⟨by omega,by omega,by omega⟩,?_,pm,nd,hlt⟩
 rcases oo with h | ⟨q,rfl,o1,o2,o3⟩
 ·exact .inl h
 ·have nq:q ≠ o:=fun e=>by rw [e,hob] at o2;cases o2
  exact .inr ⟨q,rfl,by omega,by rw [hq q o1 nq];exact o2,o3⟩
structure FunOK (p:Prg) (f:Fun):Prop where
 vars:f.varsOK
 blks:f.blksOK
 msg:∀b ∈ f.blks,p.blkMsg f b=[]
theorem xJ9 {p:Prg} {i:Int} {f:Fun} (h:p.fn i=some f):p.sane=true∧0≤i∧p.funs[i.toNat]?=some f:=by
 unfold Prg.fn at h
 split at h
 ·rename_i hh;exact ⟨hh.2,hh.1,h⟩
 ·cases h
theorem xFb {p:Prg} {f:Fun}:∀{l:List Blk},firstMsg p f l=[]→∀b ∈ l,p.blkMsg f b=[]
 | [],_,b,hb=>by cases hb
 | c :: l,h,b,hb=>by
  rw [firstMsg] at h
  split at h
  ·rename_i hc
   rcases yAS.1 hb with rfl | hb
   ·exact hc
   ·exact xFb h b hb
  ·rename_i hc;exact absurd h hc
theorem sane_ok {p:Prg} (hs:p.sane=true) {f:Fun} (hf:f ∈ p.funs):FunOK p f:=by
 have h:=(Prg.sane_iff.1 hs).2.1 f hf
 unfold Prg.funMsg at h
 split at h
 ·cases h
 ·rename_i h1
  split at h
  ·cases h
  ·rename_i h2
   exact ⟨Decidable.not_not.1 h1,Decidable.not_not.1 h2,xFb h⟩
theorem xRn {p:Prg} {i:Int} {f:Fun} (h:p.fn i=some f):FunOK p f:=by
 obtain ⟨h1,_,h2⟩:=xJ9 h
 exact sane_ok h1 (xmG h2)
theorem FunOK.len {p:Prg} {f:Fun} (h:FunOK p f):0 < f.blks.length∧f.blks.length≤12:=⟨by have:=h.blks.1;omega,h.blks.2.1⟩
theorem FunOK.blk {p:Prg} {f:Fun} (h:FunOK p f) {b:Blk} (hb:b ∈ f.blks):(b.on=false→b.ins=[]∧b.out=[])∧rises b.out=true∧(∀j ∈ b.out,f.live j=true)∧b.ins.length≤16∧∀x ∈ b.ins,p.insOK f x=true:=by
 have hm:=h.msg b hb
 unfold Prg.blkMsg at hm
 split at hm
 ·cases hm
 ·rename_i h1
  split at hm
  ·cases hm
  ·rename_i h2
   split at hm
   ·cases hm
   ·rename_i h3
    refine ⟨fun ho=>?_,?_,fun j hj=>?_,by omega,fun x hx=>?_⟩
    ·have:¬ 0 < b.ins.length + b.out.length:=fun h=>h1 ⟨ho,h⟩
     exact ⟨yAm.1 (by omega),yAm.1 (by omega)⟩
    ·cases hr:rises b.out
     ·exact absurd (.inl hr) h2
     ·rfl
    ·cases hl:f.live j
     ·exact absurd (.inr (yBL.2 ⟨j,hj,by simp [hl]⟩)) h2
     ·rfl
    ·cases hl:p.insOK f x
     ·exact absurd (.inr (yBL.2 ⟨x,hx,by simp [hl]⟩)) h3
     ·rfl
theorem xCG {f:Fun} {j:Int} (h:f.live j=true):0≤j∧j < f.blks.length∧∃ b,f.blks[j.toNat]?=some b∧b.on=true:=by
 simp only [Fun.live,yAJ,decide_eq_true_eq] at h
 obtain ⟨h0,h1⟩:=h
 cases hb:f.blks[j.toNat]? with
 | none=>rw [hb] at h1;cases h1
 | some b =>
  rw [hb] at h1
  have:=(xgS hb).1
  exact ⟨h0,by omega,b,rfl,h1⟩
theorem xKa {α:Type} {e:α→List AV} {sz:Nat} {v:AV} {l:List α} (h:FSl e sz v l):v.one=true:=by
 rcases h with rfl | ⟨rfl,_⟩ <;> rfl
theorem xDg {p:Prg} {f:Fun} {i:Ins} (h1:i.ok=true) (h2:∀x ∈ i.uses,x < f.vars) (h3:i.def < f.vars) (h4:i.kind ≠ 7):p.insOK f i=true:=by
 have hv:(i.vars.any fun x=>decide (f.vars≤x))=false:=by
  rw [List.any_eq_false]
  intro x hx
  rw [xFj] at hx
  rcases hx with hx | ⟨_,rfl⟩
  ·have:=h2 x hx;simp;omega
  ·simp;omega
 simp [Prg.insOK,h1,hv,h4]
theorem xK8:∀(l out:List Int) (x:Int),x ∈ l.foldl addOnce out→x ∈ out ∨ x ∈ l
 | [],out,x,h=>.inl h
 | y :: l,out,x,h=>by
  rcases xK8 l (addOnce out y) x h with h | h
  ·unfold addOnce at h
   split at h
   ·exact .inl h
   ·rcases yAQ.1 h with h | h
    ·exact .inl h
    ·exact .inr (by simp at h;simp [h])
  ·exact .inr (by simp [h])
theorem xTW {i:Ins} {x:Int} (h:x ∈ i.uses):0≤x:=by
 unfold Ins.uses at h
 split at h
 ·rename_i hok
  have hp:i.okP:=by simpa [Ins.ok] using hok
  rcases xK8 i.all [] x h with h | h
  ·cases h
  ·obtain ⟨_,_,_,_,_,_,_,_,ha,hb,_,h0,h1,h2,_⟩:=hp
   unfold Ins.all at h
   rcases yAQ.1 h with h | h
   ·rcases yAQ.1 h with h | h
    ·split at h
     ·simp at h;omega
     ·cases h
    ·split at h
     ·simp at h;omega
     ·cases h
   ·have:=yAT h
    simp at this
    omega
 ·cases h
theorem xHT {p:Prg} {f:Fun} {i:Ins} (h:p.insOK f i=true):(∀x ∈ i.uses,0≤x∧x < f.vars)∧(i.def=-1 ∨ (0≤i.def∧i.def < f.vars)):=by
 simp only [Prg.insOK,yAJ,Bool.not_eq_true',List.any_eq_false,decide_eq_true_eq] at h
 obtain ⟨⟨h1,h2⟩,_⟩:=h
 refine ⟨fun x hx=>⟨xTW hx,?_⟩,?_⟩
 ·have:=h2 x ((xFj i x).2 (.inl hx))
  omega
 ·by_cases hd:i.def=-1
  ·exact .inl hd
  ·refine .inr ⟨?_,?_⟩
   ·have hp:i.okP:=by simpa [Ins.ok] using h1
    have:=hp.2.2.2.2.2.2.2.1
    unfold Ins.def at hd ⊢
    split
    ·exact this
    ·rename_i hh;rw [if_neg hh] at hd;exact absurd rfl hd
   ·have:=h2 i.def ((xFj i i.def).2 (.inr ⟨hd,rfl⟩))
    omega
end Go.Proofs.YtnhfofmhkfdpgaaGreatDoor.Vm
namespace Go.Proofs.YtnhfofmhkfdpgaaGreatDoor.Vm
open Go Go.RowKit
structure Sys (α:Type) where
 n:Nat
 ev:List α→Nat→α
 rd:Nat→List Int
 ok:α→Prop
 le:α→α→Prop
 bot:α
 ht:α→Nat
 top:Nat
 refl:∀a,ok a→le a a
 trans:∀a b c,ok a→ok b→ok c→le a b→le b c→le a c
 anti:∀a b,ok a→ok b→le a b→le b a→a=b
 botOk:ok bot
 botLe:∀a,ok a→le bot a
 htop:∀a,ok a→ht a≤top
 hlt:∀a b,ok a→ok b→le a b→a ≠ b→ht a < ht b
 evOk:∀x i,x.length=n→(∀a ∈ x,ok a)→i < n→ok (ev x i)
 mono:∀x y i,x.length=n→y.length=n→(∀a ∈ x,ok a)→(∀a ∈ y,ok a)→(∀(k:Nat) a b,x[k]?=some a→y[k]?=some b→le a b)→i < n→le (ev x i) (ev y i)
 dep:∀x i (k:Nat) a,(∀j ∈ rd i,j.toNat ≠ k)→ev (x.set k a) i=ev x i
 nn:∀i,∀j ∈ rd i,0≤j
variable {α:Type} (Y:Sys α)
structure Sys.Fit (x:List α):Prop where
 len:x.length=Y.n
 ok:∀a ∈ x,Y.ok a
def Sys.Post (y:List α):Prop:=Y.Fit y∧∀(i:Nat) a,y[i]?=some a→Y.le (Y.ev y i) a
structure Sys.Mid (x:List α) (T:Nat→Prop):Prop where
 fit:Y.Fit x
 low:∀y,Y.Post y→∀(i:Nat) a b,x[i]?=some a→y[i]?=some b→Y.le a b
 pre:∀(i:Nat) a,x[i]?=some a→Y.le a (Y.ev x i)
 fix:∀(i:Nat) a,x[i]?=some a→¬ T i→a=Y.ev x i
variable {Y}
theorem Sys.Fit.at {x:List α} (h:Y.Fit x) {i:Nat} (hi:i < Y.n):∃ a,x[i]?=some a∧Y.ok a:=by
 have hl:i < x.length:=by rw [h.len];exact hi
 exact ⟨x[i],xgG hl,h.ok _ (yAi _)⟩
theorem Sys.Fit.lt {x:List α} (h:Y.Fit x) {i:Nat} {a:α} (ha:x[i]?=some a):i < Y.n∧Y.ok a:=⟨by rw [← h.len];exact (xgS ha).1,h.ok a (xmG ha)⟩
theorem Sys.Fit.ev {x:List α} (h:Y.Fit x) {i:Nat} (hi:i < Y.n):Y.ok (Y.ev x i):=Y.evOk x i h.len h.ok hi
theorem Sys.Fit.set {x:List α} (h:Y.Fit x) {i:Nat} {a:α} (ha:Y.ok a):Y.Fit (x.set i a):=by
 refine ⟨by simp [h.len],fun b hb=>?_⟩
 rcases yAP hb with h1 | h1
 ·exact h.ok b h1
 ·rw [h1];exact ha
theorem Sys.Mid.start:Y.Mid (List.replicate Y.n Y.bot) (fun i=>i < Y.n):=by
 have hm:∀(i:Nat) a,(List.replicate Y.n Y.bot)[i]?=some a→a=Y.bot:=fun i a h=>by
  have:=xmG h
  rw [yAc] at this
  exact this.2
 have hf:Y.Fit (List.replicate Y.n Y.bot):=⟨by simp,fun a ha=>by rw [yAc] at ha;rw [ha.2];exact Y.botOk⟩
 refine ⟨hf,fun y hy i a b ha hb=>?_,fun i a ha=>?_,fun i a ha hT=>?_⟩
 ·rw [hm i a ha];exact Y.botLe b (hy.1.ok b (xmG hb))
 ·rw [hm i a ha];exact Y.botLe _ (hf.ev (hf.lt ha).1)
 ·exact absurd (hf.lt ha).1 hT
theorem set_same {α:Type} {x:List α} {i:Nat} {a:α} (h:x[i]?=some a):x.set i a=x:=by
 obtain ⟨hlt,h⟩:=xgS h
 rw [← h];exact List.set_getElem_self hlt
theorem Sys.Mid.step {x:List α} {T T':Nat→Prop} (h:Y.Mid x T) {i:Nat} {s:α} (hs:x[i]?=some s)
  (hT:∀k,¬ T' k→k=i ∨ ¬ T k) (hr:s ≠ Y.ev x i→∀k,k < Y.n→(i:Int) ∈ Y.rd k→T' k):Y.Mid (x.set i (Y.ev x i)) T':=by
 have hi:=(h.fit.lt hs).1
 have hok:=h.fit.ev hi
 have hil:i < x.length:=by rw [h.fit.len];exact hi
 have hf':=h.fit.set (i:=i) hok
 have hge:∀(k:Nat) a b,x[k]?=some a→(x.set i (Y.ev x i))[k]?=some b→Y.le a b:=fun k a b ha hb=>by
  by_cases hk:k=i
  ·subst hk
   rw [yAF hil] at hb
   cases hb
   exact h.pre k a ha
  ·rw [yAH (Ne.symm hk)] at hb
   rw [ha] at hb;cases hb
   exact Y.refl a (h.fit.lt ha).2
 have hup:∀k,k < Y.n→Y.le (Y.ev x k) (Y.ev (x.set i (Y.ev x i)) k):=fun k hk=>Y.mono _ _ k h.fit.len hf'.len h.fit.ok hf'.ok hge hk
 refine ⟨hf',fun y hy k a b ha hb=>?_,fun k a ha=>?_,fun k a ha hnT=>?_⟩
 ·by_cases hk:k=i
  ·subst hk
   rw [yAF hil] at ha
   cases ha
   have h1:=Y.mono x y k h.fit.len hy.1.len h.fit.ok hy.1.ok (fun j a b ha hb=>h.low y hy j a b ha hb) hi
   exact Y.trans _ _ _ hok (hy.1.ev hi) (hy.1.lt hb).2 h1 (hy.2 k b hb)
  ·rw [yAH (Ne.symm hk)] at ha
   exact h.low y hy k a b ha hb
 ·by_cases hk:k=i
  ·subst hk
   rw [yAF hil] at ha
   cases ha
   exact hup k hi
  ·rw [yAH (Ne.symm hk)] at ha
   have h1:=h.fit.lt ha
   exact Y.trans _ _ _ h1.2 (h.fit.ev h1.1) (hf'.ev h1.1) (h.pre k a ha) (hup k h1.1)
 ·by_cases he:s=Y.ev x i
  ·rw [← he,set_same hs] at ha ⊢
   by_cases hk:k=i
   ·subst hk
    rw [hs] at ha;cases ha
    exact he
   ·exact h.fix k a ha ((hT k hnT).resolve_left hk)
  ·have hkn:=(hf'.lt ha).1
   have hno:∀j ∈ Y.rd k,j.toNat ≠ i:=by
    intro j hj e
    have:=Y.nn k j hj
    exact hnT (hr he k hkn (by rw [← e,Int.toNat_of_nonneg this];exact hj))
   rw [Y.dep x k i _ hno]
   by_cases hk:k=i
   ·subst hk
    rw [yAF hil] at ha
    cases ha;rfl
   ·rw [yAH (Ne.symm hk)] at ha
    exact h.fix k a ha ((hT k hnT).resolve_left hk)
structure Sys.Least (Y:Sys α) (x:List α):Prop where
 fit:Y.Fit x
 fix:∀(i:Nat) a,x[i]?=some a→a=Y.ev x i
 low:∀y,Y.Post y→∀(i:Nat) a b,x[i]?=some a→y[i]?=some b→Y.le a b
theorem Sys.Mid.done {x:List α} {T:Nat→Prop} (h:Y.Mid x T) (hT:∀k,¬ T k):Y.Least x:=⟨h.fit,fun i a ha=>h.fix i a ha (hT i),h.low⟩
theorem Sys.Least.post {x:List α} (h:Y.Least x):Y.Post x:=⟨h.fit,fun i a ha=>by
 have:=h.fix i a ha
 rw [← this]
 exact Y.refl a (h.fit.lt ha).2⟩
theorem Sys.Least.eq {x y:List α} (h:Y.Least x) (h':Y.Least y):x=y:=by
 apply yAY
 intro i
 by_cases hi:i < Y.n
 ·obtain ⟨a,ha,ka⟩:=h.fit.at hi
  obtain ⟨b,hb,kb⟩:=h'.fit.at hi
  rw [ha,hb,Y.anti a b ka kb (h.low y h'.post i a b ha hb) (h'.low x h.post i b a hb ha)]
 ·rw [yAG (by rw [h.fit.len];omega),yAG (by rw [h'.fit.len];omega)]
noncomputable def Sys.sol (Y:Sys α):List α:=open Classical in if h:∃ x,Y.Least x then h.choose else []
theorem Sys.Least.sol {x:List α} (h:Y.Least x):x=Y.sol:=by
 unfold Sys.sol
 rw [dif_pos ⟨x,h⟩]
 exact h.eq (Exists.choose_spec (⟨x,h⟩:∃ x,Y.Least x))
def Sys.gap (Y:Sys α) (x:List α):Nat:=(x.map fun a=>Y.top - Y.ht a).sum
theorem Sys.gap_set {x:List α} (hx:∀a ∈ x,Y.ok a) {i:Nat} {s t:α} (hs:x[i]?=some s) (ht:Y.ok t) (hle:Y.le s t) (hne:s ≠ t):Y.gap (x.set i t) < Y.gap x:=by
 have hso:=hx s (xmG hs)
 have h1:=Y.hlt s t hso ht hle hne
 have h2:=Y.htop t ht
 unfold Sys.gap
 clear hx
 induction x generalizing i with
 | nil=>simp at hs
 | cons a x ih =>
  cases i with
  | zero =>
   simp at hs;subst hs
   simp only [List.set_cons_zero,yAu,List.sum_cons]
   omega
  | succ i =>
   simp only [List.set_cons_succ,yAu,List.sum_cons]
   have:=ih (by simpa using hs)
   omega
theorem Sys.Mid.ends:∀(m:Nat) {x:List α},Y.Mid x (fun _=>True)→Y.gap x≤m→∃ x,Y.Least x:=by
 intro m
 induction m with
 | zero =>
  intro x h hm
  by_cases hall:∀(i:Nat) a,x[i]?=some a→a=Y.ev x i
  ·exact ⟨x,h.fit,hall,h.low⟩
  ·have:∃ (i:Nat) (a:α),x[i]?=some a∧a ≠ Y.ev x i:=Classical.byContradiction fun hno=>hall fun i a ha=>Classical.byContradiction fun hne=>hno ⟨i,a,ha,hne⟩
   obtain ⟨i,a,ha,hne⟩:=this
   have:=Y.gap_set h.fit.ok ha (h.fit.ev (h.fit.lt ha).1) (h.pre i a ha) hne
   omega
 | succ m ih =>
  intro x h hm
  by_cases hall:∀(i:Nat) a,x[i]?=some a→a=Y.ev x i
  ·exact ⟨x,h.fit,hall,h.low⟩
  ·have:∃ (i:Nat) (a:α),x[i]?=some a∧a ≠ Y.ev x i:=Classical.byContradiction fun hno=>hall fun i a ha=>Classical.byContradiction fun hne=>hno ⟨i,a,ha,hne⟩
   obtain ⟨i,a,ha,hne⟩:=this
   have:=Y.gap_set h.fit.ok ha (h.fit.ev (h.fit.lt ha).1) (h.pre i a ha) hne
   exact ih (h.step (T':=fun _=>True) ha (fun k hk=>absurd trivial hk) fun _ _ _ _=>trivial) (by omega)
theorem Sys.least (Y:Sys α):Y.Least Y.sol:=by
 obtain ⟨x,hx⟩:=Sys.Mid.ends (Y.gap (List.replicate Y.n Y.bot)) (Y:=Y) (x:=List.replicate Y.n Y.bot) (by
  have:=Sys.Mid.start (Y:=Y)
  exact ⟨this.fit,this.low,this.pre,fun i a ha h=>absurd trivial h⟩) (yAC _)
 rw [← hx.sol];exact hx
end Go.Proofs.YtnhfofmhkfdpgaaGreatDoor.Vm
namespace Go.Proofs.YtnhfofmhkfdpgaaGreatDoor.Vm
open Go Go.RowKit
variable {N:Nat} {g:Glob}
abbrev Env:=Option (List Val)
@[simp] def valc (v:Val):List AV:=[.int .i64 v.k,.int .i64 v.c]
instance:PlainE valc:=⟨fun x=>by simp [valc,AV.stab]⟩
def envc:Env→List AV
 | none=>[.bool false,.nilsl]
 | some l=>[.bool true,.fsl 2 (els valc l)]
@[simp] theorem xTX:envc none=[.bool false,.nilsl]:=_root_.id rfl
@[simp] theorem xI0 {l:List Val}:envc (some l)=[.bool true,.fsl 2 (els valc l)]:=_root_.id rfl
@[simp] def encE (e:Env):AV:=.agg (envc e)
def opsV:AV:=.agg [.func (.func 140) [] [],.func (.func 141) [] []]
theorem xB3:AV.agg [.func (.func 140) [] [],.func (.func 141) [] []]=opsV:=rfl
theorem xA4 {α:Type} {e:α→List AV} [PlainE e] {S:St} {o sz k n:Nat} {l:List α} (h:S.obj o=some (.row sz (els e l))) (hk:l.length=k):pict S [] (n + 2) (.sl sz o 0 k)=some (.fsl sz (els e l)):=by
 subst hk
 rw [xEu,xCE h (by simp)]
 simp [xAs]
def Val.zero:Val:=⟨0,0⟩
theorem Val.sane_ok (v:Val):v.sane.ok=true:=by
 unfold Val.sane
 split
 ·assumption
 ·rfl
theorem Val.sane_of {v:Val} (h:v.ok=true):v.sane=v:=by unfold Val.sane;rw [if_pos h]
theorem Val.ok_bot {v:Val} (h:v.ok=true) (hk:v.k=0):v=Val.zero:=by
 obtain ⟨k,c⟩:=v
 simp only at hk
 subst hk
 simp [Val.ok] at h
 simp [Val.zero,h]
theorem Val.join_zero (v:Val):v.join ⟨0,0⟩=v.sane:=by
 have hz:Val.sane ⟨0,0⟩=⟨0,0⟩:=rfl
 unfold Val.join
 rw [hz]
 split
 ·rename_i h
  rcases h with h | h
  ·exact (Val.ok_bot v.sane_ok h).symm
  ·exact h.symm
 ·rfl
theorem xD9:Ret P g false 98 [] opsV:=by
 refine Ret.in c98 (by simp) ?_
 simp [k98]
 exact ⟨9,by simp [opsV,xB1,mapOpt]⟩
theorem xHU (v:Val):Ret P g false 142 [opsV,encV v] (encV v.sane):=by
 refine Ret.in c142 (by simp) ?_
 simp [k142,opsV]
 refine (xFQ v ⟨0,0⟩).use (n:=9) ?_ rfl ?_ <;> simp
 exact RK.aggEq (by rw [Val.join_zero]) (by simp [AV.stab])
def getL (l:List Val) (i:Int):Val:=if 0≤i∧i < l.length then (l.getD i.toNat Val.zero).sane else Val.zero
def Env.get (e:Env) (i:Int):Val:=match e with
 | none=>Val.zero
 | some l=>getL l i
@[simp] theorem xTY {S:St} {n:Nat}:pict S [] (n + 3) opsV=some opsV:=by simp [opsV,xB1]
@[simp] theorem xSo:opsV.solid=true:=by simp [opsV]
@[simp] theorem xG0:opsV.cells=[.func (.func 140) [] [],.func (.func 141) [] []]:=rfl
theorem xKb (e:Env) (i:Int):Ret P g false 99 [opsV,encE e,.int .i64 i] (encV (e.get i)):=by
 refine Ret.in c99 (by simp) ?_
 cases e with
 | none =>
  simp [k99]
  exact RK.agg (by simp [AV.stab])
 | some l =>
  simp [k99]
  refine xAM (fun h1=>?_) (fun h1=>?_) <;> simp [h1]
  ·refine xAj (fun h2=>?_) (fun h2=>?_) <;> simp [h2]
   ·refine RK.aggEq ?_ (by simp [AV.stab])
    simp only [Env.get,getL]
    rw [if_neg (by omega)];rfl
   ·obtain ⟨k,rfl⟩:∃ k:Nat,i=(k:Int):=⟨i.toNat,by omega⟩
    have hk:k < l.length:=by omega
    obtain ⟨v,hv⟩:∃ v,l[k]?=some v:=⟨_,xgG hk⟩
    refine Dra.auto [] mix ?_ ?_
    ·kernel_rfl
    simp [classes,xAP,hv]
    refine (xHU v).b (n:=9) ?_ rfl ?_ <;> simp [xB3]
    refine RK.aggEq ?_ (by simp [AV.stab])
    simp only [Env.get,getL]
    rw [if_pos (by omega)]
    simp [yAA,hv]
  ·refine RK.aggEq ?_ (by simp [AV.stab])
   simp only [Env.get,getL]
   rw [if_neg (by omega)];rfl
def ownL (l:List Val) (n:Nat):List Val:=(List.range (max n l.length)).map fun k:Nat=>getL l (k:Int)
theorem xDh (l:List Val) (n:Nat):(ownL l n).length=max n l.length:=by simp [ownL]
theorem xI1 (n:Int):Ret P g false 244 [opsV,encE none,.int .i64 n] (encE none):=by
 refine Ret.in c244 (by simp) ?_
 simp [k244]
 exact RK.agg (by simp [AV.stab])
theorem xKc (l:List Val) (n:Nat) (hl:l.length < 2 ^ 20) (hn:n < 2 ^ 20):Own P g 244 [opsV,encE (some l),.int .i64 (n:Int)] (.agg [.bool true,.sl 2 0 0 (max n l.length)]) (St.ofL [.row 2 (els valc (ownL l n))]):=by
 refine Own.in [3] c244 (by simp) (by simp) ?_
 have hm:max n l.length < 2 ^ 20:=Nat.max_lt.2 ⟨hn,hl⟩
 have hroom:max n l.length≤room:=by simp only [room];omega
 have e1:(if n < l.length then (l.length:Int) else n)=((max n l.length:Nat):Int):=by split <;> omega
 simp [k244,e1]
 have hcast:(max (n:Int) l.length)=((max n l.length:Nat):Int):=by omega
 try simp only [hcast]
 have hol:=xDh l n
 generalize hM:max n l.length=m at *
 simp [hroom]
 refine W.whileI (fun (a:Nat) F S=>a≤m∧F 3=.ptr 0 0 0∧F 4=.ptr 1 0 0∧F 6=.ptr 2 0 0∧F 7=.ptr 4 0 0∧F 22=.int .i64 m∧F 23=.int .i64 a∧S.obj 0=some (.row 2 [opsV.cells])∧S.obj 1=some (.row 2 [envc (some l)]) ∧
  S.obj 2=some (.row 2 [[.bool false,.nilsl]])∧S.obj 4=some (.row 2 [[.bool true,.sl 2 3 0 m]])∧∃ o:List Val,o.length=m∧o.take a=(ownL l n).take a∧S.obj 3=some (.row 2 (els valc o))) (fun a=>m - a) ?_ 0 _ _ ?_
 ·rintro a F S ⟨ha,h3,h4,h6,h7,h22,h23,s0,s1,s2,s4,o,ho,hot,s3⟩
  by_cases hlt:a < m
  ·have e4:=wrapS a (by omega)
   obtain ⟨u,hu⟩:∃ u,o[a]?=some u:=⟨_,xgG (by omega)⟩
   simp [h22,h23,hlt]
   refine Dra.auto [] mix ?_ ?_
   ·kernel_rfl
   simp only [xG0,xI0] at s0 s1
   simp [classes,h3,h4,h6,h7,h22,h23,s0,s1,s4]
   refine (xKb (some l) a).b (n:=9) ?_ rfl ?_ <;> simp [xB3]
   simp [xAd hlt,s3,hu,h3,h4,h6,h7,h22,h23,e4]
   refine ⟨a + 1,by omega,by omega,by omega,by simpa using s0,by simpa using s1,by simpa using s2,by simpa using s4,o.set a (getL l a),by simp [ho],?_,by rw [← xAg];rfl⟩
   rw [xAn (by omega),hot]
   have:(ownL l n)[a]?=some (getL l a):=by simp [ownL,hM,hlt]
   rw [xAe this]
  ·have:a=m:=by omega
   subst this
   have hoR:o=ownL l n:=by rw [yAI (by omega),yAI (by omega)] at hot;exact hot
   subst hoR
   simp [h22,h23,h7,h6,s4,s2]
   simp [RO,s3,ho]
 ·simp
  exact ⟨List.replicate m Val.zero,by simp,by simp [els,Val.zero]⟩
def Env.own (e:Env):Env:=e.map fun l=>ownL l 0
theorem xHV (e:Env) (he:∀l,e=some l→l.length < 2 ^ 20):Ret P g true 244 [opsV,encE e,.int .i64 0] (encE e.own):=by
 cases e with
 | none =>
  refine Ret.inP c244 (by simp) ?_
  simp [k244]
  exact ⟨rfl,9,by simp [Env.own,mapOpt]⟩
 | some l =>
  have hl:=xDh l 0
  refine (xKc l 0 (he l rfl) (by omega)).ret (m:=9) ?_
  have:=xA4 (e:=valc) (S:=St.ofL [.row 2 (els valc (ownL l 0))]) (o:=0) (n:=6) rfl hl
  simp only [xB0,mapOpt,xCq,this]
  rfl
end Go.Proofs.YtnhfofmhkfdpgaaGreatDoor.Vm
