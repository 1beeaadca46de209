/- A part of the proof: Ua Uf Ug Rm Uh. -/
import Derived.Test.YtchkknkjhiaooaaGreatDoorQ27
set_option linter.unusedVariables false
set_option linter.unusedSimpArgs false
set_option linter.constructorNameAsVariable false
namespace Go.Proofs.YtchkknkjhiaooaaGreatDoor.Vm
open Go Go.RowKit
variable {N:Nat} {g:Glob}
def rDst (k:Int):Bool:=decide (0≤k∧k≤7)
def rA (k:Int):Bool:=decide ((1≤k∧k≤5) ∨ k=8 ∨ k=9)
def rB (k:Int):Bool:=decide (3≤k∧k≤5)
def rnone (b:Bool) (n:Int):Bool:=decide ((b=true∧0≤n) ∨ n=0)
theorem ref05_hasDst (k:Int):Ret P g false 148 [.int .i64 k] (.bool (rDst k)):=by
 refine Ret.in c148 (by simp) ?_
 simp [k148]
 by_cases h:0≤k
 ·simp [h]
  exact RK.eq (by simp [rDst,h]) rfl
 ·simp [h]
  exact RK.eq (by simp [rDst,h]) rfl
theorem ref05_hasA (k:Int):Ret P g false 220 [.int .i64 k] (.bool (rA k)):=by
 refine Ret.in c220 (by simp) ?_
 simp [k220]
 by_cases h:1≤k
 ·by_cases h2:k≤5
  ·simp [h,h2]
   exact RK.eq (by simp [rA,h,h2]) rfl
  ·by_cases h3:k=8
   ·simp [h3]
    exact RK.eq (by simp [rA,h3]) rfl
   ·simp [h,h2,h3]
    exact RK.eq (by simp [rA,h,h2,h3]) rfl
 ·by_cases h3:k=8
  ·omega
  ·simp [h,h3]
   exact RK.eq (by simp [rA,h,h3]) rfl
theorem ref05_hasB (k:Int):Ret P g false 221 [.int .i64 k] (.bool (rB k)):=by
 refine Ret.in c221 (by simp) ?_
 simp [k221]
 by_cases h:3≤k
 ·simp [h]
  exact RK.eq (by simp [rB,h]) rfl
 ·simp [h]
  exact RK.eq (by simp [rB,h]) rfl
theorem ref05_none (b:Bool) (n:Int):Ret P g false 219 [.bool b,.int .i64 n] (.bool (rnone b n)):=by
 refine Ret.in c219 (by simp) ?_
 simp [k219]
 cases b
 ·simp
  exact RK.eq (by simp [rnone]) rfl
 ·by_cases h:0≤n
  ·simp [h]
   exact RK.eq (by simp [rnone,h]) rfl
  ·simp [h]
   exact RK.eq (by simp [rnone,h]) rfl
def Ins.arg (i:Ins) (k:Nat):Int:=if k=0 then i.x0 else if k=1 then i.x1 else i.x2
theorem okP_iff (i:Ins):i.okP ↔ (0≤i.kind∧i.kind≤9∧0≤i.id∧i.id≤95∧0≤i.n∧i.n≤3)∧rnone (rDst i.kind) i.dst=true∧rnone (rA i.kind) i.a=true∧rnone (rB i.kind) i.b=true∧rnone (decide (i.kind=7)) i.f=true∧rnone (decide (i.kind=7)) i.n=true ∧
  ((i.kind=0 ∨ i.c=0)∧-2147483648≤i.c∧i.c≤2147483647)∧∀k:Nat,k < 3→rnone (decide ((k:Int) < i.n)) (i.arg k)=true:=by
 have hall:(∀k:Nat,k < 3→rnone (decide ((k:Int) < i.n)) (i.arg k)=true) ↔ rnone (decide (0 < i.n)) i.x0=true∧rnone (decide (1 < i.n)) i.x1=true∧rnone (decide (2 < i.n)) i.x2=true:=by
  constructor
  ·intro h;exact ⟨h 0 (by omega),h 1 (by omega),h 2 (by omega)⟩
  ·rintro ⟨h0,h1,h2⟩ k hk
   have:k=0 ∨ k=1 ∨ k=2:=by omega
   rcases this with rfl | rfl | rfl
   ·exact h0
   ·exact h1
   ·exact h2
 rw [hall]
 by_cases hk:0≤i.kind∧i.kind≤9
 ·have hc:i.kind=0 ∨ i.kind=1 ∨ i.kind=2 ∨ i.kind=3 ∨ i.kind=4 ∨ i.kind=5 ∨ i.kind=6 ∨ i.kind=7 ∨ i.kind=8 ∨ i.kind=9:=by omega
  obtain ⟨id,kind,dst,a,b,c,f,n,x0,x1,x2⟩:=i
  simp only at hc ⊢
  rcases hc with rfl | rfl | rfl | rfl | rfl | rfl | rfl | rfl | rfl | rfl
  all_goals
   simp [Ins.okP,Ins.bare,Ins.zero,rnone,rDst,rA,rB,khas,kparts]
   try omega
 ·constructor
  ·intro h
   have:=h.1
   omega
  ·rintro ⟨h,_⟩
   omega
theorem ref05_Form (i:Ins):Ret P g false 147 [encI i] (.bool i.ok):=by
 refine Ret.in c147 (by simp) ?_
 simp [k147]
 have iff:=okP_iff i
 have no:∀{S:St},¬ i.okP→RK (.bool i.ok) (.bool false) S:=fun h=>RK.eq (by rw [Ins.ok,decide_eq_false h]) rfl
 by_cases A:0≤i.kind∧i.kind≤9∧0≤i.id∧i.id≤95∧0≤i.n∧i.n≤3
 case neg =>
  have hno:¬ i.okP:=fun h=>A (iff.1 h).1
  by_cases a1:i.kind < 0
  ·simp [a1];exact no hno
  by_cases a2:9 < i.kind
  ·simp [a1,a2];exact no hno
  by_cases a3:i.id < 0
  ·simp [a1,a2,a3];exact no hno
  by_cases a4:95 < i.id
  ·simp [a1,a2,a3,a4];exact no hno
  by_cases a5:i.n < 0
  ·simp [a1,a2,a3,a4,a5];exact no hno
  by_cases a6:3 < i.n
  ·simp [a1,a2,a3,a4,a5,a6];exact no hno
  omega
 case pos =>
  simp [show ¬ i.kind < 0 by omega,show ¬ 9 < i.kind by omega,show ¬ i.id < 0 by omega,show ¬ 95 < i.id by omega,show ¬ i.n < 0 by omega,show ¬ 3 < i.n by omega]
  refine Dra.auto [] mix ?_ ?_
  ·kernel_rfl
  simp [classes]
  refine (ref05_hasDst i.kind).b (n:=9) (by rfl) rfl ?_
  simp
  refine (ref05_none (rDst i.kind) i.dst).b (n:=9) (by rfl) rfl ?_
  cases c1:rnone (rDst i.kind) i.dst
  ·simp
   exact no fun h=>by have:=(iff.1 h).2.1;rw [c1] at this;cases this
  simp
  refine (ref05_hasA i.kind).b (n:=9) (by rfl) rfl ?_
  simp
  refine (ref05_none (rA i.kind) i.a).b (n:=9) (by rfl) rfl ?_
  cases c2:rnone (rA i.kind) i.a
  ·simp
   exact no fun h=>by have:=(iff.1 h).2.2.1;rw [c2] at this;cases this
  simp
  refine (ref05_hasB i.kind).b (n:=9) (by rfl) rfl ?_
  simp
  refine (ref05_none (rB i.kind) i.b).b (n:=9) (by rfl) rfl ?_
  cases c3:rnone (rB i.kind) i.b
  ·simp
   exact no fun h=>by have:=(iff.1 h).2.2.2.1;rw [c3] at this;cases this
  simp
  refine (ref05_none (decide (i.kind=7)) i.f).b (n:=9) (by rfl) rfl ?_
  cases c4:rnone (decide (i.kind=7)) i.f
  ·simp
   exact no fun h=>by have:=(iff.1 h).2.2.2.2.1;rw [c4] at this;cases this
  simp
  refine (ref05_none (decide (i.kind=7)) i.n).b (n:=9) (by rfl) rfl ?_
  cases c5:rnone (decide (i.kind=7)) i.n
  ·simp
   exact no fun h=>by have:=(iff.1 h).2.2.2.2.2.1;rw [c5] at this;cases this
  simp
  by_cases C:(i.kind=0 ∨ i.c=0)∧-2147483648≤i.c∧i.c≤2147483647
  case neg =>
   have hno:¬ i.okP:=fun h=>C (iff.1 h).2.2.2.2.2.2.1
   by_cases b1:i.kind=0
   ·by_cases b3:i.c < -2147483648
    ·simp [b1,b3];exact no hno
    ·have b4:2147483647 < i.c:=by omega
     simp [b1,b3,b4];exact no hno
   ·have b2:¬ i.c=0:=fun h=>C ⟨.inr h,by omega,by omega⟩
    simp [b1,b2];exact no hno
  case pos =>
   have hcase:i.kind=0 ∨ (¬ i.kind=0∧i.c=0):=by
    rcases C.1 with h | h
    ·exact .inl h
    ·by_cases hk:i.kind=0
     ·exact .inl hk
     ·exact .inr ⟨hk,h⟩
   have yes:(∀k:Nat,k < 3→rnone (decide ((k:Int) < i.n)) (i.arg k)=true)→∀{S:St},RK (.bool i.ok) (.bool true) S:=fun h=>RK.eq (by rw [Ins.ok,decide_eq_true (iff.2 ⟨A,c1,c2,c3,c4,c5,C,h⟩)]) rfl
   rcases hcase with b1 | ⟨b1,b2⟩
   ·simp [b1,show ¬ i.c < -2147483648 by omega,show ¬ 2147483647 < i.c by omega]
    refine W.whileI (fun (k:Nat) F S=>k≤3∧F 1=.ptr 0 0 0∧F 4=.int .i64 k∧S.obj 0=some (.row 11 [insc i])∧∀j:Nat,j < k→rnone (decide ((j:Int) < i.n)) (i.arg j)=true) (fun k=>3 - k) ?_ 0 _ _ ?_
    ·rintro k F S ⟨hk,f1,f4,s0,hall⟩
     have hk4:k=0 ∨ k=1 ∨ k=2 ∨ k=3:=by omega
     have g:∀(m:Nat) (F:AFrame) (S:St),rnone (decide ((m:Int) < i.n)) (i.arg m)=true→(∀j:Nat,j < m→rnone (decide ((j:Int) < i.n)) (i.arg j)=true)→∀j:Nat,j < m + 1→rnone (decide ((j:Int) < i.n)) (i.arg j)=true:=fun m _ _ h1 h2 j hj=>by
      by_cases e:j=m
      ·subst e;exact h1
      ·exact h2 j (by omega)
     simp only [insc] at s0
     rcases hk4 with rfl | rfl | rfl | rfl
     ·have hix:pk (PK.indexAddrArr 1 3) [.ptr 0 0 8,.int .i64 0]=some (.ptr 0 0 8):=by simp [pk]
      have e4:IntKind.i64.wrap 1=1:=rfl
      simp [f4]
      refine Dra.auto [] mix ?_ ?_
      ·kernel_rfl
      simp [classes,f1,f4,s0,hix]
      refine (ref05_none (decide (0 < i.n)) i.x0).b (n:=9) (by rfl) rfl ?_
      cases c6:rnone (decide (0 < i.n)) i.x0
      ·simp
       exact no fun h=>by
        have:=(iff.1 h).2.2.2.2.2.2.2 0 (by omega)
        have c7:rnone (decide (((0:Nat):Int) < i.n)) (i.arg 0)=false:=c6
        rw [c7] at this;cases this
      ·simp [f1,f4,s0,e4]
       exact ⟨1,by omega,by omega,by omega,g 0 F S c6 hall⟩
     ·have hix:pk (PK.indexAddrArr 1 3) [.ptr 0 0 8,.int .i64 1]=some (.ptr 0 0 9):=by simp [pk]
      have e4:IntKind.i64.wrap 2=2:=rfl
      simp [f4]
      refine Dra.auto [] mix ?_ ?_
      ·kernel_rfl
      simp [classes,f1,f4,s0,hix]
      refine (ref05_none (decide (1 < i.n)) i.x1).b (n:=9) (by rfl) rfl ?_
      cases c6:rnone (decide (1 < i.n)) i.x1
      ·simp
       exact no fun h=>by
        have:=(iff.1 h).2.2.2.2.2.2.2 1 (by omega)
        have c7:rnone (decide (((1:Nat):Int) < i.n)) (i.arg 1)=false:=c6
        rw [c7] at this;cases this
      ·simp [f1,f4,s0,e4]
       exact ⟨2,by omega,by omega,by omega,g 1 F S c6 hall⟩
     ·have hix:pk (PK.indexAddrArr 1 3) [.ptr 0 0 8,.int .i64 2]=some (.ptr 0 0 10):=by simp [pk]
      have e4:IntKind.i64.wrap 3=3:=rfl
      simp [f4]
      refine Dra.auto [] mix ?_ ?_
      ·kernel_rfl
      simp [classes,f1,f4,s0,hix]
      refine (ref05_none (decide (2 < i.n)) i.x2).b (n:=9) (by rfl) rfl ?_
      cases c6:rnone (decide (2 < i.n)) i.x2
      ·simp
       exact no fun h=>by
        have:=(iff.1 h).2.2.2.2.2.2.2 2 (by omega)
        have c7:rnone (decide (((2:Nat):Int) < i.n)) (i.arg 2)=false:=c6
        rw [c7] at this;cases this
      ·simp [f1,f4,s0,e4]
       exact ⟨3,by omega,by omega,by omega,g 2 F S c6 hall⟩
     ·simp [f4]
      exact yes hall
    ·simp [insc,b1]
   ·simp [b1,b2]
    refine W.whileI (fun (k:Nat) F S=>k≤3∧F 1=.ptr 0 0 0∧F 4=.int .i64 k∧S.obj 0=some (.row 11 [insc i])∧∀j:Nat,j < k→rnone (decide ((j:Int) < i.n)) (i.arg j)=true) (fun k=>3 - k) ?_ 0 _ _ ?_
    ·rintro k F S ⟨hk,f1,f4,s0,hall⟩
     have hk4:k=0 ∨ k=1 ∨ k=2 ∨ k=3:=by omega
     have g:∀(m:Nat) (F:AFrame) (S:St),rnone (decide ((m:Int) < i.n)) (i.arg m)=true→(∀j:Nat,j < m→rnone (decide ((j:Int) < i.n)) (i.arg j)=true)→∀j:Nat,j < m + 1→rnone (decide ((j:Int) < i.n)) (i.arg j)=true:=fun m _ _ h1 h2 j hj=>by
      by_cases e:j=m
      ·subst e;exact h1
      ·exact h2 j (by omega)
     simp only [insc] at s0
     rcases hk4 with rfl | rfl | rfl | rfl
     ·have hix:pk (PK.indexAddrArr 1 3) [.ptr 0 0 8,.int .i64 0]=some (.ptr 0 0 8):=by simp [pk]
      have e4:IntKind.i64.wrap 1=1:=rfl
      simp [f4]
      refine Dra.auto [] mix ?_ ?_
      ·kernel_rfl
      simp [classes,f1,f4,s0,hix]
      refine (ref05_none (decide (0 < i.n)) i.x0).b (n:=9) (by rfl) rfl ?_
      cases c6:rnone (decide (0 < i.n)) i.x0
      ·simp
       exact no fun h=>by
        have:=(iff.1 h).2.2.2.2.2.2.2 0 (by omega)
        have c7:rnone (decide (((0:Nat):Int) < i.n)) (i.arg 0)=false:=c6
        rw [c7] at this;cases this
      ·simp [f1,f4,s0,e4]
       exact ⟨1,by omega,by omega,by omega,g 0 F S c6 hall⟩
     ·have hix:pk (PK.indexAddrArr 1 3) [.ptr 0 0 8,.int .i64 1]=some (.ptr 0 0 9):=by simp [pk]
      have e4:IntKind.i64.wrap 2=2:=rfl
      simp [f4]
      refine Dra.auto [] mix ?_ ?_
      ·kernel_rfl
      simp [classes,f1,f4,s0,hix]
      refine (ref05_none (decide (1 < i.n)) i.x1).b (n:=9) (by rfl) rfl ?_
      cases c6:rnone (decide (1 < i.n)) i.x1
      ·simp
       exact no fun h=>by
        have:=(iff.1 h).2.2.2.2.2.2.2 1 (by omega)
        have c7:rnone (decide (((1:Nat):Int) < i.n)) (i.arg 1)=false:=c6
        rw [c7] at this;cases this
      ·simp [f1,f4,s0,e4]
       exact ⟨2,by omega,by omega,by omega,g 1 F S c6 hall⟩
     ·have hix:pk (PK.indexAddrArr 1 3) [.ptr 0 0 8,.int .i64 2]=some (.ptr 0 0 10):=by simp [pk]
      have e4:IntKind.i64.wrap 3=3:=rfl
      simp [f4]
      refine Dra.auto [] mix ?_ ?_
      ·kernel_rfl
      simp [classes,f1,f4,s0,hix]
      refine (ref05_none (decide (2 < i.n)) i.x2).b (n:=9) (by rfl) rfl ?_
      cases c6:rnone (decide (2 < i.n)) i.x2
      ·simp
       exact no fun h=>by
        have:=(iff.1 h).2.2.2.2.2.2.2 2 (by omega)
        have c7:rnone (decide (((2:Nat):Int) < i.n)) (i.arg 2)=false:=c6
        rw [c7] at this;cases this
      ·simp [f1,f4,s0,e4]
       exact ⟨3,by omega,by omega,by omega,g 2 F S c6 hall⟩
     ·simp [f4]
      exact yes hall
    ·simp [insc,b2]
theorem khas_ref {k:Int} (hk:0≤k∧k≤9):khas k 100=rDst k∧khas k 97=rA k∧khas k 98=rB k:=by
 have hc:k=0 ∨ k=1 ∨ k=2 ∨ k=3 ∨ k=4 ∨ k=5 ∨ k=6 ∨ k=7 ∨ k=8 ∨ k=9:=by omega
 rcases hc with rfl | rfl | rfl | rfl | rfl | rfl | rfl | rfl | rfl | rfl <;> decide
theorem ok_kind {i:Ins} (h:i.ok=true):0≤i.kind∧i.kind≤9:=by
 have:i.okP:=of_decide_eq_true h
 have:=this.1
 omega
theorem ref05_Def (i:Ins):Ret P g false 91 [encI i] (.int .i64 i.def):=by
 refine Ret.in c91 (by simp) ?_
 simp [k91]
 refine (ref05_Form i).use (n:=9) (by rfl) rfl ?_
 cases hok:i.ok
 ·simp
  exact RK.eq (by simp [Ins.def,hok]) rfl
 ·simp
  refine (ref05_hasDst i.kind).use (n:=9) (by rfl) rfl ?_
  have hk:=(khas_ref (ok_kind hok)).1
  cases hd:rDst i.kind
  ·simp
   exact RK.eq (by simp [Ins.def,hk,hd]) rfl
  ·simp
   exact RK.eq (by simp [Ins.def,hk,hd,hok]) rfl
theorem ref05_add {l:List Int} {n:Int} {v:AV} {S:St} {K:AV→St→Prop} (h:Has intc 1 S v l) (hb:Bel S v) (hl:l.length < 2 ^ 20)
  (hk:∀v' S',Has intc 1 S' v' (addOnce l n)→Bel S' v'→S.next≤S'.next→(∀q,q < S.next→(∀c,v ≠ .sl 1 q 0 c)→S'.obj q=S.obj q)→(v'=v ∨ ∀q c,v'=.sl 1 q 0 c→S.next≤q)→K v' S'):Cal P g 327 [v,.int .i64 n] S K:=by
 refine c327.in (by simp) ?_
 simp [k327]
 refine W.whileI (fun (k:Nat) F S'=>k≤l.length∧F 0=v∧F 1=.int .i64 n∧F 5=.int .i64 k∧S'=S∧n ∉ l.take k) (fun k=>l.length - k) ?_ 0 _ _ ?_
 ·rintro k F S' ⟨hk',f0,f1,f5,rfl,hno⟩
  simp [f0,f5,h.len]
  by_cases hlt:k < l.length
  ·obtain ⟨x,hx⟩:∃ x,l[k]?=some x:=⟨_,List.getElem?_eq_getElem hlt⟩
   have e4:=wrapS k (by omega)
   obtain ⟨o,ho1,ho2,ho3⟩:=h.idx hx
   have hg2:∀h:k < (els intc l).length,(els intc l)[k]=[.int .i64 x]:=fun h=>by simp [els,intc,(List.getElem?_eq_some_iff.1 hx).2]
   simp [hlt,f0,f1,f5,ho3,ho2,hx,hg2]
   refine bra_dec (fun e=>?_) (fun e=>?_)
   ·simp [f0]
    refine hk v S' ?_ hb (Nat.le_refl _) (fun _ _ _=>rfl) (.inl rfl)
    unfold addOnce
    rw [if_pos (by rw [← e];exact List.mem_of_getElem? hx)]
    exact h
   ·simp [f0,f1,f5,e4]
    refine ⟨k + 1,by omega,by omega,by omega,?_⟩
    rw [take_succ_get hx]
    simp only [List.mem_append,List.mem_singleton]
    rintro (h' | h')
    ·exact hno h'
    ·exact e h'.symm
  ·have:k=l.length:=by omega
   subst this
   rw [List.take_length] at hno
   simp [f0,f1]
   refine appV_own (e:=intc) (x:=n) (h.new hb) rfl (by simp [room];omega) fun S2 hS hnx hoth=>?_
   simp at hnx hoth
   simp
   refine hk _ S2 ?_ (Bel.sl (by omega)) (by omega) (fun q hq hne=>?_) (.inr fun q c e=>by cases e;omega)
   ·unfold addOnce
    rw [if_neg hno]
    simpa using hS
   ·rw [hoth q (by omega) hne,if_neg (by omega)]
 ·simp
structure UseI (i:Ins) (L:List Int) (F:AFrame) (S:St):Prop where
 f1:F 1=.ptr 0 0 0
 h:Has intc 1 S (F 3) L
 b:Bel S (F 3)
 y:∀q c,F 3=.sl 1 q 0 c→0 < q
 s0:S.obj 0=some (.row 11 [insc i])
 n:0 < S.next
theorem UseI.add {i:Ins} {L:List Int} {x:Int} {F F':AFrame} {S S':St} (h:UseI i L F S) (h1:F' 1=F 1) (a1:Has intc 1 S' (F' 3) (addOnce L x)) (a2:Bel S' (F' 3)) (a3:S.next≤S'.next) (a4:∀q,q < S.next→(∀c,F 3 ≠ .sl 1 q 0 c)→S'.obj q=S.obj q) (a5:F' 3=F 3 ∨ ∀q c,F' 3=.sl 1 q 0 c→S.next≤q):UseI i (addOnce L x) F' S':=by
 have hn:=h.n
 refine ⟨by rw [h1];exact h.f1,a1,a2,fun q c e=>?_,by rw [a4 0 hn fun c e=>absurd (h.y 0 c e) (by omega)];exact h.s0,by omega⟩
 rcases a5 with e5 | e5
 ·rw [e5] at e;exact h.y q c e
 ·have:=e5 q c e;omega
theorem once_add (l:List Int) (x:Int):once (l ++ [x])=addOnce (once l) x:=by simp [once]
theorem ref05_Uses (i:Ins):OwnL P g intc 1 326 [encI i] i.uses:=by
 refine OwnL.in c326 (by simp) ?_
 simp [k326]
 refine (ref05_Form i).use (n:=9) (by rfl) rfl ?_
 cases hok:i.ok
 ·simp [Ins.uses,hok]
  exact Has.nil
 ·have hkk:=khas_ref (ok_kind hok)
  have hP:i.okP:=of_decide_eq_true hok
  have hn3:0≤i.n∧i.n≤3:=⟨hP.2.2.2.1,hP.2.2.2.2.1⟩
  have hlen5:∀l:List Int,l.length≤6→(once l).length≤6:=fun l h=>by
   have:=once_len l []
   unfold once
   simp at this
   omega
  simp
  refine (ref05_hasA i.kind).use (n:=9) (by rfl) rfl ?_
  simp
  refine Bra.cut (fun F S=>UseI i (once (if khas i.kind 97=true then [i.a] else [])) F S) (bra_bool (fun h=>?_) (fun h=>?_)) ?_
  ·simp
   refine ref05_add (.inl ⟨rfl,rfl⟩) Bel.nil (by simp) fun v' S' a1 a2 a3 a4 a5=>?_
   simp at a4
   simp
   rw [if_pos (by rw [hkk.2.1];exact h)]
   refine ⟨by simp,by simpa using (show Has intc 1 S' v' (once [i.a]) from a1),by simpa using a2,fun q c e=>?_,by simpa [insc] using a4,by simp at a3;omega⟩
   simp at e
   rcases a5 with a5 | a5
   ·rw [a5] at e;cases e
   ·have:=a5 q c e;simp at this;omega
  ·simp
   rw [if_neg (by rw [hkk.2.1,h];simp)]
   exact ⟨by simp,.inl ⟨by simp,rfl⟩,by simpa using Bel.nil,by simp,by simp [insc],by simp⟩
  ·rintro F S hI
   have f1:=hI.f1
   have s0:=hI.s0
   simp only [insc] at s0
   simp [f1,s0]
   refine (ref05_hasB i.kind).use (n:=9) (by rfl) rfl ?_
   simp
   refine Bra.cut (fun F S=>UseI i (once ((if khas i.kind 97=true then [i.a] else []) ++ if khas i.kind 98=true then [i.b] else [])) F S) (bra_bool (fun h=>?_) (fun h=>?_)) ?_
   ·simp [f1,s0]
    refine ref05_add hI.h hI.b (by have:=hlen5 (if khas i.kind 97=true then [i.a] else []) (by split <;> simp);omega) fun v' S' a1 a2 a3 a4 a5=>?_
    simp
    rw [if_pos (show khas i.kind 98=true by rw [hkk.2.2];exact h),once_add]
    exact hI.add rfl (by simpa using a1) (by simpa using a2) a3 a4 (by simpa using a5)
   ·simp
    rw [if_neg (show ¬ khas i.kind 98=true by rw [hkk.2.2,h];simp),List.append_nil]
    exact ⟨hI.f1,hI.h,hI.b,hI.y,hI.s0,hI.n⟩
   ·clear f1 s0 hI
    rintro F S hI
    generalize hpre:(if khas i.kind 97=true then [i.a] else []) ++ (if khas i.kind 98=true then [i.b] else [])=pre at *
    have hpl:pre.length≤2:=by rw [← hpre];simp;split <;> split <;> simp
    have huse:i.uses=once (pre ++ [i.x0,i.x1,i.x2].take i.n.toNat):=by
     unfold Ins.uses Ins.all
     rw [if_pos hok,hpre]
    rw [huse]
    obtain ⟨m,hm⟩:∃ m:Nat,i.n=(m:Int):=⟨i.n.toNat,by omega⟩
    rw [hm,Int.toNat_natCast]
    simp
    refine W.whileI (fun (k:Nat) F S=>k≤m∧F 4=.int .i64 k∧UseI i (once (pre ++ [i.x0,i.x1,i.x2].take k)) F S) (fun k=>m - k) ?_ 0 _ _ ?_
    ·clear hI
     rintro k F S ⟨hk,f4,hI⟩
     have f1:=hI.f1
     have s0:=hI.s0
     simp only [insc] at s0
     simp [f1,f4,s0,hm]
     by_cases hlt:k < m
     ·have e4:=wrapS k (by omega)
      have hst:[i.x0,i.x1,i.x2].take (k + 1)=[i.x0,i.x1,i.x2].take k ++ [i.arg k]:=by
       have:k=0 ∨ k=1 ∨ k=2:=by omega
       rcases this with rfl | rfl | rfl <;> rfl
      have hroom:(once (pre ++ [i.x0,i.x1,i.x2].take k)).length < 2 ^ 20:=by
       have:=hlen5 (pre ++ [i.x0,i.x1,i.x2].take k) (by simp;omega)
       omega
      have hk3:k=0 ∨ k=1 ∨ k=2:=by omega
      rcases hk3 with rfl | rfl | rfl
      ·have hix:pk (PK.indexAddrArr 1 3) [.ptr 0 0 8,.int .i64 0]=some (.ptr 0 0 8):=by simp [pk]
       have e5:IntKind.i64.wrap 1=1:=rfl
       have hlt':((0:Nat):Int) < (m:Int):=by omega
       simp at hlt'
       simp [hlt',hlt,f1,f4,s0,hix]
       refine ref05_add (n:=i.arg 0) hI.h hI.b hroom fun v' S' a1 a2 a3 a4 a5=>?_
       simp [f4,e5]
       refine ⟨1,by omega,by omega,by omega,?_⟩
       rw [hst,← List.append_assoc,once_add]
       exact hI.add rfl (by simpa using a1) (by simpa using a2) a3 a4 (by simpa using a5)
      ·have hix:pk (PK.indexAddrArr 1 3) [.ptr 0 0 8,.int .i64 1]=some (.ptr 0 0 9):=by simp [pk]
       have e5:IntKind.i64.wrap 2=2:=rfl
       have hlt':((1:Nat):Int) < (m:Int):=by omega
       simp at hlt'
       simp [hlt',hlt,f1,f4,s0,hix]
       refine ref05_add (n:=i.arg 1) hI.h hI.b hroom fun v' S' a1 a2 a3 a4 a5=>?_
       simp [f4,e5]
       refine ⟨2,by omega,by omega,by omega,?_⟩
       rw [hst,← List.append_assoc,once_add]
       exact hI.add rfl (by simpa using a1) (by simpa using a2) a3 a4 (by simpa using a5)
      ·have hix:pk (PK.indexAddrArr 1 3) [.ptr 0 0 8,.int .i64 2]=some (.ptr 0 0 10):=by simp [pk]
       have e5:IntKind.i64.wrap 3=3:=rfl
       have hlt':((2:Nat):Int) < (m:Int):=by omega
       simp at hlt'
       simp [hlt',hlt,f1,f4,s0,hix]
       refine ref05_add (n:=i.arg 2) hI.h hI.b hroom fun v' S' a1 a2 a3 a4 a5=>?_
       simp [f4,e5]
       refine ⟨3,by omega,by omega,by omega,?_⟩
       rw [hst,← List.append_assoc,once_add]
       exact hI.add rfl (by simpa using a1) (by simpa using a2) a3 a4 (by simpa using a5)
     ·have:k=m:=by omega
      subst this
      simp
      exact hI.h
    ·simp
     exact ⟨hI.f1,hI.h,hI.b,hI.y,hI.s0,hI.n⟩
end Go.Proofs.YtchkknkjhiaooaaGreatDoor.Vm
namespace Go.Proofs.YtchkknkjhiaooaaGreatDoor.Vm
open Go Go.RowKit
variable {N:Nat} {g:Glob}
def rkind (x y:Val):Int:=if x.k=0 ∨ y.k=0 then 0 else if x.k < y.k then y.k else x.k
theorem ref02_kind (x y:Val):Ret P g false 312 [encV x,encV y] (.int .i64 (rkind x y)):=by
 refine Ret.in c312 (by simp) ?_
 simp [k312]
 by_cases h1:x.k=0
 ·simp [h1]
  exact RK.eq (by simp [rkind,h1]) rfl
 ·by_cases h2:y.k=0
  ·simp [h1,h2]
   exact RK.eq (by simp [rkind,h1,h2]) rfl
  ·simp [h1,h2]
   exact RK.eq (by simp [rkind,h1,h2]) rfl
def rmade (k n:Int):Val:=if k=1 then ⟨1,wrap32 n⟩ else ⟨k,0⟩
theorem ref02_made (k n:Int):Ret P g false 311 [.int .i64 k,.int .i64 n] (encV (rmade k n)):=by
 refine Ret.in c311 (by simp) ?_
 simp [k311]
 by_cases h:k=1
 ·simp [h]
  refine (ref02_Of n).use (n:=9) (by rfl) rfl ?_
  simp
  exact RK.aggEq (by simp [rmade]) rfl
 ·simp [h]
  exact RK.aggEq (by simp [rmade,h]) rfl
theorem rmade_each (op:Int→Int→Int) (a b:Val):rmade (rkind a.sane b.sane) (op a.sane.c b.sane.c)=a.each op b:=by
 unfold Val.each rmade rkind
 rcases Val.cases a.sane_ok with ha | ha | ⟨c,ha⟩ <;> rcases Val.cases b.sane_ok with hb | hb | ⟨d,hb⟩ <;> rw [ha,hb] <;> simp
theorem ref02_Add (a b:Val):Ret P g false 271 [encV a,encV b] (encV (a.each i64add b)):=by
 refine Ret.in c271 (by simp) ?_
 simp [k271]
 refine (ref02_sane a).use (n:=9) (by rfl) rfl ?_
 simp
 refine (ref02_sane b).use (n:=9) (by rfl) rfl ?_
 rw [← rmade_each]
 simp
 refine Dra.auto [] mix ?_ ?_
 ·kernel_rfl
 simp [classes]
 refine (ref02_kind a.sane b.sane).b (n:=9) (by rfl) rfl ?_
 simp
 refine (ref02_made _ _).b (n:=9) (by rfl) rfl ?_
 simp
 exact RK.aggEq (by simp [i64add]) rfl
theorem ref02_Sub (a b:Val):Ret P g false 272 [encV a,encV b] (encV (a.each i64sub b)):=by
 refine Ret.in c272 (by simp) ?_
 simp [k272]
 refine (ref02_sane a).use (n:=9) (by rfl) rfl ?_
 simp
 refine (ref02_sane b).use (n:=9) (by rfl) rfl ?_
 rw [← rmade_each]
 simp
 refine Dra.auto [] mix ?_ ?_
 ·kernel_rfl
 simp [classes]
 refine (ref02_kind a.sane b.sane).b (n:=9) (by rfl) rfl ?_
 simp
 refine (ref02_made _ _).b (n:=9) (by rfl) rfl ?_
 simp
 exact RK.aggEq (by simp [i64sub]) rfl
theorem ref02_Mul (a b:Val):Ret P g false 273 [encV a,encV b] (encV (a.each i64mul b)):=by
 refine Ret.in c273 (by simp) ?_
 simp [k273]
 refine (ref02_sane a).use (n:=9) (by rfl) rfl ?_
 simp
 refine (ref02_sane b).use (n:=9) (by rfl) rfl ?_
 rw [← rmade_each]
 simp
 refine Dra.auto [] mix ?_ ?_
 ·kernel_rfl
 simp [classes]
 refine (ref02_kind a.sane b.sane).b (n:=9) (by rfl) rfl ?_
 simp
 refine (ref02_made _ _).b (n:=9) (by rfl) rfl ?_
 simp
 exact RK.aggEq (by simp [i64mul]) rfl
theorem rmade_neg (a:Val):rmade a.sane.k (IntKind.i64.wrap (-a.sane.c))=Val.each i64sub ⟨1,wrap32 0⟩ a:=by
 have h1:(⟨1,wrap32 0⟩:Val).sane=⟨1,0⟩:=rfl
 unfold Val.each rmade
 rw [h1]
 rcases Val.cases a.sane_ok with ha | ha | ⟨c,ha⟩ <;> rw [ha] <;> simp [i64sub]
theorem ref02_Neg (a:Val):Ret P g false 270 [encV a] (encV (Val.each i64sub ⟨1,wrap32 0⟩ a)):=by
 refine Ret.in c270 (by simp) ?_
 simp [k270]
 refine (ref02_sane a).use (n:=9) (by rfl) rfl ?_
 rw [← rmade_neg]
 simp
 refine (ref02_made _ _).use (n:=9) (by rfl) rfl ?_
 simp
 exact RK.aggEq rfl rfl
theorem ref04_GetFlat (e:Env) (i:Int):Ret P g false 89 [.agg (envT e),.int .i64 i] (encV (e.get i)):=by
 have hv:FSl valc 2 (encF valc 2 e.vals) e.vals:=encF_sl
 have ov:=fsl_one hv
 refine Ret.in c89 (by simp [envT]) ?_
 unfold envT
 generalize encF valc 2 e.vals=ev at *
 simp [k89,ov]
 cases e with
 | none =>
  simp
  exact RK.aggEq (by simp [Env.get,Val.zero]) rfl
 | some l =>
  have hl:Env.vals (some l)=l:=rfl
  rw [hl] at hv
  by_cases h1:i < 0
  ·simp [h1]
   exact RK.aggEq (by simp [Env.get,getL,Val.zero,show ¬ 0≤i by omega]) rfl
  ·obtain ⟨k,rfl⟩:=Int.eq_ofNat_of_zero_le (show 0≤i by omega)
   by_cases h2:k < l.length
   ·obtain ⟨x,hx⟩:∃ x,l[k]?=some x:=⟨_,List.getElem?_eq_getElem h2⟩
    simp [show ¬ (k:Int) < 0 by omega,hv.len,show ¬ l.length≤k by omega,hv.idx hx]
    refine (ref04_val x).use (n:=9) (by rfl) rfl ?_
    simp
    have hx2:∀h:k < l.length,l[k]=x:=fun h=>(List.getElem?_eq_some_iff.1 hx).2
    exact RK.aggEq (by simp [Env.get,getL,h2,hx,hx2,List.getD_eq_getElem?_getD]) rfl
   ·simp [show ¬ (k:Int) < 0 by omega,hv.len,show l.length≤k by omega]
    exact RK.aggEq (by simp [Env.get,getL,Val.zero,show ¬ k < l.length by omega]) rfl
theorem envT_some (l:List Val):envT (some l)=[.bool true,encF valc 2 l]:=rfl
theorem ref04_ownFlat (e:Env) (he:e.small):Own P g 140 [.agg (envT e)] (.agg [.bool e.isSome,encO 2 e.own.vals]) (St.ofL (objO valc 2 e.own.vals)):=by
 have hv:FSl valc 2 (encF valc 2 e.vals) e.vals:=encF_sl
 have ov:=fsl_one hv
 refine OwnB.in c140 (by simp [envT]) ?_
 cases e with
 | none =>
  have hz:envT Option.none=[.bool false,.nilsl]:=by simp [envT,encF,Env.vals]
  rw [hz]
  simp [k140]
  exact .inl ⟨rfl,rfl⟩
 | some l =>
  have hl:Env.vals (some l)=l:=rfl
  have hlen:=he l rfl
  have hol:=ownL_len l 0
  simp only [Nat.zero_max] at hol
  have hown:Env.vals (Env.own (some l))=ownL l 0:=rfl
  rw [hl] at hv ov
  rw [envT_some,hown]
  have hp1:∀{S:St} {n:Nat},pict S [] (n + 2) (.agg [.bool true,encF valc 2 l])=some (.agg (envT (some l))):=fun {S n}=>by
   simp [mapOpt,pict_stab hv.stab,envT,Env.vals]
  generalize encF valc 2 l=ev at *
  simp [k140,ov]
  refine W.whileI (fun (a:Nat) F S=>a≤l.length∧F 1=.ptr 0 0 0∧F 2=.ptr 1 0 0∧F 3=.ptr 2 0 0∧F 4=.int .i64 a∧2 < S.next∧S.obj 0=some (.row 2 [[.bool true,ev]])∧S.obj 1=some (.row 2 [[.bool false,.nilsl]])∧∃ w,S.obj 2=some (.row 2 [[.bool true,w]])∧w.one=true∧Has valc 2 S w ((ownL l 0).take a)∧Bel S w∧(∀q c,w=.sl 2 q 0 c→3≤q)) (fun a=>l.length - a) ?_ 0 _ _ ?_
  ·rintro a F S ⟨ha,f1,f2,f3,f4,hn,s0,s1,w,s2,ow,hw,bw,nw⟩
   simp [f1,f4,s0,hv.len]
   by_cases hlt:a < l.length
   ·have e4:=wrapS a (by omega)
    have hx:=getL_ownL l 0 (k:=a) (by omega)
    simp [hlt]
    refine Dra.auto [] mix ?_ ?_
    ·kernel_rfl
    simp [classes,f1,f3,f4,s0,s2]
    refine (ref04_GetFlat (some l) a).b (n:=9) (by simp only [mapOpt,hp1,pict_stab (show AV.stab (.int .i64 (a:Int))=true from rfl)]) rfl ?_
    have hg:Env.get (some l) (a:Int)=getL l a:=rfl
    rw [hg]
    simp
    refine appV_own (e:=valc) (x:=getL l a) (hw.new bw) rfl (by simp [room];omega) fun S1 m1 m2 m3=>?_
    simp at m2 m3
    have o1:∀q,q < 3→S1.obj q=S.obj q:=fun q hq=>by
     rw [m3 q (by omega) fun len h=>by have:=nw _ _ h;omega,if_neg (by omega)]
    simp [f1,f2,f3,f4,e4,o1 2 (by omega),s2]
    refine ⟨a + 1,by omega,by omega,by omega,by omega,by rw [o1 0 (by omega)];exact s0,by rw [o1 1 (by omega)];exact s1,?_,Bel.sl (by simp;omega),by omega⟩
    rw [take_succ_get hx]
    refine Has.keep (S:=S1) (by simpa [hol] using m1) fun q ⟨len,hq⟩=>?_
    cases hq
    simp [show ¬ S.next + 1=2 by omega]
   ·have:a=l.length:=by omega
    subst this
    rw [List.take_of_length_le (by omega)] at hw
    simp [f2,f3,s1,s2,ow]
    exact hw.keep fun q ⟨len,hq⟩=>by have:=nw _ _ hq;simp [show ¬ q=1 by omega]
  ·simp
   exact ⟨Has.nil,Bel.nil⟩
theorem pict_hasB {S:St} {w:AV} {l:List Val} {t:Bool} (h:Has valc 2 S w l):pict S [] 9 (.agg [.bool t,w])=some (.agg [.bool t,encF valc 2 l]):=by
 have hp:=h.pict (n:=6)
 simp [mapOpt,hp]
theorem has_encO (l:List Val):Has valc 2 (St.ofL (objO valc 2 l)) (encO 2 l) l:=by
 by_cases h:l=[]
 ·exact .inl ⟨by simp [encO,h],h⟩
 ·exact .inr ⟨0,by simp [encO,h],by simp only [objO,if_neg h];rfl,h⟩
theorem ref04_ownR (e:Env) (he:e.small):Ret P g true 140 [.agg (envT e)] (.agg (envT e.own)):=by
 refine Own.ret (m:=9) (ref04_ownFlat e he) ?_
 have hs:e.own.isSome=e.isSome:=by cases e <;> rfl
 rw [envT,hs]
 exact pict_hasB (has_encO _)
end Go.Proofs.YtchkknkjhiaooaaGreatDoor.Vm
namespace Go.Proofs.YtchkknkjhiaooaaGreatDoor.Vm
open Go Go.RowKit
variable {N:Nat} {g:Glob}
theorem RK.envT {e e':Env} {S:St} (h:e=e'):RK (.agg (Vm.envT e')) (.agg (Vm.envT e)) S:=by
 subst h
 exact ⟨9,by simp [envT_pict]⟩
theorem ref04_JoinFlat (a b:Env) (ha:a.small) (hb:b.small):Ret P g false 85 [.agg (envT a),.agg (envT b)] (.agg (envT (a.join b))):=by
 have hv:FSl valc 2 (encF valc 2 a.vals) a.vals:=encF_sl
 have hw:FSl valc 2 (encF valc 2 b.vals) b.vals:=encF_sl
 have ov:=fsl_one hv
 have ow:=fsl_one hw
 refine Ret.in c85 (by simp) ?_
 cases a with
 | none =>
  have hz:envT Option.none=[.bool false,.nilsl]:=by simp [envT,encF,Env.vals]
  have hj:Env.join Option.none b=b.own:=rfl
  rw [hz,hj]
  have hbT:envT b=[.bool b.isSome,encF valc 2 b.vals]:=rfl
  rw [hbT]
  simp [k85,ow]
  refine (ref04_ownR b hb).use (n:=9) (by simp [mapOpt,pict_stab hw.stab,envT]) rfl ?_
  simp [envT]
  exact ⟨fsl_one encF_sl,RK.envT rfl⟩
 | some l =>
  have hl:=ha l rfl
  have hla:Env.vals (some l)=l:=rfl
  rw [hla] at hv ov
  cases b with
  | none =>
   have hz:envT Option.none=[.bool false,.nilsl]:=by simp [envT,encF,Env.vals]
   have hj:Env.join (some l) Option.none=Env.own (some l):=rfl
   rw [hz,hj,envT_some]
   simp [k85,ov]
   refine (ref04_ownR (some l) ha).use (n:=9) (by simp [mapOpt,pict_stab hv.stab,envT,Env.vals]) rfl ?_
   simp [envT]
   exact ⟨fsl_one encF_sl,RK.envT rfl⟩
  | some m =>
   have hm:=hb m rfl
   have hmb:Env.vals (some m)=m:=rfl
   rw [hmb] at hw ow
   have hj:Env.join (some l) (some m)=some (joinL l m):=rfl
   have hjl:(joinL l m).length=max m.length l.length:=by simp [joinL]
   have hjx:∀k,k < max m.length l.length→(joinL l m)[k]?=some ((getL l k).join (getL m k)):=fun k hk=>by simp [joinL,hk]
   have hmax:∀k:Nat,(k:Int) < (if l.length < m.length then (m.length:Int) else l.length) ↔ k < max m.length l.length:=fun k=>by split <;> omega
   have hp1:∀{S:St} {n:Nat},pict S [] (n + 2) (.agg [.bool true,encF valc 2 l])=some (.agg (envT (some l))):=fun {S n}=>by
    simp [mapOpt,pict_stab hv.stab,envT,Env.vals]
   have hp2:∀{S:St} {n:Nat},pict S [] (n + 2) (.agg [.bool true,encF valc 2 m])=some (.agg (envT (some m))):=fun {S n}=>by
    simp [mapOpt,pict_stab hw.stab,envT,Env.vals]
   rw [hj,envT_some,envT_some,envT_some]
   generalize encF valc 2 l=ev at *
   generalize encF valc 2 m=ew at *
   simp [k85,ov,ow]
   refine W.whileI (fun (a:Nat) F S=>a≤max m.length l.length∧F 2=.ptr 0 0 0∧F 3=.ptr 1 0 0∧F 4=.ptr 2 0 0∧F 5=.ptr 3 0 0∧F 6=.int .i64 a∧3 < S.next∧S.obj 0=some (.row 2 [[.bool true,ev]])∧S.obj 1=some (.row 2 [[.bool true,ew]])∧S.obj 2=some (.row 2 [[.bool false,.nilsl]])∧∃ w,S.obj 3=some (.row 2 [[.bool true,w]])∧w.one=true∧Has valc 2 S w ((joinL l m).take a)∧Bel S w∧(∀q c,w=.sl 2 q 0 c→4≤q)) (fun a=>max m.length l.length - a) ?_ 0 _ _ ?_
   ·rintro a F S ⟨ha,f2,f3,f4,f5,f6,hn,s0,s1,s2,w,s3,o3,hW,bW,nW⟩
    have hma:=hmax a
    simp [f2,f3,f6,s0,s1,hv.len,hw.len]
    by_cases hlt:a < max m.length l.length
    ·have e4:=wrapS a (by omega)
     have h1:=hma.2 hlt
     simp [h1]
     refine Dra.auto [] mix ?_ ?_
     ·kernel_rfl
     simp [classes,f2,f3,f5,f6,s0,s1,s3]
     refine (ref04_GetFlat (some l) a).b (n:=9) (by simp [mapOpt,hp1]) rfl ?_
     have hg:Env.get (some l) (a:Int)=getL l a:=rfl
     rw [hg]
     simp [f3,f6,s1]
     refine (ref04_GetFlat (some m) a).b (n:=9) (by simp [mapOpt,hp2]) rfl ?_
     have hg2:Env.get (some m) (a:Int)=getL m a:=rfl
     rw [hg2]
     simp
     refine (ref02_Join (getL l a) (getL m a)).b (n:=9) (by rfl) rfl ?_
     simp
     refine appV_own (e:=valc) (x:=(getL l a).join (getL m a)) (hW.new bW) rfl (by simp [room];omega) fun S1 m1 m2 m3=>?_
     simp at m2 m3
     have o1:∀q,q < 4→S1.obj q=S.obj q:=fun q hq=>by
      rw [m3 q (by omega) fun len h=>by have:=nW _ _ h;omega,if_neg (by omega)]
     simp [f2,f3,f4,f5,f6,e4,o1 3 (by omega),s3]
     refine ⟨a + 1,by omega,by omega,by omega,by omega,by rw [o1 0 (by omega)];exact s0,by rw [o1 1 (by omega)];exact s1,by rw [o1 2 (by omega)];exact s2,?_,Bel.sl (by simp;omega),by omega⟩
     rw [take_succ_get (hjx a hlt)]
     refine Has.keep (S:=S1) (by simpa using m1) fun q ⟨len,hq⟩=>?_
     cases hq
     simp [show ¬ S.next + 1=3 by omega]
    ·have h1:¬ ((a:Int) < (if l.length < m.length then (m.length:Int) else l.length)):=fun h=>hlt (hma.1 h)
     have:a=max m.length l.length:=by omega
     subst this
     rw [List.take_of_length_le (by omega)] at hW
     simp [h1,f4,f5,s2,s3,o3]
     exact ⟨9,pict_hasB (hW.keep fun q ⟨len,hq⟩=>by have:=nW _ _ hq;simp [show ¬ q=2 by omega])⟩
   ·simp
    exact ⟨Has.nil,Bel.nil⟩
theorem ref04_SetFlat (e:Env) (i:Int) (v:Val) (he:e.small):Ret P g false 206 [.agg (envT e),.int .i64 i,encV v] (.agg (envT (e.set i v))):=by
 have hv:FSl valc 2 (encF valc 2 e.vals) e.vals:=encF_sl
 have ov:=fsl_one hv
 refine Ret.in c206 (by simp) ?_
 have hT:envT e=[.bool e.isSome,encF valc 2 e.vals]:=rfl
 rw [hT]
 simp [k206,ov]
 refine (ref04_ownFlat e he).use' (n:=9) (by simp [mapOpt,pict_stab hv.stab,envT]) ?_ ?_
 ·unfold objO
  split <;> simp
 cases e with
 | none =>
  have hz:Env.set Option.none i v=Option.none:=rfl
  have ho:(Env.own Option.none).vals=[]:=rfl
  rw [hz,ho]
  simp [encO,objO]
  by_cases h1:0≤i
  ·simp [h1,show ¬ i < 0 by omega]
   exact ⟨9,by simp [mapOpt,envT,Env.vals,encF]⟩
  ·simp [h1]
   exact ⟨9,by simp [mapOpt,envT,Env.vals,encF]⟩
 | some l =>
  have hlen:=he l rfl
  have hol:=ownL_len l 0
  simp only [Nat.zero_max] at hol
  have ho:(Env.own (some l)).vals=ownL l 0:=rfl
  have hse:Env.set (some l) i v=some (if 0≤i∧i < l.length then (ownL l 0).set i.toNat v.sane else ownL l 0):=by
   show (some (if 0≤i∧i < ((ownL l 0).length:Int) then (ownL l 0).set i.toNat v.sane else ownL l 0):Env)=_
   rw [hol]
  rw [ho,hse,envT_some]
  by_cases hnil:l=[]
  ·subst hnil
   have h0:ownL [] 0=[]:=rfl
   rw [h0]
   have hif:(if 0≤i∧i < (([]:List Val).length:Int) then ([]:List Val).set i.toNat v.sane else [])=[]:=by split <;> simp
   rw [hif]
   simp [encO,objO]
   by_cases h1:0≤i
   ·simp [h1,show ¬ i < 0 by omega]
    exact ⟨9,by simp [mapOpt,encF]⟩
   ·simp [h1]
    exact ⟨9,by simp [mapOpt,encF]⟩
  ·have hne:ownL l 0 ≠ []:=fun h=>hnil (List.length_eq_zero_iff.1 (by rw [← hol,h];rfl))
   simp [encO,objO,hne,hol]
   by_cases h1:0≤i
   ·obtain ⟨k,rfl⟩:=Int.eq_ofNat_of_zero_le h1
    by_cases h2:k < l.length
    ·obtain ⟨u,hu⟩:∃ u,(ownL l 0)[k]?=some u:=⟨_,List.getElem?_eq_getElem (by omega)⟩
     simp [h2]
     refine Dra.auto [] mix ?_ ?_
     ·kernel_rfl
     simp [classes]
     refine (ref04_val v).b (n:=9) (by rfl) rfl ?_
     simp [ix_sl h2,hu]
     have e3:(els valc (ownL l 0)).set k [.int .i64 v.sane.k,.int .i64 v.sane.c]=els valc ((ownL l 0).set k v.sane):=els_set (e:=valc)
     simp only [e3]
     have hne2:(ownL l 0).set k v.sane ≠ []:=fun h=>hne (List.length_eq_zero_iff.1 (by rw [← List.length_set (i:=k) (a:=v.sane),h];rfl))
     exact ⟨9,pict_hasB (.inr ⟨_,by rw [List.length_set,hol],by simp,hne2⟩)⟩
    ·simp [h2]
     exact ⟨9,pict_hasB (.inr ⟨_,by rw [hol],by simp,hne⟩)⟩
   ·simp [h1]
    exact ⟨9,pict_hasB (.inr ⟨_,by rw [hol],by simp,hne⟩)⟩
theorem ref05_value (e:Env) (i:Ins):Ret P g false 207 [.agg (envT e),encI i] (encV (i.number e)):=by
 have hv:FSl valc 2 (encF valc 2 e.vals) e.vals:=encF_sl
 have ov:=fsl_one hv
 refine Ret.in c207 (by simp) ?_
 have hT:envT e=[.bool e.isSome,encF valc 2 e.vals]:=rfl
 have hp1:∀{S:St} {n:Nat},pict S [] (n + 2) (.agg [.bool e.isSome,encF valc 2 e.vals])=some (.agg (envT e)):=fun {S n}=>by
  simp [mapOpt,pict_stab hv.stab,envT]
 rw [hT]
 generalize encF valc 2 e.vals=ev at *
 simp [k207,ov]
 refine (ref04_GetFlat e i.a).use (n:=9) (by simp [mapOpt,hp1]) rfl ?_
 simp
 refine (ref04_GetFlat e i.b).use (n:=9) (by simp [mapOpt,hp1]) rfl ?_
 simp
 unfold Ins.number
 refine bra_dec (fun k0=>?_) (fun k0=>?_)
 ·simp
  refine (ref02_Of i.c).use (n:=9) (by rfl) rfl ?_
  simp
  exact RK.aggEq (by simp [k0]) (by simp [k0,AV.stab])
 simp
 refine bra_dec (fun k1=>?_) (fun k1=>?_)
 ·simp
  exact RK.aggEq (by simp [k0,k1]) (by simp [k0,k1,AV.stab])
 simp
 refine bra_dec (fun k2=>?_) (fun k2=>?_)
 ·simp
  refine (ref02_Neg (e.get i.a)).use (n:=9) (by rfl) rfl ?_
  simp
  exact RK.aggEq (by simp [k0,k1,k2]) (by simp [k0,k1,k2,AV.stab])
 simp
 refine bra_dec (fun k3=>?_) (fun k3=>?_)
 ·simp
  refine (ref02_Add (e.get i.a) (e.get i.b)).use (n:=9) (by rfl) rfl ?_
  simp
  exact RK.aggEq (by simp [k0,k1,k2,k3]) (by simp [k0,k1,k2,k3,AV.stab])
 simp
 refine bra_dec (fun k4=>?_) (fun k4=>?_)
 ·simp
  refine (ref02_Sub (e.get i.a) (e.get i.b)).use (n:=9) (by rfl) rfl ?_
  simp
  exact RK.aggEq (by simp [k0,k1,k2,k3,k4]) (by simp [k0,k1,k2,k3,k4,AV.stab])
 simp
 refine bra_dec (fun k5=>?_) (fun k5=>?_)
 ·simp
  refine (ref02_Mul (e.get i.a) (e.get i.b)).use (n:=9) (by rfl) rfl ?_
  simp
  exact RK.aggEq (by simp [k0,k1,k2,k3,k4,k5]) (by simp [k0,k1,k2,k3,k4,k5,AV.stab])
 simp
 exact RK.aggEq (by simp [k0,k1,k2,k3,k4,k5]) (by simp [k0,k1,k2,k3,k4,k5,AV.stab])
end Go.Proofs.YtchkknkjhiaooaaGreatDoor.Vm
namespace Go.Proofs.YtchkknkjhiaooaaGreatDoor.Vm
open Go Go.RowKit
variable {N:Nat} {g:Glob}
def Fun.isOne (f:Fun) (b k:Nat) (x:Ins):Prop:=0≤x.def∧((f.cat b (k + 1)).get x.def).k=1
noncomputable instance (f:Fun) (b k:Nat) (x:Ins):Decidable (f.isOne b k x):=Classical.propDecidable _
noncomputable def Fun.knownBTo (f:Fun) (b k:Nat):List Int:=knownK (f.cin.getD b Option.none) (f.code b) k
theorem knownB_succ {f:Fun} {b k:Nat} {x:Ins} (hx:(f.code b)[k]?=some x):f.knownBTo b (k + 1)=f.knownBTo b k ++ if f.isOne b k x then [x.id] else []:=by
 unfold Fun.knownBTo
 rw [knownK,hx]
 congr 1
 by_cases h:f.isOne b k x
 ·rw [if_pos h];exact if_pos h
 ·rw [if_neg h];exact if_neg h
theorem knownBTo_mem {f:Fun} {b:Nat} {y:Int}:∀k,y ∈ f.knownBTo b k ↔ ∃ j x,j < k∧(f.code b)[j]?=some x∧f.isOne b j x∧x.id=y
 | 0=>by simp [Fun.knownBTo,knownK]
 | k + 1=>by
  cases hx:(f.code b)[k]? with
  | none =>
   have e:f.knownBTo b (k + 1)=f.knownBTo b k:=by unfold Fun.knownBTo;rw [knownK,hx];simp
   rw [e,knownBTo_mem k]
   constructor
   ·rintro ⟨j,x,h1,h2⟩;exact ⟨j,x,by omega,h2⟩
   ·rintro ⟨j,x,h1,h2,h3⟩
    refine ⟨j,x,?_,h2,h3⟩
    by_cases hj:j=k
    ·subst hj;rw [hx] at h2;cases h2
    ·omega
  | some z =>
   rw [knownB_succ hx,List.mem_append,knownBTo_mem k]
   constructor
   ·rintro (⟨j,x,h1,h2⟩ | h)
    ·exact ⟨j,x,by omega,h2⟩
    ·split at h
     ·rename_i ho
      simp at h
      exact ⟨k,z,by omega,hx,ho,h.symm⟩
     ·cases h
   ·rintro ⟨j,x,h1,h2,h3,h4⟩
    by_cases hj:j=k
    ·subst hj
     rw [hx] at h2;cases h2
     right;rw [if_pos h3];simp [h4]
    ·exact .inl ⟨j,x,by omega,h2,h3,h4⟩
theorem known_mem {f:Fun} {y:Int}:y ∈ f.known ↔ ∃ b B k x,f.blks[b]?=some B∧B.ins[k]?=some x∧f.isOne b k x∧x.id=y:=by
 unfold Fun.known Fun.knownTo
 simp only [List.mem_flatten,List.mem_map,List.mem_range]
 constructor
 ·rintro ⟨_,⟨b,hb,rfl⟩,hy⟩
  obtain ⟨k,x,h1,h2,h3,h4⟩:=(knownBTo_mem (f:=f) (b:=b) (y:=y) (f.code b).length).1 hy
  have hB:f.blks[b]?=some f.blks[b]:=List.getElem?_eq_getElem hb
  exact ⟨b,_,k,x,hB,by rw [← code_at hB];exact h2,h3,h4⟩
 ·rintro ⟨b,B,k,x,hB,hx,h3,h4⟩
  have hx':(f.code b)[k]?=some x:=by rw [code_at hB];exact hx
  exact ⟨_,⟨b,(List.getElem?_eq_some_iff.1 hB).1,rfl⟩,(knownBTo_mem (f:=f) (b:=b) (y:=y) (f.code b).length).2 ⟨k,x,(List.getElem?_eq_some_iff.1 hx').1,hx',h3,h4⟩⟩
theorem sorted_mem {l:List Int} {x:Int}:x ∈ sorted l ↔ x ∈ l:=by unfold sorted;exact List.mem_mergeSort
structure LsI (p:Prg) (f:Fun) (S:St):Prop where
 s0:S.obj 0=some (.row 1 [[p.funsV]])
 s1:S.obj 1=some (.row 3 [func f])
 n:1 < S.next
theorem LsI.up {p:Prg} {f:Fun} {S S':St} (h:LsI p f S) (hu:∀q,q < 2→S'.obj q=S.obj q) (hn:S.next≤S'.next):LsI p f S':=⟨by rw [hu 0 (by omega)];exact h.s0,by rw [hu 1 (by omega)];exact h.s1,by have:=h.n;omega⟩
end Go.Proofs.YtchkknkjhiaooaaGreatDoor.Vm
namespace Go.Proofs.YtchkknkjhiaooaaGreatDoor.Vm
open Go Go.RowKit
variable {N:Nat} {g:Glob}
theorem join_self {n:Nat} {e:Env} (h:e.fit n):e.join e=e :=
 Env.le_anti (Env.join_fit h h) h (Env.join_le h h h (Env.le_refl e) (Env.le_refl e)) (Env.le_join_l h h)
theorem ref05_Flat {n:Nat} (e:Env) (i:Ins) (he:e.fit n) (hn:n < 2 ^ 20):Ret P g false 142 [.agg (envT e),encI i] (.agg (envT (i.flat e))):=by
 have hs:=he.small hn
 have hv:FSl valc 2 (encF valc 2 e.vals) e.vals:=encF_sl
 have ov:=fsl_one hv
 refine Ret.in c142 (by simp) ?_
 have hT:envT e=[.bool e.isSome,encF valc 2 e.vals]:=rfl
 have hp1:∀{S:St} {n:Nat},pict S [] (n + 2) (.agg [.bool e.isSome,encF valc 2 e.vals])=some (.agg (envT e)):=fun {S n}=>by
  simp [mapOpt,pict_stab hv.stab,envT]
 have hsol:AV.solid (.agg [.bool e.isSome,encF valc 2 e.vals])=true:=by simp [AV.solid,solids,hv.solid]
 rw [hT]
 generalize encF valc 2 e.vals=ev at *
 simp [k142,ov]
 refine (ref05_Def i).use (n:=9) (by rfl) rfl ?_
 simp
 refine bra_dec (fun h=>?_) (fun h=>?_)
 ·simp
  refine (ref04_JoinFlat e e hs hs).use (n:=9) (by simp [mapOpt,hp1]) (by simp [solids,hv.solid]) ?_
  rw [join_self he]
  simp [envT]
  exact ⟨fsl_one encF_sl,RK.envT (e:=e) (e':=i.flat e) (flat_same he h).symm⟩
 ·have hd:i.def=i.dst:=by
   unfold Ins.def at h ⊢
   split
   ·rfl
   ·rename_i h';rw [if_neg h'] at h;omega
  simp
  refine Dra.auto [] mix ?_ ?_
  ·kernel_rfl
  simp [classes]
  refine (ref05_value e i).b (n:=9) (by simp [mapOpt,hp1]) rfl ?_
  simp
  refine (ref04_SetFlat e i.dst (i.number e) hs).b (n:=9) (by simp [mapOpt,hp1]) (by simp [solids,hv.solid]) ?_
  simp [envT]
  exact ⟨fsl_one encF_sl,RK.envT (e:=e.set i.dst (i.number e)) (e':=i.flat e) (by unfold Ins.flat;rw [hd])⟩
theorem ref20_past {n:Nat} (e:Env) (l:List Ins) (v:AV) (hv:FSl insc 11 v l) (hl:l.length < 2 ^ 40) (he:e.fit n) (hn:n < 2 ^ 20):Ret P g false 86 [.agg (envT e),v] (.agg (envT (pastL e l))):=by
 refine Ret.in c86 (by simp) ?_
 have hone:∀e:Env,(encF valc 2 e.vals).one=true:=fun e=>fsl_one (encF_sl (e:=valc) (sz:=2) (l:=e.vals))
 have hpT:∀(e:Env) {S:St} {n:Nat},pict S [] (n + 2) (.agg [.bool e.isSome,encF valc 2 e.vals])=some (.agg (envT e)):=fun e {S n}=>by
  have h:FSl valc 2 (encF valc 2 e.vals) e.vals:=encF_sl
  simp [mapOpt,pict_stab h.stab,envT]
 have hsol:∀e:Env,(encF valc 2 e.vals).solid=true:=fun e=>by
  have h:FSl valc 2 (encF valc 2 e.vals) e.vals:=encF_sl
  exact h.solid
 rw [show envT e=[.bool e.isSome,encF valc 2 e.vals] from rfl]
 simp [k86,hone]
 refine W.whileI (fun (k:Nat) F S=>k≤l.length∧F 1=v∧F 2=.ptr 0 0 0∧F 4=.ptr 1 0 0∧F 5=.int .i64 k∧2≤S.next∧S.obj 0=some (.row 2 [[.bool (pastL e (l.take k)).isSome,encF valc 2 (pastL e (l.take k)).vals]])∧S.obj 1=some (.row 2 [[.bool false,.nilsl]])) (fun k=>l.length - k) ?_ 0 _ _ ?_
 ·rintro k F S ⟨hk,f1,f2,f4,f5,hn2,s0,s1⟩
  simp [f1,f5,hv.len]
  by_cases hlt:k < l.length
  ·have e4:=wrapS k (by omega)
   obtain ⟨x,hx⟩:∃ x,l[k]?=some x:=⟨_,List.getElem?_eq_getElem hlt⟩
   have hst:pastL e (l.take (k + 1))=x.flat (pastL e (l.take k)):=by
    unfold pastL
    rw [take_succ_get hx,List.foldl_append];rfl
   have hf:=pastL_fit (l:=l.take k) he
   simp [hlt]
   refine Dra.auto [] mix ?_ ?_
   ·kernel_rfl
   simp [classes,f1,f2,f5,s0,hv.idx hx]
   refine (ref05_Flat (pastL e (l.take k)) x hf hn).b (n:=9) (by simp [mapOpt,hpT]) (by simp [solids,hsol]) ?_
   rw [← hst]
   simp [envT,f1,f2,f4,f5,e4,s0,hone]
   exact ⟨k + 1,by omega,by omega,by omega,by omega,⟨rfl,rfl⟩,s1⟩
  ·have:k=l.length:=by omega
   subst this
   rw [List.take_length] at s0
   simp [f2,f4,s0,s1,hone]
   exact RK.envT rfl
 ·simp [pastL]
end Go.Proofs.YtchkknkjhiaooaaGreatDoor.Vm
