/- A part of the proof: Fd. -/
import Derived.KernelRfl
import Derived.Test.YtnhfofmhkfdpgaaGreatDoorQ14
set_option linter.unusedVariables false
set_option linter.unusedSimpArgs false
set_option linter.constructorNameAsVariable false
namespace Go.Proofs.YtnhfofmhkfdpgaaGreatDoor.Vm
set_option maxRecDepth 100000
open Go Go.RowKit
variable {N:Nat} {g:Glob}
theorem xFo (k:Int):kparts k=[100,99] \/ kparts k=[100,97] \/ kparts k=[100,97,98] \/ kparts k=[100] \/ kparts k=[100,102] \/ kparts k=[97] \/ kparts k=[]:=by
 simp only [kparts]
 repeat (split;simp)
 simp
theorem xId (i:Ins):Ret P g false 184 [encI i] (encI { i with id:=0,kind:=0 }):=by
 refine Ret.inF (by kernel_rfl) ?_
 conv=>arg 3;reduce
 simp
 exact RK.aggEq rfl (by simp [AV.stab])
def Ins.bare (i : Ins) : Ins :=
  { id := 0, kind := 0, dst := if khas i.kind 100 then 0 else i.dst, a := if khas i.kind 97 then 0 else i.a, b := if khas i.kind 98 then 0 else i.b, c := if khas i.kind 99 then 0 else i.c,
    f := if khas i.kind 102 then 0 else i.f, n := if khas i.kind 102 then 0 else i.n, x0 := if khas i.kind 102 ∧ 1 ≤ i.n then 0 else i.x0, x1 := if khas i.kind 102 ∧ 2 ≤ i.n then 0 else i.x1, x2 := if khas i.kind 102 ∧ 3 ≤ i.n then 0 else i.x2 }
theorem xMQ (i:Ins):Ret P (gl N) false 130 [encI i] (encI i.bare):=by
 refine Ret.in c130 (by simp) ?_
 have hd:=xBK (N:=N) i 100 (by simp)
 have ha:=xBK (N:=N) i 97 (by simp)
 have hb:=xBK (N:=N) i 98 (by simp)
 have hc:=xBK (N:=N) i 99 (by simp)
 have hf:=xBK (N:=N) i 102 (by simp)
 simp [k130]
 refine (xId i).use (n:=9) ?_ rfl ?_ <;> simp
 refine hd.use (n:=9) ?_ rfl ?_ <;> simp
 rcases xFo i.kind with h | h | h | h | h | h | h
 all_goals
  simp [khas,h] at ha hb hc hf ⊢
  refine ha.use (n:=9) ?_ rfl ?_ <;> simp
  refine hb.use (n:=9) ?_ rfl ?_ <;> simp
  refine hc.use (n:=9) ?_ rfl ?_ <;> simp
  refine hf.use (n:=9) ?_ rfl ?_ <;> simp
 ·exact RK.aggEq (by simp [Ins.bare,khas,h]) (by simp [AV.stab])
 ·exact RK.aggEq (by simp [Ins.bare,khas,h]) (by simp [AV.stab])
 ·exact RK.aggEq (by simp [Ins.bare,khas,h]) (by simp [AV.stab])
 ·exact RK.aggEq (by simp [Ins.bare,khas,h]) (by simp [AV.stab])
 ·have hn:i.n<=0 \/ i.n=1 \/ i.n=2 \/ 3<=i.n:=by omega
  rcases hn with hn | hn | hn | hn
  ·have e1:¬ (3:Int) < i.n:=by omega
   have e2:¬ (0:Int) < i.n:=by omega
   simp [e1,e2]
   exact RK.aggEq (by simp [Ins.bare,khas,h];omega) (by simp [AV.stab])
  ·simp [hn]
   exact RK.aggEq (by simp [Ins.bare,khas,h,hn]) (by simp [AV.stab])
  ·simp [hn]
   exact RK.aggEq (by simp [Ins.bare,khas,h,hn]) (by simp [AV.stab])
  ·have e1:(if 3 < i.n then (3:Int) else i.n)=3:=by split <;> omega
   simp [e1]
   exact RK.aggEq (by simp [Ins.bare,khas,h];omega) (by simp [AV.stab])
 ·exact RK.aggEq (by simp [Ins.bare,khas,h]) (by simp [AV.stab])
 ·exact RK.aggEq (by simp [Ins.bare,khas,h]) (by simp [AV.stab])
def minL (l:List Int):Int:=match l with
 | []=>0
 | x :: l=>l.foldl (fun x y=>if y < x then y else x) x
theorem xMR (x:Int) (l:List Int) (hl:l.length < 2 ^ 40):Ret P g false 129 [.fsl 1 (els intc (x :: l))] (.int .i64 (minL (x :: l))):=by
 refine Ret.in c129 (by simp) ?_
 have e0:¬ ((l.length:Int) + 1 < 1):=by omega
 simp [k129,e0,xAL,intc]
 refine W.whileI (fun (k:Nat) F S=>k<=l.length/\F 0=.fsl 1 (els intc (x :: l))/\F 3=.int .i64 (minL (x :: l.take k))/\F 4=.int .i64 (k + 1:Nat)) (fun k=>l.length - k) ?_ 0 _ _ ?_
 ·rintro k F S ⟨hk,h0,h3,h4⟩
  by_cases hlt:k < l.length
  ·obtain ⟨y,hy⟩:∃ y,l[k]?=some y:=⟨_,xgG hlt⟩
   have e1:(k:Int) + 1 < (l.length:Int) + 1:=by omega
   have e2:IntKind.i64.wrap ((k:Int) + 1 + 1)=((k + 1 + 1:Nat):Int):=by rw [xAa (by omega)];omega
   have e3:0<=(k:Int) + 1:=by omega
   have e4:((k:Int) + 1).toNat=k + 1:=by omega
   have e5:=xAi (fun x y:Int=>if y < x then y else x) x l k y hy
   simp [h0,h4,e1,h3,xAL,e3,e4,hy,intc,e2]
   exact ⟨k + 1,by omega,by omega,by simp only [minL];rw [e5];rfl,by omega⟩
  ·have:k=l.length:=by omega
   subst this
   simp [h0,h4,h3]
   exact RK.eq rfl rfl
 ·simp [minL,els,intc]
def Ins.zero:Ins:=⟨0,0,0,0,0,0,0,0,0,0,0⟩
def Ins.okP (i:Ins):Prop:=(0<=i.kind/\i.kind < 10)/\0<=i.id/\i.id < 96/\0<=i.n/\i.n<=3/\-2147483648<=i.c/\i.c<=2147483647/\0<=i.dst/\0<=i.a/\0<=i.b/\0<=i.f/\0<=i.x0/\0<=i.x1/\0<=i.x2/\i.bare=Ins.zero
instance (i:Ins):Decidable i.okP:=by unfold Ins.okP;exact inferInstance
def Ins.ok (i:Ins):Bool:=decide i.okP
theorem xGj (k:Int):sEq (bs (kname k)) (bs [])=decide (¬ (0<=k/\k < 10)):=by
 rw [xDF]
 by_cases hk:0<=k/\k < 10
 ·have:k=0 \/ k=1 \/ k=2 \/ k=3 \/ k=4 \/ k=5 \/ k=6 \/ k=7 \/ k=8 \/ k=9:=by omega
  rcases this with rfl | rfl | rfl | rfl | rfl | rfl | rfl | rfl | rfl | rfl <;> decide
 ·rw [kname,if_neg hk];simp [hk]
theorem xIe (a b:Int):0<=(if b < a then b else a) ↔ 0<=a/\0<=b:=by split <;> omega
theorem xJi (i j:Ins):eqCells (insc i) (insc j)=decide (i=j):=by
 cases i;cases j
 rw [Bool.eq_iff_iff];simp
theorem xEM (i:Ins):Ret P (gl N) false 86 [encI i] (.bool i.ok):=by
 refine Ret.in c86 (by simp) ?_
 simp [k86]
 refine (xDp i.kind).use (n:=9) ?_ rfl ?_ <;> simp
 have no:¬ i.okP->RK (.bool i.ok) (.bool false)=RK (.bool false) (.bool false):=fun h=>by rw [Ins.ok,decide_eq_false h]
 by_cases hk:0<=i.kind/\i.kind < 10
 ·have e:sEq (bs (kname i.kind)) (bs [])=false:=by rw [xGj];simp;omega
  simp [e]
  refine xAP (fun h1=>?_) (fun h1=>?_) <;> simp [h1]
  ·refine xAP (fun h2=>?_) (fun h2=>?_) <;> simp [h2]
   ·refine xAP (fun h3=>?_) (fun h3=>?_) <;> simp [h3]
    ·refine xAP (fun h4=>?_) (fun h4=>?_) <;> simp [h4]
     ·refine xAP (fun h5=>?_) (fun h5=>?_) <;> simp [h5]
      ·refine xAj (fun h6=>?_) (fun h6=>?_) <;> simp [h6]
       ·rw [no (by unfold Ins.okP;omega)];exact RK.stab rfl
       ·refine Dra.auto [] mix ?_ ?_
        ·kernel_rfl
        simp [classes]
        refine (xMR i.x0 [i.x1,i.x2] (by simp)).b (n:=9) ?_ rfl ?_ <;> simp [els,intc,minL]
        generalize hm:(if i.x2 < if i.x1 < i.x0 then i.x1 else i.x0 then i.x2 else if i.x1 < i.x0 then i.x1 else i.x0)=m
        have hm':0<=m ↔ 0<=i.x0/\0<=i.x1/\0<=i.x2:=by rw [<- hm];repeat (split) <;> omega
        generalize hq:(if m < if i.f < if i.b < if i.a < i.dst then i.a else i.dst then i.b else if i.a < i.dst then i.a else i.dst then i.f else if i.b < if i.a < i.dst then i.a else i.dst then i.b else if i.a < i.dst then i.a else i.dst then m else if i.f < if i.b < if i.a < i.dst then i.a else i.dst then i.b else if i.a < i.dst then i.a else i.dst then i.f else if i.b < if i.a < i.dst then i.a else i.dst then i.b else if i.a < i.dst then i.a else i.dst)=q
        have hq':0<=q ↔ 0<=i.dst/\0<=i.a/\0<=i.b/\0<=i.f/\0<=m:=by
         rw [<- hq,xIe,xIe,xIe,xIe];omega
        refine xCM (fun h7=>?_) (fun h7=>?_) <;> simp [h7]
        ·refine (xMQ i).use (n:=9) ?_ rfl ?_ <;> simp
         have hc:=xJi i.bare Ins.zero
         simp [Ins.zero] at hc
         refine RK.eq ?_ rfl
         rw [hc,Ins.ok]
         congr 1
         apply Bool.eq_iff_iff.2
         simp only [decide_eq_true_eq]
         unfold Ins.okP Ins.zero
         refine ⟨fun h=>⟨hk,by omega,by omega,by omega,by omega,by omega,by omega,by omega,by omega,by omega,by omega,by omega,by omega,by omega,of_decide_eq_true h⟩,fun h=>decide_eq_true h.2.2.2.2.2.2.2.2.2.2.2.2.2.2⟩
        ·rw [no (by unfold Ins.okP;omega)];exact RK.stab rfl
      ·rw [no (by unfold Ins.okP;omega)];exact RK.stab rfl
     ·rw [no (by unfold Ins.okP;omega)];exact RK.stab rfl
    ·rw [no (by unfold Ins.okP;omega)];exact RK.stab rfl
   ·rw [no (by unfold Ins.okP;omega)];exact RK.stab rfl
  ·rw [no (by unfold Ins.okP;omega)];exact RK.stab rfl
 ·have e:sEq (bs (kname i.kind)) (bs [])=true:=by rw [xGj];simp;omega
  simp [e]
  rw [no (by unfold Ins.okP;omega)];exact RK.stab rfl
def Ins.def (i:Ins):Int:=if khas i.kind 100 && i.ok then i.dst else -1
theorem xCw (i:Ins):Ret P (gl N) false 47 [encI i] (.int .i64 i.def):=by
 refine Ret.in c47 (by simp) ?_
 simp [k47]
 refine (xBK (N:=N) i 100 (by simp)).use (n:=9) ?_ rfl ?_ <;> simp
 cases h:khas i.kind 100
 ·simp
  exact RK.eq (by simp [Ins.def,h]) rfl
 ·simp
  refine (xEM i).use (n:=9) ?_ rfl ?_ <;> simp
  cases h2:i.ok
  ·simp
   exact RK.eq (by simp [Ins.def,h,h2]) rfl
  ·simp
   exact RK.eq (by simp [Ins.def,h,h2]) rfl
def indexL (l:List Int) (v:Int):Int:=match l.findIdx? (· == v) with
 | some k=>k
 | none=>-1
theorem xJj (l:List Int) (v:Int) (s:AV) (hs:FSl intc 1 s l) (hl:l.length < 2 ^ 40):Ret P g false 88 [s,.int .i64 v] (.int .i64 (indexL l v)):=by
 refine Ret.inF (by kernel_rfl) ?_
 conv=>arg 3;reduce
 simp [hs.len]
 refine W.whileI (fun (k:Nat) F S=>k<=l.length/\(∀j x,j < k->l[j]?=some x->x ≠ v)/\F 0=s/\F 1=.int .i64 v/\F 7=.int .i64 l.length/\F 8=.int .i64 k) (fun k=>l.length - k) ?_ 0 _ _ ?_
 ·rintro k F S ⟨hk,hno,h0,h1,h7,h8⟩
  by_cases hlt:k < l.length
  ·obtain ⟨x,hx⟩:∃ x,l[k]?=some x:=⟨_,xgG hlt⟩
   have e4:=wrapS k (by omega)
   simp [h7,h8,hlt]
   simp [h8,h0,h1,hs.idx hx,intc]
   refine xAj (fun he=>?_) (fun he=>?_) <;> simp [he]
   ·subst he
    refine RK.eq ?_ rfl
    have:l.findIdx? (· == v)=some k:=by
     rw [List.findIdx?_eq_some_iff_getElem]
     refine ⟨hlt,?_,?_⟩
     ·have:=xgS hx
      simp [this.2]
     ·intro j hj
      have:=hno j _ hj (xgG (by omega))
      simpa using this
    simp [indexL,this,h8]
   ·simp [h8,e4,h7,h0,h1]
    refine ⟨k + 1,by omega,by omega,?_,by omega⟩
    intro j y hj hy
    by_cases hjk:j=k
    ·subst hjk;rw [hx] at hy;cases hy;exact fun h=>he h.symm
    ·exact hno j y (by omega) hy
  ·have:k=l.length:=by omega
   subst this
   simp [h7,h8]
   refine RK.eq ?_ rfl
   have:l.findIdx? (· == v)=none:=by
    rw [List.findIdx?_eq_none_iff]
    intro x hx
    obtain ⟨j,hj,rfl⟩:=List.mem_iff_getElem.1 hx
    have:=hno j _ hj (xgG hj)
    simpa using this
   simp [indexL,this]
 ·simp
theorem xBl (l:List Int) (v:Int) (s:AV) (hs:FSl intc 1 s l) (hl:l.length < 2 ^ 40):Ret P g false 51 [s,.int .i64 v] (.bool (decide (v ∈ l))):=by
 refine Ret.inF (by kernel_rfl) ?_
 conv=>arg 3;reduce
 simp
 refine (xJj l v s hs hl).use (n:=9) ?_ rfl ?_ <;> simp [hs.pict]
 refine RK.eq ?_ rfl
 congr 1
 rw [decide_eq_decide]
 unfold indexL
 cases h:l.findIdx? (· == v) with
 | none =>
  rw [List.findIdx?_eq_none_iff] at h
  simp only [beq_eq_false_iff_ne] at h
  exact ⟨fun h'=>absurd h' (by simp),fun hm=>absurd rfl (h v hm)⟩
 | some k =>
  rw [List.findIdx?_eq_some_iff_getElem] at h
  obtain ⟨h1,h2,_⟩:=h
  simp only [beq_iff_eq] at h2
  exact ⟨fun _=>by rw [<- h2];exact List.getElem_mem _,fun _=>by simp⟩
def Ins.all (i:Ins):List Int:=(if khas i.kind 97 then [i.a] else []) ++ (if khas i.kind 98 then [i.b] else []) ++ [i.x0,i.x1,i.x2].take i.n.toNat
def addOnce (out:List Int) (v:Int):List Int:=if v ∈ out then out else out ++ [v]
def once (l:List Int):List Int:=l.foldl addOnce []
def Ins.uses (i:Ins):List Int:=if i.ok then once i.all else []
theorem xLP (l:List Int):∀out:List Int,(l.foldl addOnce out).length<=out.length + l.length:=by
 induction l with
 | nil=>intro out;simp
 | cons x l ih =>
  intro out
  have:=ih (addOnce out x)
  have h2:(addOnce out x).length<=out.length + 1:=by unfold addOnce;split <;> simp
  simp only [List.foldl_cons,List.length_cons];omega
theorem xFp (i:Ins):i.all.length<=5:=by
 unfold Ins.all
 have:([i.x0,i.x1,i.x2].take i.n.toNat).length<=3:=by simp;omega
 split <;> split <;> simp at this ⊢ <;> omega
theorem xMS (i:Ins):OwnL P (gl N) intc 1 252 [encI i] i.uses:=by
 refine OwnL.in c252 (by simp) ?_
 have ha:=xBK (N:=N) i 97 (by simp)
 have hb:=xBK (N:=N) i 98 (by simp)
 simp [k252]
 refine (xEM i).use (n:=9) ?_ rfl ?_ <;> simp
 cases hok:i.ok
 ·simp [Ins.uses,hok]
  exact Has.nil
 ·simp
  refine ha.use (n:=9) ?_ rfl ?_ <;> simp
  have hn:i.okP:=of_decide_eq_true hok
  have hn':i.n=0 \/ i.n=1 \/ i.n=2 \/ i.n=3:=by have:=hn.2.2.2;omega
  have hlen:=xFp i
  have hall:i.all=(if khas i.kind 97 then [i.a] else []) ++ (if khas i.kind 98 then [i.b] else []) ++ [i.x0,i.x1,i.x2].take i.n.toNat:=rfl
  have huses:i.uses=once i.all:=by simp [Ins.uses,hok]
  have hb':khas i.kind 98=true->khas i.kind 97=true:=by
   unfold khas;rcases xFo i.kind with h | h | h | h | h | h | h <;> rw [h] <;> decide
  rw [huses]
  have hroom:∀k,(once (i.all.take k)).length + 1<=room:=by
   intro k
   have:=xLP (i.all.take k) []
   have:(once (i.all.take k)).length<=(i.all.take k).length:=by simpa [once] using this
   have h2:(i.all.take k).length<=5:=by simp;omega
   simp [room];omega
  cases h97:khas i.kind 97 <;> simp [h97] at hb' hall ⊢
  ·refine hb.use (n:=9) ?_ rfl ?_ <;> simp [hb']
   simp [hb'] at hall
   rcases hn' with hn' | hn' | hn' | hn' <;> simp [hn'] at hall ⊢
   all_goals
    refine W.whileI (fun (k:Nat) F S=>k<=i.all.length/\Has intc 1 S (F 29) i.all/\F 30=.int .i64 i.all.length/\F 31=.int .i64 k/\Has intc 1 S (F 4) (once (i.all.take k))/\Sep (F 29) (F 4)/\Bel S (F 29)/\Bel S (F 4)) (fun k=>i.all.length - k) ?_ 0 _ _ ?_
    ·rintro k F S ⟨hk,h29,h30,h31,h4,hsep,hb29,hb4⟩
     by_cases hlt:k < i.all.length
     ·obtain ⟨x,hx⟩:∃ x,i.all[k]?=some x:=⟨_,xgG hlt⟩
      have e4:=wrapS k (by omega)
      obtain ⟨o,ho1,ho2,ho3⟩:=h29.idx hx
      have hst:once (i.all.take (k + 1))=addOnce (once (i.all.take k)) x:=xAi addOnce [] i.all k x hx
      simp [h30,h31,hlt]
      simp [h31,ho3,ho2,hx,intc]
      have hc:=xBl (g:=gl N) (once (i.all.take k)) x (encF intc 1 (once (i.all.take k))) xAl (by have:=hroom k;simp [room] at this;omega)
      refine hc.use (n:=9) ?_ rfl ?_ <;> simp [h4.pict (n:=7)]
      by_cases hm:x ∈ once (i.all.take k)
      ·simp [hm,h31,e4,h30]
       exact ⟨k + 1,by omega,by omega,h29,by omega,by rw [hst];simpa [addOnce,hm] using h4,hsep,hb29,hb4⟩
      ·simp [hm]
       have h4':Has intc 1 (S.new (.row 1 [intc x])) (F 4) (once (i.all.take k)):=h4.new hb4
       refine xA7 (e:=intc) (x:=x) h4' rfl (hroom k) ?_
       intro S' hS hnx hoth
       have hnx:S'.next=S.next + 2:=hnx
       simp [h31,e4,h30]
       refine ⟨k + 1,by omega,by omega,?_,by omega,?_,?_,hb29.mono (by omega),?_⟩
       ·refine h29.keep fun q ⟨len,hq⟩=>?_
        have hlt':=hb29 _ _ _ hq
        rw [hoth q (by show q < S.next + 1;omega) (fun len' h=>hsep _ _ _ _ _ hq h),xA5 (by omega)]
       ·rw [hst];simpa [addOnce,hm] using hS
       ·exact Sep.fresh (S:=S.new (.row 1 [intc x])) (hb29.mono (Nat.le_succ _))
       ·exact Bel.sl (by show S.next + 1 < _;omega)
     ·have:k=i.all.length:=by omega
      subst this
      simp [h30,h31]
      simpa using h4
    ·simp [hall,Has,once,Sep,Bel,els,intc]
  ·refine hb.use (n:=9) ?_ rfl ?_ <;> simp
   cases h98:khas i.kind 98 <;> simp [h98] at hall ⊢
   all_goals (rcases hn' with hn' | hn' | hn' | hn' <;> simp [hn'] at hall ⊢)
   all_goals
    refine W.whileI (fun (k:Nat) F S=>k<=i.all.length/\Has intc 1 S (F 29) i.all/\F 30=.int .i64 i.all.length/\F 31=.int .i64 k/\Has intc 1 S (F 4) (once (i.all.take k))/\Sep (F 29) (F 4)/\Bel S (F 29)/\Bel S (F 4)) (fun k=>i.all.length - k) ?_ 0 _ _ ?_
    ·rintro k F S ⟨hk,h29,h30,h31,h4,hsep,hb29,hb4⟩
     by_cases hlt:k < i.all.length
     ·obtain ⟨x,hx⟩:∃ x,i.all[k]?=some x:=⟨_,xgG hlt⟩
      have e4:=wrapS k (by omega)
      obtain ⟨o,ho1,ho2,ho3⟩:=h29.idx hx
      have hst:once (i.all.take (k + 1))=addOnce (once (i.all.take k)) x:=xAi addOnce [] i.all k x hx
      simp [h30,h31,hlt]
      simp [h31,ho3,ho2,hx,intc]
      have hc:=xBl (g:=gl N) (once (i.all.take k)) x (encF intc 1 (once (i.all.take k))) xAl (by have:=hroom k;simp [room] at this;omega)
      refine hc.use (n:=9) ?_ rfl ?_ <;> simp [h4.pict (n:=7)]
      by_cases hm:x ∈ once (i.all.take k)
      ·simp [hm,h31,e4,h30]
       exact ⟨k + 1,by omega,by omega,h29,by omega,by rw [hst];simpa [addOnce,hm] using h4,hsep,hb29,hb4⟩
      ·simp [hm]
       have h4':Has intc 1 (S.new (.row 1 [intc x])) (F 4) (once (i.all.take k)):=h4.new hb4
       refine xA7 (e:=intc) (x:=x) h4' rfl (hroom k) ?_
       intro S' hS hnx hoth
       have hnx:S'.next=S.next + 2:=hnx
       simp [h31,e4,h30]
       refine ⟨k + 1,by omega,by omega,?_,by omega,?_,?_,hb29.mono (by omega),?_⟩
       ·refine h29.keep fun q ⟨len,hq⟩=>?_
        have hlt':=hb29 _ _ _ hq
        rw [hoth q (by show q < S.next + 1;omega) (fun len' h=>hsep _ _ _ _ _ hq h),xA5 (by omega)]
       ·rw [hst];simpa [addOnce,hm] using hS
       ·exact Sep.fresh (S:=S.new (.row 1 [intc x])) (hb29.mono (Nat.le_succ _))
       ·exact Bel.sl (by show S.next + 1 < _;omega)
     ·have:k=i.all.length:=by omega
      subst this
      simp [h30,h31]
      simpa using h4
    ·simp [hall,Has,once,Sep,Bel,els,intc]
end Go.Proofs.YtnhfofmhkfdpgaaGreatDoor.Vm
