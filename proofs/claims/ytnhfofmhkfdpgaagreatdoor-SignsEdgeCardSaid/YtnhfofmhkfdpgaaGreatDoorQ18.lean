/- A part of the proof: Fh Fi Fj Fk Fl Fm Fn. -/
import Derived.KernelRfl
import Derived.Test.YtnhfofmhkfdpgaaGreatDoorQ17
set_option linter.unusedVariables false
set_option linter.unusedSimpArgs false
set_option linter.constructorNameAsVariable false
namespace Go.Proofs.YtnhfofmhkfdpgaaGreatDoor.Vm
set_option maxRecDepth 100000
open Go Go.RowKit
variable {N:Nat} {g:Glob}
def addNew (out:List Int) (x:Int):List Int:=if out.getLast?=some x then out else out ++ [x]
def compactL (l:List Int):List Int:=l.foldl addNew []
theorem xBL {l:List Int} {k:Nat} {x:Int} (hx:l[k]?=some x):compactL (l.take (k + 1))=addNew (compactL (l.take k)) x:=xAi addNew [] l k x hx
theorem xAe {α:Type} {l:List α} {k:Nat} {x:α} (hx:l[k]?=some x):l.take (k + 1)=l.take k ++ [x]:=by
 rw [List.take_add_one,hx];rfl
theorem xFq (l:List Int):∀k,k<=l.length->(compactL (l.take k)).getLast?=(l.take k).getLast?
 | 0,_=>by simp [compactL]
 | k + 1,hk=>by
  obtain ⟨x,hx⟩:∃ x,l[k]?=some x:=⟨_,xgG (by omega)⟩
  rw [xBL hx,xAe hx]
  unfold addNew
  split
  ·rename_i h;rw [h];simp
  ·simp
theorem xGk {l:List Int} {k:Nat} {y:Int} (hy:l[k]?=some y):(l.take (k + 1)).getLast?=some y:=by
 rw [xAe hy];simp
theorem xDP (l:List Int):∀k,(compactL (l.take k)).length<=k
 | 0=>by simp [compactL]
 | k + 1=>by
  have ih:=xDP l k
  cases hx:l[k]? with
  | none =>
   have:l.take (k + 1)=l.take k:=by rw [List.take_add_one,hx];simp
   rw [this];omega
  | some x =>
   rw [xBL hx]
   unfold addNew
   split <;> simp <;> omega
theorem xFB (x:Int) (l:List Int):∀out,x ∈ l.foldl addNew out ↔ x ∈ out \/ x ∈ l:=by
 induction l with
 | nil=>intro out;simp
 | cons y l ih =>
  intro out
  rw [List.foldl_cons,ih]
  have:x ∈ addNew out y ↔ x ∈ out \/ x=y:=by
   unfold addNew
   split
   ·rename_i h
    have:=List.mem_of_getLast? h
    constructor
    ·exact .inl
    ·rintro (h | rfl) <;> assumption
   ·simp
  rw [this];simp [or_assoc]
theorem xDQ (l:List Int) (x:Int):x ∈ compactL l ↔ x ∈ l:=by
 rw [compactL,xFB];simp
theorem xAd {sz o off n k:Nat} (h:k < n):pk (.indexAddr sz) [.sl sz o off n,.int .i64 (k:Int)]=some (.ptr o (off + k) 0):=by
 rw [xEa,if_pos ⟨by omega,by omega⟩];simp
theorem xEN {sz o off n k:Nat} (h:k<=n):pk (.slice sz true false false) [.sl sz o off n,.int .i64 (k:Int)]=some (.sl sz o (off + k) (n - k)):=by
 have h1:(k:Int)<=(n:Int):=by omega
 simp [bnds,h]
theorem xJl {sz o off n k:Nat} (h:k<=n):pk (.slice sz false true false) [.sl sz o off n,.int .i64 (k:Int)]=some (.sl sz o off k):=by
 have h1:(k:Int)<=(n:Int):=by omega
 simp [bnds,h]
theorem xAk {S:St} {o:Nat} {x y:AObj}:(S.set o x).set o y=S.set o y:=by
 unfold St.set
 congr 1
 funext q
 show (if q=o then some y else if q=o then some x else S.obj q)=_
 split <;> rfl
theorem xCh {l:List Int} {o:Nat} {S:St} {K:AV->St->Prop} (ho:S.obj o=some (.row 1 (els intc l))) (hl:l.length < 2 ^ 40)
  (hk:K (.sl 1 o 0 (compactL l).length) (S.set o (.row 1 (els intc (compactL l ++ List.replicate (l.length - (compactL l).length) 0))))):Cal P g 97 [.sl 1 o 0 l.length] S K:=by
 refine Cal.inF (by kernel_rfl) ?_
 have same:compactL l=l->K (.sl 1 o 0 l.length) S:=by
  intro h
  rw [h] at hk
  simp at hk
  rwa [St.set_same ho] at hk
 conv=>arg 3;reduce
 simp
 refine xAj (fun h2=>?_) (fun h2=>?_) <;> simp [h2]
 ·refine same ?_
  match l,h2 with
  | [],_=>rfl
  | [x],_=>rfl
  | x :: y :: l,h=>simp at h;omega
 refine W.whileI (fun (k:Nat) F S'=>1<=k/\k<=l.length/\compactL (l.take k)=l.take k/\F 0=.sl 1 o 0 l.length/\F 3=.int .i64 k/\S'=S) (fun k=>l.length - k) ?_ 1 _ _ ?_
 ·rintro k F S' ⟨hk1,hkn,hpre,h0,h3,rfl⟩
  by_cases hlt:k < l.length
  ·obtain ⟨x,hx⟩:∃ x,l[k]?=some x:=⟨_,xgG hlt⟩
   obtain ⟨y,hy⟩:∃ y,l[k - 1]?=some y:=⟨_,xgG (by omega)⟩
   have e4:=wrapS k (by omega)
   have e5:IntKind.i64.wrap ((k:Int) - 1)=((k - 1:Nat):Int):=by rw [xAa (by omega)];omega
   have e6:k - 1 < l.length:=by omega
   simp [h0,h3,hlt]
   refine Dra.auto [] mix ?_ ?_
   ·kernel_rfl
   simp [classes,h0,h3,e5,xAd hlt,xAd e6]
   simp [ho,hx,hy,intc,xAd e6]
   refine xAj (fun he=>?_) (fun he=>?_) <;> simp [he]
   ·subst he
    simp [h0,h3,xEN hkn]
    refine W.whileI (fun (j:Nat) F S=>1<=j/\k + j<=l.length/\(∃ c:List Int,S=S'.set o (.row 1 (els intc c))/\c.length=l.length/\c.take (compactL (l.take (k + j))).length=compactL (l.take (k + j))/\c.drop (k + j - 1)=l.drop (k + j - 1))/\(compactL (l.take (k + j))).length + 1<=k + j/\F 0=.sl 1 o 0 l.length/\F 3=.int .i64 (compactL (l.take (k + j))).length/\F 4=.sl 1 o k (l.length - k)/\F 5=.int .i64 j) (fun j=>l.length - j) ?_ 1 _ _ ?_
    ·rintro j F S ⟨hj1,hjn,⟨c,rfl,hcl,hct,hcd⟩,hlen,h0,h3,h4,h5⟩
     by_cases hj:k + j < l.length
     ·obtain ⟨z,hz⟩:∃ z,l[k + j]?=some z:=⟨_,xgG hj⟩
      obtain ⟨u,hu⟩:∃ u,l[k + j - 1]?=some u:=⟨_,xgG (by omega)⟩
      have hcz:c[k + j]?=some z:=by
       have:=congrArg (fun d=>d[1]?) hcd
       simp only [List.getElem?_drop] at this
       rw [show k + j - 1 + 1=k + j by omega] at this
       rw [this,hz]
      have hcu:c[k + j - 1]?=some u:=by
       have:=congrArg (fun d=>d[0]?) hcd
       simp only [List.getElem?_drop,Nat.add_zero] at this
       rw [this,hu]
      have e7:IntKind.i64.wrap ((j:Int) - 1)=((j - 1:Nat):Int):=by rw [xAa (by omega)];omega
      have e8:=wrapS j (by omega)
      have e9:j < l.length - k:=by omega
      have e10:j - 1 < l.length - k:=by omega
      have e11:k + (j - 1)=k + j - 1:=by omega
      have hlast:(compactL (l.take (k + j))).getLast?=some u:=by
       rw [xFq l _ (by omega)]
       have:k + j=k + j - 1 + 1:=by omega
       rw [this,xGk hu]
      simp [h4,h5,e9]
      refine Dra.auto [] mix ?_ ?_
      ·kernel_rfl
      simp [classes,h4,h5,e7,xAd e9,xAd e10,e11]
      simp [hcz,hcu,intc,xAd e10,e11]
      have hst:=xBL hz
      by_cases hzu:z=u
      ·simp [hzu,h0,h3,h4,h5,e8]
       rw [addNew,hlast,hzu,if_pos rfl] at hst
       refine ⟨j + 1,by omega,by omega,by omega,⟨c,rfl,hcl,?_,?_⟩,?_,?_,by omega⟩
       ·rw [show k + (j + 1)=k + j + 1 by omega,hst];exact hct
       ·have:=congrArg (fun d=>d.drop 1) hcd
        simp only [List.drop_drop] at this
        rw [show k + j - 1 + 1=k + (j + 1) - 1 by omega] at this
        exact this
       ·rw [show k + (j + 1)=k + j + 1 by omega,hst];omega
       ·rw [show k + (j + 1)=k + j + 1 by omega,hst]
      ·rw [addNew,hlast,if_neg (fun h=>hzu (by cases h;rfl))] at hst
       generalize hm:compactL (l.take (k + j))=m at *
       have e12:IntKind.i64.wrap ((m.length:Int) + 1)=((m.length + 1:Nat):Int):=by rw [xAa (by omega)];omega
       have e13:m.length < l.length:=by omega
       simp [hzu,h0,h3,h4,h5,xAd e9]
       obtain ⟨y',hy'⟩:∃ y,c[m.length]?=some y:=⟨_,xgG (by omega)⟩
       simp [hcz,hy',intc,xAd e13,e12,e8]
       refine ⟨j + 1,by omega,by omega,by omega,⟨c.set m.length z,?_,by simpa using hcl,?_,?_⟩,?_,?_,by omega⟩
       ·rw [xAk,<- xAg];rfl
       ·rw [show k + (j + 1)=k + j + 1 by omega,hst]
        rw [List.length_append,List.length_singleton,xAe (x:=z) (by rw [List.getElem?_set_self (by omega)]),List.take_set_of_le (by omega),hct]
       ·have:=congrArg (fun d=>d.drop 1) hcd
        simp only [List.drop_drop] at this
        rw [show k + j - 1 + 1=k + (j + 1) - 1 by omega] at this
        rw [List.drop_set_of_lt (by omega)]
        exact this
       ·rw [show k + (j + 1)=k + j + 1 by omega,hst,List.length_append,List.length_singleton];omega
       ·rw [show k + (j + 1)=k + j + 1 by omega,hst,List.length_append,List.length_singleton];omega
     ·have hj:k + j=l.length:=by omega
      simp [h4,h5,show ¬ j < l.length - k by omega]
      rw [hj,List.take_length] at hct hlen h3
      have e14:(compactL l).length<=l.length:=by omega
      simp [h0,h3,xEN e14,e14]
      refine ⟨by omega,?_⟩
      rw [xAk,xAu,hct,List.drop_of_length_le (by simp;omega),List.append_nil]
      have e15:List.replicate (l.length - (compactL l).length) [AV.int IntKind.i64 0]=els intc (List.replicate (l.length - (compactL l).length) 0):=xAh (e:=intc) (x:=0)
      rw [e15,xA2]
      exact hk
    ·have hst:=xBL hx
     have hlast:(compactL (l.take k)).getLast?=some x:=by
      rw [xFq l _ (by omega)]
      have:k=k - 1 + 1:=by omega
      rw [this,xGk hy]
     rw [addNew,hlast,if_pos rfl,hpre] at hst
     have hlk:(l.take k).length=k:=by simp;omega
     simp
     refine ⟨hlt,⟨l,(St.set_same ho).symm,rfl,?_,rfl⟩,?_,h0,?_⟩
     ·rw [hst,hlk]
     ·rw [hst,hlk];exact Nat.le_refl k
     ·rw [hst,hlk];exact h3
   ·simp [h3,e4,h0]
    refine ⟨k + 1,by omega,by omega,by omega,?_,by omega⟩
    rw [xBL hx,hpre,xAe hx,addNew,if_neg]
    have:k=k - 1 + 1:=by omega
    rw [this,xGk hy]
    simpa using fun h=>he h.symm
  ·have:k=l.length:=by omega
   subst this
   simp [h0,h3]
   exact same (by simpa using hpre)
 ·simp
  match l,h2 with
  | x :: l,_=>simp [compactL,addNew]
  | [],h=>simp at h
def Ins.vars (i:Ins):List Int:=compactL (sorted (i.uses ++ if i.def=-1 then [] else [i.def]))
theorem xFJ (i:Ins) (x:Int):x ∈ i.vars ↔ x ∈ i.uses \/ (i.def ≠ -1/\x=i.def):=by
 rw [Ins.vars,xDQ,sorted,List.mem_mergeSort,List.mem_append]
 split <;> simp [*]
theorem xLQ (i:Ins):i.uses.length<=5:=by
 unfold Ins.uses
 split
 ·have h1:=xLP i.all []
  have h2:=xFp i
  have:(once i.all).length<=[].length + i.all.length:=h1
  simp at this;omega
 ·simp
theorem xCi {S:St} {K:AV->St->Prop} (hk:K .nilsl S):Cal P g 97 [.nilsl] S K:=by
 refine Cal.inF (by kernel_rfl) ?_
 conv=>arg 3;reduce
 simp
 exact hk
theorem xMT {S:St} {o:Nat} {m z:List Int} (ho:S.obj o=some (.row 1 (els intc (m ++ z)))):Vm.elems S (.sl 1 o 0 m.length)=some (els intc m):=by
 simp only [xGf,ho,xJg,Nat.zero_add,List.drop_zero,xBf]
 by_cases hm:m=[]
 ·subst hm;simp [els]
 ·rw [if_neg (by simpa using hm),if_pos (by simp),xAu,List.take_left]
theorem xOG {S:St} {o n:Nat} {m z:List Int} (ho:S.obj o=some (.row 1 (els intc (m ++ z)))) (hm:m ≠ []):Vm.pict S [] (n + 2) (.sl 1 o 0 m.length)=some (encF intc 1 m):=by
 rw [xEJ,xMT ho];simp [encF,hm]
theorem xMU {l:List Int} (h:l ≠ []):compactL l ≠ []:=by
 obtain ⟨x,hx⟩:=List.exists_mem_of_ne_nil l h
 exact List.ne_nil_of_mem ((xDQ l x).2 hx)
theorem xOH {l:List Int} (h:l ≠ []):sorted l ≠ []:=fun h'=>by
 have hs:=xAH l
 rw [h'] at hs
 exact h (List.length_eq_zero_iff.1 hs.symm)
theorem xGl {l:List Int} {o:Nat} {S:St} {K:AV->St->Prop} (ho:S.obj o=some (.row 1 (els intc l))) (hne:l ≠ []) (hl:l.length < 2 ^ 40)
  (hk:∀S',S'.obj o=some (.row 1 (els intc (sorted l)))->K (.tuple []) S'):Cal P g 96 [.sl 1 o 0 l.length] S K :=
 xBm ho hne hl (hk _ (by simp))
theorem xDa {l:List Int} {o:Nat} {S:St} {K:AV->St->Prop} (ho:S.obj o=some (.row 1 (els intc (sorted l)))) (hne:l ≠ []) (hl:l.length < 2 ^ 40)
  (hk:∀v S',Vm.pict S' [] 9 v=some (encF intc 1 (compactL (sorted l)))->K v S'):Cal P g 97 [.sl 1 o 0 l.length] S K:=by
 rw [<- xAH l]
 exact xCh ho (by rw [xAH];exact hl) (hk _ _ (xOG (n:=7) (by simp;rfl) (xMU (xOH hne))))
theorem xMV (i:Ins):Ret P (gl N) false 217 [encI i] (encF intc 1 i.vars):=by
 refine Ret.inF (by kernel_rfl) ?_
 conv=>arg 3;reduce
 simp
 refine (xMS i).use (n:=9) ?_ ?_ <;> simp
 intro v S hv hS
 have hu:=xLQ i
 have hvars:i.vars=compactL (sorted (i.uses ++ if i.def=-1 then [] else [i.def])):=rfl
 rcases hS with ⟨hl,rfl,rfl⟩ | ⟨rfl,rfl⟩
 ·refine (xCw i).use (n:=9) ?_ rfl ?_ <;> simp
  rw [hl] at hvars
  by_cases hd:i.def=-1
  ·simp [hd]
   refine xC9 ?_
   simp
   refine xCi ?_
   simp
   simp [hd] at hvars
   exact RK.eq (by rw [hvars];simp [sorted,compactL,encF]) (by rw [hvars];simp [sorted,compactL,encF,AV.stab])
  ·simp [hd] at hvars ⊢
   refine xGl (l:=[i.def]) (by simp;rfl) (by simp) (by simp) ?_
   intro S h1
   simp
   refine xDa (l:=[i.def]) h1 (by simp) (by simp) ?_
   intro v S h2
   simp
   exact ⟨9,by rw [hvars];exact h2⟩
 ·rcases hv with ⟨h,_⟩ | ⟨o,h,ho,hne⟩
  ·cases h
  cases h
  refine (xCw i).use (n:=9) ?_ rfl ?_ <;> simp
  by_cases hd:i.def=-1
  ·simp [hd] at hvars ⊢
   refine xGl (l:=i.uses) (by simp) hne (by omega) ?_
   intro S h1
   simp
   refine xDa (l:=i.uses) h1 hne (by omega) ?_
   intro v S h2
   simp
   exact ⟨9,by rw [hvars];exact h2⟩
  ·have hr0:¬ room=0:=by simp [room]
   have hr1:i.uses.length + 1<=room:=by simp [room];omega
   simp [hd] at hvars
   simp [hd,hr0,hr1]
   have hlen:i.uses.length + 1=(i.uses ++ [i.def]).length:=by simp
   rw [hlen]
   refine xGl (l:=i.uses ++ [i.def]) (by simp [<- xA2,xAu];rfl) (by simp) (by simp;omega) ?_
   intro S h1
   simp
   rw [hlen]
   refine xDa (l:=i.uses ++ [i.def]) h1 (by simp) (by simp;omega) ?_
   intro v S h2
   simp
   exact ⟨9,by rw [hvars];exact h2⟩
end Go.Proofs.YtnhfofmhkfdpgaaGreatDoor.Vm
namespace Go.Proofs.YtnhfofmhkfdpgaaGreatDoor.Vm
open Go Go.RowKit
variable {N:Nat} {g:Glob}
theorem BSet.get_mem (s:BSet) (j:Nat):s.mem j=(s.ws.getD (j / 64) 0).testBit (j % 64):=rfl
theorem BSet.mem_top {s:BSet} (h:s.OK) {j:Nat} (hj:s.n<=j):s.mem j=false:=by
 rw [BSet.get_mem,List.getD_eq_getElem?_getD]
 have hl:=h.len
 simp only [nw] at hl
 cases e:s.ws[j / 64]? with
 | none=>simp
 | some w =>
  have h1:=(xgS e).1
  rcases h.top with ht | ht
  ·omega
  ·have hlast:s.ws.getLast?=some w:=by
    rw [List.getLast?_eq_getElem?,<- e]
    congr 1;omega
   have:=ht w hlast
   simp only [Option.getD_some]
   refine Nat.testBit_lt_two_pow (Nat.lt_of_lt_of_le this (Nat.pow_le_pow_right (by omega) (by omega)))
theorem BSet.ok_of {s:BSet} (hn:s.n<=1024) (hlen:s.ws.length=nw s.n) (hlt:∀w ∈ s.ws,w < 2 ^ 64) (hm:∀j,s.n<=j->s.mem j=false):s.OK:=by
 refine ⟨hn,hlen,hlt,?_⟩
 by_cases h0:s.n % 64=0
 ·exact .inl h0
 refine .inr fun w hw=>Nat.lt_pow_two_of_testBit w fun i hi=>?_
 by_cases h64:i < 64
 ·have:=hm (64 * (s.ws.length - 1) + i) (by simp only [nw] at hlen;omega)
  rw [BSet.get_mem] at this
  rw [List.getLast?_eq_getElem?] at hw
  have e1:(64 * (s.ws.length - 1) + i) / 64=s.ws.length - 1:=by omega
  have e2:(64 * (s.ws.length - 1) + i) % 64=i:=by omega
  rw [e1,e2,List.getD_eq_getElem?_getD,hw] at this
  exact this
 ·exact Nat.testBit_lt_two_pow (Nat.lt_of_lt_of_le (hlt w (List.mem_of_getLast? hw)) (Nat.pow_le_pow_right (by omega) (by omega)))
theorem BSet.ext {a b:BSet} (ha:a.OK) (hb:b.OK) (hn:a.n=b.n) (hm:∀j,j < a.n->a.mem j=b.mem j):a=b:=by
 have hw:a.ws=b.ws:=by
  apply List.ext_getElem?
  intro k
  by_cases hk:k < a.ws.length
  ·have hkb:k < b.ws.length:=by rw [hb.len,<- hn,<- ha.len];exact hk
   rw [xgG hk,xgG hkb]
   congr 1
   apply Nat.eq_of_testBit_eq
   intro i
   by_cases h64:i < 64
   ·have e1:(64 * k + i) / 64=k:=by omega
    have e2:(64 * k + i) % 64=i:=by omega
    have:a.mem (64 * k + i)=b.mem (64 * k + i):=by
     by_cases h:64 * k + i < a.n
     ·exact hm _ h
     ·rw [BSet.mem_top ha (by omega),BSet.mem_top hb (by omega)]
    rw [BSet.get_mem,BSet.get_mem,e1,e2,List.getD_eq_getElem?_getD,List.getD_eq_getElem?_getD,xgG hk,xgG hkb] at this
    exact this
   ·have h1:a.ws[k] < 2 ^ i:=Nat.lt_of_lt_of_le (ha.lt _ (List.getElem_mem hk)) (Nat.pow_le_pow_right (by omega) (by omega))
    have h2:b.ws[k] < 2 ^ i:=Nat.lt_of_lt_of_le (hb.lt _ (List.getElem_mem hkb)) (Nat.pow_le_pow_right (by omega) (by omega))
    rw [Nat.testBit_lt_two_pow h1,Nat.testBit_lt_two_pow h2]
  ·have hkb:¬ k < b.ws.length:=by rw [hb.len,<- hn,<- ha.len];exact hk
   rw [List.getElem?_eq_none (by omega),List.getElem?_eq_none (by omega)]
 cases a;cases b;simp at hn hw;simp [hn,hw]
theorem BSet.mem_at (s:BSet) (i j:Nat) (f:Nat->Nat) (hi:i / 64 < s.ws.length):(s.at i f).mem j=if j / 64=i / 64 then (f (s.ws.getD (i / 64) 0)).testBit (j % 64) else s.mem j:=by
 simp only [BSet.get_mem,BSet.at,wIx,List.getD_eq_getElem?_getD,List.getElem?_set]
 by_cases h:j / 64=i / 64
 ·rw [if_pos h.symm,if_pos hi,if_pos h];rfl
 ·rw [if_neg (fun e=>h e.symm),if_neg h]
theorem BSet.isB_iff {s:BSet} {i:Int}:s.isB i=true ↔ 0<=i/\i < s.n:=by simp [BSet.isB]
theorem BSet.word_in {s:BSet} (h:s.OK) {i:Nat} (hi:i < s.n):i / 64 < s.ws.length:=by rw [h.len,nw];omega
theorem BSet.mem_with {s:BSet} (h:s.OK) (i:Int) (j:Nat):(s.with i).mem j=(s.mem j || (s.isB i && decide ((j:Int)=i))):=by
 unfold BSet.with
 by_cases hb:s.isB i=true
 ·obtain ⟨h0,h1⟩:=BSet.isB_iff.1 hb
  rw [if_pos hb,BSet.mem_at _ _ _ _ (BSet.word_in h (by omega)),hb]
  by_cases hj:j / 64=i.toNat / 64
  ·rw [if_pos hj,Nat.testBit_or,xFI,BSet.get_mem,hj,Bool.true_and]
   congr 1
   rw [decide_eq_decide];omega
  ·rw [if_neg hj]
   have:¬ (j:Int)=i:=by omega
   simp [this]
 ·simp at hb;simp [hb]
theorem BSet.mem_without {s:BSet} (h:s.OK) (i:Int) (j:Nat):(s.without i).mem j=(s.mem j && !(s.isB i && decide ((j:Int)=i))):=by
 unfold BSet.without
 by_cases hb:s.isB i=true
 ·obtain ⟨h0,h1⟩:=BSet.isB_iff.1 hb
  have hw:=BSet.word_in h (i:=i.toNat) (by omega)
  rw [if_pos hb,BSet.mem_at _ _ _ _ hw,hb]
  by_cases hj:j / 64=i.toNat / 64
  ·have hlt:s.ws.getD (i.toNat / 64) 0 < 2 ^ 64:=by
    rw [List.getD_eq_getElem?_getD,xgG hw];exact h.lt _ (List.getElem_mem hw)
   rw [if_pos hj,xIc _ _ _ hlt,xFI,BSet.get_mem,hj,Bool.true_and]
   congr 2
   rw [decide_eq_decide];omega
  ·rw [if_neg hj]
   have:¬ (j:Int)=i:=by omega
   simp [this]
 ·simp at hb;simp [hb]
theorem BSet.new_mem (n j:Nat):(BSet.new n).mem j=false:=by
 rw [BSet.get_mem,BSet.new,List.getD_eq_getElem?_getD,List.getElem?_replicate]
 split <;> simp
theorem BSet.new_ok {n:Nat} (h:n<=1024):(BSet.new n).OK:=BSet.ok_of h (by simp [BSet.new]) (by simp [BSet.new]) fun j _=>BSet.new_mem n j
theorem BSet.with_ok {s:BSet} (h:s.OK) (i:Int):(s.with i).OK:=by
 refine BSet.ok_of (by rw [BSet.with_n];exact h.n) (by rw [BSet.with_len,BSet.with_n];exact h.len) (BSet.with_lt h.lt) fun j hj=>?_
 rw [BSet.with_n] at hj
 rw [BSet.mem_with h,BSet.mem_top h hj,Bool.false_or]
 cases hb:s.isB i
 ·rfl
 ·have:=BSet.isB_iff.1 hb
  simp;omega
theorem BSet.without_n (s:BSet) (i:Int):(s.without i).n=s.n:=by unfold BSet.without;split <;> rfl
theorem BSet.without_ok {s:BSet} (h:s.OK) (i:Int):(s.without i).OK:=by
 refine BSet.ok_of (by rw [BSet.without_n];exact h.n) ?_ ?_ fun j hj=>?_
 ·rw [BSet.without_n,<- h.len];unfold BSet.without;split <;> simp [BSet.at]
 ·unfold BSet.without
  split
  ·intro w hw
   simp only [BSet.at] at hw
   rcases List.mem_or_eq_of_mem_set hw with hw | rfl
   ·exact h.lt w hw
   ·exact xKM _ _
  ·exact h.lt
 ·rw [BSet.without_n] at hj
  rw [BSet.mem_without h,BSet.mem_top h hj,Bool.false_and]
theorem BSet.ofL_n (n:Nat) (l:List Int):(BSet.ofL n l).n=n:=(BSet.fold_n l (BSet.new n)).1
theorem BSet.fold_ok (l:List Int):∀s:BSet,s.OK->(l.foldl BSet.with s).OK/\∀j,(l.foldl BSet.with s).mem j=(s.mem j || (decide (j < s.n) && decide ((j:Int) ∈ l))):=by
 induction l with
 | nil=>intro s h;exact ⟨h,fun j=>by simp⟩
 | cons x l ih =>
  intro s h
  obtain ⟨h1,h2⟩:=ih (s.with x) (BSet.with_ok h x)
  refine ⟨h1,fun j=>?_⟩
  rw [List.foldl_cons,h2,BSet.mem_with h,BSet.with_n,Bool.eq_iff_iff]
  simp only [Bool.or_eq_true,Bool.and_eq_true,decide_eq_true_eq,BSet.isB_iff,List.mem_cons]
  constructor
  ·rintro ((h | ⟨h3,h4⟩) | ⟨h3,h4⟩)
   ·exact .inl h
   ·exact .inr ⟨by omega,.inl h4⟩
   ·exact .inr ⟨h3,.inr h4⟩
  ·rintro (h | ⟨h3,h4 | h4⟩)
   ·exact .inl (.inl h)
   ·exact .inl (.inr ⟨by omega,h4⟩)
   ·exact .inr ⟨h3,h4⟩
theorem BSet.ofL_ok {n:Nat} (h:n<=1024) (l:List Int):(BSet.ofL n l).OK:=(BSet.fold_ok l _ (BSet.new_ok h)).1
theorem xHu (f:Nat->Nat->Nat):∀(k:Nat) (xs ys:List Nat) (i x y:Nat),i < k->xs[i]?=some x->ys[i]?=some y->(mergeW f k xs ys)[i]?=some (f x y)
 | 0,_,_,_,_,_,h,_,_=>absurd h (by omega)
 | k + 1,[],ys,i,x,y,_,hx,_=>by simp at hx
 | k + 1,x' :: xs,[],i,x,y,_,_,hy=>by simp at hy
 | k + 1,x' :: xs,y' :: ys,0,x,y,_,hx,hy=>by simp at hx hy;subst hx hy;simp [mergeW]
 | k + 1,x' :: xs,y' :: ys,i + 1,x,y,h,hx,hy=>by
  simp at hx hy
  simpa [mergeW] using xHu f k xs ys i x y (by omega) hx hy
theorem xJm {f:Nat->Nat->Nat} (hf:∀a b,a < 2 ^ 64->b < 2 ^ 64->f a b < 2 ^ 64):∀(k:Nat) (xs ys:List Nat),(∀w ∈ xs,w < 2 ^ 64)->(∀w ∈ ys,w < 2 ^ 64)->∀w ∈ mergeW f k xs ys,w < 2 ^ 64
 | 0,xs,ys,hx,_=>by simpa [mergeW] using hx
 | k + 1,[],ys,hx,_=>by cases ys <;> simp [mergeW]
 | k + 1,x :: xs,[],hx,_=>by simpa [mergeW] using hx
 | k + 1,x :: xs,y :: ys,hx,hy=>by
  simp only [mergeW,List.mem_cons] at hx hy ⊢
  rintro w (rfl | hw)
  ·exact hf _ _ (hx _ (.inl rfl)) (hy _ (.inl rfl))
  ·exact xJm hf k xs ys (fun w h=>hx w (.inr h)) (fun w h=>hy w (.inr h)) w hw
theorem BSet.merge_n (f:Nat->Nat->Nat) (a b:BSet):(BSet.merge f a b).n=max a.n b.n:=rfl
theorem xLR (k i:Nat) (ws:List Nat) (hl:ws.length<=k) (h:i < k):(padW k ws)[i]?=some (ws.getD i 0):=by
 rw [padW,List.take_of_length_le hl,List.getElem?_append]
 split
 ·rename_i h1;rw [List.getD_eq_getElem?_getD,xgG h1];rfl
 ·rename_i h1
  rw [List.getElem?_replicate,if_pos (by omega),List.getD_eq_getElem?_getD,List.getElem?_eq_none (by omega)];rfl
theorem xOI {a b:Nat} (h:a<=b):nw a<=nw b:=by simp only [nw];omega
theorem BSet.merge_mem {f:Nat->Nat->Nat} (h:Bool->Bool->Bool) (hf:∀a b i,a < 2 ^ 64->b < 2 ^ 64->(f a b).testBit i=h (a.testBit i) (b.testBit i)) (h0:h false false=false) {a b:BSet} (ha:a.OK) (hb:b.OK) (j:Nat):(BSet.merge f a b).mem j=h (a.mem j) (b.mem j):=by
 have l1:a.ws.length<=nw (max a.n b.n):=by rw [ha.len];exact xOI (Nat.le_max_left _ _)
 have l2:b.ws.length<=nw (max a.n b.n):=by rw [hb.len];exact xOI (Nat.le_max_right _ _)
 have lt:∀(s:BSet),s.OK->∀i,s.ws.getD i 0 < 2 ^ 64:=by
  intro s hs i
  rw [List.getD_eq_getElem?_getD]
  cases e:s.ws[i]? with
  | none=>simp
  | some w=>exact hs.lt w (xmG e)
 rw [BSet.get_mem,BSet.get_mem,BSet.get_mem]
 simp only [BSet.merge]
 by_cases hj:j / 64 < nw (max a.n b.n)
 ·rw [List.getD_eq_getElem?_getD,xHu f _ _ _ _ _ _ hj (xLR _ _ _ l1 hj) (xLR _ _ _ l2 hj),Option.getD_some,hf _ _ _ (lt a ha _) (lt b hb _)]
 ·have e1:(mergeW f (nw (max a.n b.n)) (padW (nw (max a.n b.n)) a.ws) (padW (nw (max a.n b.n)) b.ws)).getD (j / 64) 0=0:=by
   rw [List.getD_eq_getElem?_getD,List.getElem?_eq_none (by rw [xEL,xLO];omega)];rfl
  have e2:a.ws.getD (j / 64) 0=0:=by rw [List.getD_eq_getElem?_getD,List.getElem?_eq_none (by omega)];rfl
  have e3:b.ws.getD (j / 64) 0=0:=by rw [List.getD_eq_getElem?_getD,List.getElem?_eq_none (by omega)];rfl
  rw [e1,e2,e3,Nat.zero_testBit,h0]
theorem BSet.merge_ok {f:Nat->Nat->Nat} (h:Bool->Bool->Bool) (hlt:∀a b,a < 2 ^ 64->b < 2 ^ 64->f a b < 2 ^ 64) (hf:∀a b i,a < 2 ^ 64->b < 2 ^ 64->(f a b).testBit i=h (a.testBit i) (b.testBit i)) (h0:h false false=false) {a b:BSet} (ha:a.OK) (hb:b.OK):(BSet.merge f a b).OK:=by
 refine BSet.ok_of (Nat.max_le.2 ⟨ha.n,hb.n⟩) (by simp [BSet.merge,xEL,xLO]) (xJm hlt _ _ _ (xOC ha.lt) (xOC hb.lt)) fun j hj=>?_
 rw [BSet.merge_n] at hj
 rw [BSet.merge_mem h hf h0 ha hb,BSet.mem_top ha (by omega),BSet.mem_top hb (by omega),h0]
def BSet.or (a b:BSet):BSet:=BSet.merge (· ||| ·) a b
theorem BSet.or_n (a b:BSet):(a.or b).n=max a.n b.n:=rfl
theorem BSet.or_ok {a b:BSet} (ha:a.OK) (hb:b.OK):(a.or b).OK:=BSet.merge_ok Bool.or (fun _ _ h1 h2=>Nat.or_lt_two_pow h1 h2) (fun a b i _ _=>Nat.testBit_or a b i) rfl ha hb
theorem BSet.or_mem {a b:BSet} (ha:a.OK) (hb:b.OK) (j:Nat):(a.or b).mem j=(a.mem j || b.mem j):=BSet.merge_mem Bool.or (fun a b i _ _=>Nat.testBit_or a b i) rfl ha hb j
def BSet.minus (a b:BSet):BSet:=BSet.merge andn a b
theorem BSet.minus_ok {a b:BSet} (ha:a.OK) (hb:b.OK):(a.minus b).OK:=BSet.merge_ok (fun x y=>x && !y) (fun a b _ _=>xKM a b) (fun a b i h1 _=>xIc a b i h1) rfl ha hb
theorem BSet.minus_mem {a b:BSet} (ha:a.OK) (hb:b.OK) (j:Nat):(a.minus b).mem j=(a.mem j && !b.mem j):=BSet.merge_mem (fun x y=>x && !y) (fun a b i h1 _=>xIc a b i h1) rfl ha hb j
def Ins.live (i:Ins) (s:BSet):BSet:=(s.without i.def).or (BSet.ofL s.n i.uses)
theorem Ins.live_n (i:Ins) (s:BSet):(i.live s).n=s.n:=by
 rw [Ins.live,BSet.or,BSet.merge_n,BSet.without_n,BSet.ofL_n];simp
theorem Ins.live_ok (i:Ins) {s:BSet} (h:s.OK):(i.live s).OK:=BSet.or_ok (BSet.without_ok h _) (BSet.ofL_ok h.n _)
end Go.Proofs.YtnhfofmhkfdpgaaGreatDoor.Vm
namespace Go.Proofs.YtnhfofmhkfdpgaaGreatDoor.Vm
set_option maxRecDepth 100000
open Go Go.RowKit
variable {N:Nat} {g:Glob}
def Up (S S':St):Prop:=S.next<=S'.next/\∀o,o < S.next->S'.obj o=S.obj o
theorem Up.refl (S:St):Up S S:=⟨Nat.le_refl _,fun _ _=>rfl⟩
theorem Up.trans {S S' S'':St} (h:Up S S') (h':Up S' S''):Up S S'':=⟨Nat.le_trans h.1 h'.1,fun o ho=>(h'.2 o (Nat.lt_of_lt_of_le ho h.1)).trans (h.2 o ho)⟩
theorem Up.new (S:St) (x:AObj):Up S (S.new x):=⟨Nat.le_succ _,fun o ho=>by rw [xSz,if_neg (Nat.ne_of_lt ho)]⟩
def indexF {α:Type} (q:α->Bool) (l:List α):Int:=match l.findIdx? q with
 | some k=>k
 | none=>-1
theorem xDR {α:Type} {q:α->Bool} {l:List α} (h:∀j x,j < l.length->l[j]?=some x->q x=false):indexF q l=-1:=by
 have:l.findIdx? q=none:=by
  rw [List.findIdx?_eq_none_iff]
  intro x hx
  obtain ⟨j,hj,rfl⟩:=List.mem_iff_getElem.1 hx
  exact h j _ hj (xgG hj)
 rw [indexF,this]
theorem xDS {α:Type} {q:α->Bool} {l:List α} {k:Nat} {x:α} (hx:l[k]?=some x) (hq:q x=true) (h:∀j x,j < k->l[j]?=some x->q x=false):indexF q l=k:=by
 obtain ⟨hlt,hx'⟩:=xgS hx
 have:l.findIdx? q=some k:=by
  rw [List.findIdx?_eq_some_iff_getElem]
  refine ⟨hlt,by rw [hx'];exact hq,fun j hj=>?_⟩
  have:=h j _ hj (xgG (by omega))
  simpa using this
 rw [indexF,this]
theorem xEO {α:Type} (q:α->Bool) (l:List α):decide (0<=indexF q l)=l.any q:=by
 unfold indexF
 cases h:l.findIdx? q with
 | none =>
  rw [List.findIdx?_eq_none_iff] at h
  have:l.any q=false:=by rw [List.any_eq_false];intro x hx;simp [h x hx]
  rw [this];rfl
 | some k =>
  rw [List.findIdx?_eq_some_iff_getElem] at h
  obtain ⟨h1,h2,_⟩:=h
  have:l.any q=true:=List.any_eq_true.2 ⟨_,List.getElem_mem h1,h2⟩
  rw [this];simp
theorem xEd {v fv:AV} {l:List Int} {S:St} {K:AV->St->Prop} (hv:FSl intc 1 v l) (hl:l.length < 2 ^ 40) (q:Int->Bool)
  (hq:∀x ∈ l,∀S',Up S S'->∀K':AV->St->Prop,(∀S'',Up S S''->K' (.bool (q x)) S'')->CalV P g fv [.int .i64 x] S' K') (hk:∀S',Up S S'->K (.int .i64 (indexF q l)) S'):Cal P g 137 [v,fv] S K:=by
 refine Cal.inF (by kernel_rfl) ?_
 conv=>arg 3;reduce
 simp [hv.len]
 refine W.whileI (fun (k:Nat) F S'=>k<=l.length/\(∀j x,j < k->l[j]?=some x->q x=false)/\F 0=v/\F 1=fv/\F 7=.int .i64 l.length/\F 8=.int .i64 k/\Up S S') (fun k=>l.length - k) ?_ 0 _ _ ?_
 ·rintro k F S' ⟨hk',hno,h0,h1,h7,h8,hup⟩
  by_cases hlt:k < l.length
  ·obtain ⟨x,hx⟩:∃ x,l[k]?=some x:=⟨_,xgG hlt⟩
   have e4:=wrapS k (by omega)
   simp [h7,h8,hlt]
   simp [h8,h0,h1,hv.idx hx,intc]
   refine hq x (xmG hx) S' hup _ ?_
   intro S'' hup'
   simp
   cases hqx:q x
   ·simp [h8,e4,h7,h0,h1]
    refine ⟨k + 1,by omega,by omega,?_,by omega,hup'⟩
    intro j y hj hy
    by_cases hjk:j=k
    ·subst hjk;rw [hx] at hy;cases hy;exact hqx
    ·exact hno j y (by omega) hy
   ·simp
    have:=hk S'' hup'
    rw [xDS hx hqx hno] at this
    simpa [h8] using this
  ·have:k=l.length:=by omega
   subst this
   simp [h7,h8]
   have:=hk S' hup
   rw [xDR (fun j x _ hx=>hno j x (xgS hx).1 hx)] at this
   exact this
 ·simp
  exact Up.refl S
theorem xCY {v fv:AV} {l:List Int} {S:St} {K:AV->St->Prop} (hv:FSl intc 1 v l) (hl:l.length < 2 ^ 40) (q:Int->Bool)
  (hq:∀x ∈ l,∀S',Up S S'->∀K':AV->St->Prop,(∀S'',Up S S''->K' (.bool (q x)) S'')->CalV P g fv [.int .i64 x] S' K') (hk:∀S',Up S S'->K (.bool (l.any q)) S'):Cal P g 167 [v,fv] S K:=by
 refine Cal.inF (by kernel_rfl) ?_
 conv=>arg 3;reduce
 simp
 refine xEd hv hl q hq fun S' hup=>?_
 simp
 rw [xEO]
 exact hk S' hup
def encN (z:Bool) {α:Type} (e:α->List AV) (sz:Nat) (l:List α):AV:=if z=true/\l=[] then .nilsl else .fsl sz (els e l)
theorem xGm {z:Bool} {α:Type} {e:α->List AV} {sz:Nat} {l:List α}:FSl e sz (encN z e sz l) l:=by
 unfold encN
 split
 ·rename_i h;exact .inr ⟨rfl,h.2⟩
 ·exact .inl rfl
structure Blk where
 on:Bool
 ins:List Ins
 insZ:Bool
 out:List Int
 outZ:Bool
structure Fun where
 par:Int
 vars:Int
 blks:List Blk
 blksZ:Bool
structure Prg where
 funs:List Fun
 funsZ:Bool
def Blk.insV (b:Blk):AV:=encN b.insZ insc 11 b.ins
def Blk.outV (b:Blk):AV:=encN b.outZ intc 1 b.out
@[simp] def blkc (b:Blk):List AV:=[.bool b.on,b.insV,b.outV]
def Fun.blksV (f:Fun):AV:=encN f.blksZ blkc 3 f.blks
@[simp] def func (f:Fun):List AV:=[.int .i64 f.par,.int .i64 f.vars,f.blksV]
def Prg.funsV (p:Prg):AV:=encN p.funsZ func 3 p.funs
@[simp] def encBlk (b:Blk):AV:=.agg (blkc b)
@[simp] def encFun (f:Fun):AV:=.agg (func f)
@[simp] def encP (p:Prg):AV:=.agg [p.funsV]
theorem Blk.insS (b:Blk):FSl insc 11 b.insV b.ins:=xGm
theorem Blk.outS (b:Blk):FSl intc 1 b.outV b.out:=xGm
theorem Fun.blksS (f:Fun):FSl blkc 3 f.blksV f.blks:=xGm
theorem Prg.funsS (p:Prg):FSl func 3 p.funsV p.funs:=xGm
@[simp] theorem Blk.insP (b:Blk) {S:St} {own:List Nat} {n:Nat}:pict S own (n + 1) b.insV=some b.insV:=b.insS.pict
@[simp] theorem Blk.outP (b:Blk) {S:St} {own:List Nat} {n:Nat}:pict S own (n + 1) b.outV=some b.outV:=b.outS.pict
@[simp] theorem Fun.blksP (f:Fun) {S:St} {own:List Nat} {n:Nat}:pict S own (n + 1) f.blksV=some f.blksV:=f.blksS.pict
@[simp] theorem Prg.funsP (p:Prg) {S:St} {own:List Nat} {n:Nat}:pict S own (n + 1) p.funsV=some p.funsV:=p.funsS.pict
theorem xFK {z:Bool} {α:Type} {e:α->List AV} {sz:Nat} {l:List α}:(encN z e sz l).one=true:=by
 unfold encN;split <;> rfl
@[simp] theorem Blk.ins1 (b:Blk):b.insV.one=true:=xFK
@[simp] theorem Blk.out1 (b:Blk):b.outV.one=true:=xFK
@[simp] theorem Fun.blks1 (f:Fun):f.blksV.one=true:=xFK
@[simp] theorem Prg.funs1 (p:Prg):p.funsV.one=true:=xFK
@[simp] theorem Blk.insL (b:Blk):lenV b.insV=some b.ins.length:=b.insS.len
@[simp] theorem Blk.outL (b:Blk):lenV b.outV=some b.out.length:=b.outS.len
@[simp] theorem Fun.blksL (f:Fun):lenV f.blksV=some f.blks.length:=f.blksS.len
@[simp] theorem Prg.funsL (p:Prg):lenV p.funsV=some p.funs.length:=p.funsS.len
theorem xIg {v fv:AV} {l:List Ins} {S:St} {K:AV->St->Prop} (hv:FSl insc 11 v l) (hl:l.length < 2 ^ 40) (q:Ins->Bool)
  (hq:∀x ∈ l,∀S',Up S S'->∀K':AV->St->Prop,(∀S'',Up S S''->K' (.bool (q x)) S'')->CalV P g fv [encI x] S' K') (hk:∀S',Up S S'->K (.int .i64 (indexF q l)) S'):Cal P g 224 [v,fv] S K:=by
 refine Cal.inF (by kernel_rfl) ?_
 conv=>arg 3;reduce
 simp [hv.len]
 refine W.whileI (fun (k:Nat) F S'=>k<=l.length/\(∀j x,j < k->l[j]?=some x->q x=false)/\F 0=v/\F 1=fv/\F 7=.int .i64 l.length/\F 8=.int .i64 k/\Up S S') (fun k=>l.length - k) ?_ 0 _ _ ?_
 ·rintro k F S' ⟨hk',hno,h0,h1,h7,h8,hup⟩
  by_cases hlt:k < l.length
  ·obtain ⟨x,hx⟩:∃ x,l[k]?=some x:=⟨_,xgG hlt⟩
   have e4:=wrapS k (by omega)
   simp [h7,h8,hlt]
   simp [h8,h0,h1,hv.idx hx]
   refine hq x (xmG hx) S' hup _ ?_
   intro S'' hup'
   simp
   cases hqx:q x
   ·simp [h8,e4,h7,h0,h1]
    refine ⟨k + 1,by omega,by omega,?_,by omega,hup'⟩
    intro j y hj hy
    by_cases hjk:j=k
    ·subst hjk;rw [hx] at hy;cases hy;exact hqx
    ·exact hno j y (by omega) hy
   ·simp
    have:=hk S'' hup'
    rw [xDS hx hqx hno] at this
    simpa [h8] using this
  ·have:k=l.length:=by omega
   subst this
   simp [h7,h8]
   have:=hk S' hup
   rw [xDR (fun j x _ hx=>hno j x (xgS hx).1 hx)] at this
   exact this
 ·simp
  exact Up.refl S
theorem xFC {v fv:AV} {l:List Ins} {S:St} {K:AV->St->Prop} (hv:FSl insc 11 v l) (hl:l.length < 2 ^ 40) (q:Ins->Bool)
  (hq:∀x ∈ l,∀S',Up S S'->∀K':AV->St->Prop,(∀S'',Up S S''->K' (.bool (q x)) S'')->CalV P g fv [encI x] S' K') (hk:∀S',Up S S'->K (.bool (l.any q)) S'):Cal P g 169 [v,fv] S K:=by
 refine Cal.inF (by kernel_rfl) ?_
 conv=>arg 3;reduce
 simp
 refine xIg hv hl q hq fun S' hup=>?_
 simp
 rw [xEO]
 exact hk S' hup
def risesTo (l:List Int) (k:Nat):Prop:=∀j x y,j + 1 < k->l[j]?=some x->l[j + 1]?=some y->x < y
noncomputable instance (l:List Int) (k:Nat):Decidable (risesTo l k):=Classical.propDecidable _
noncomputable def rises (l:List Int):Bool:=decide (risesTo l l.length)
theorem xMW (l:List Int) (v:AV) (hv:FSl intc 1 v l) (hl:l.length < 2 ^ 40):Ret P g false 166 [v] (.bool (rises l)):=by
 refine Ret.inF (by kernel_rfl) ?_
 conv=>arg 3;reduce
 simp
 refine W.whileI (fun (k:Nat) F S=>1<=k/\(k<=l.length \/ k=1)/\risesTo l k/\F 0=v/\F 3=.int .i64 k) (fun k=>l.length - k) ?_ 1 _ _ ?_
 ·rintro k F S ⟨hk1,hk,hr,h0,h3⟩
  by_cases hlt:k < l.length
  ·obtain ⟨y,hy⟩:∃ x,l[k]?=some x:=⟨_,xgG hlt⟩
   obtain ⟨x,hx⟩:∃ x,l[k - 1]?=some x:=⟨_,xgG (by omega)⟩
   have e4:=wrapS k (by omega)
   have e5:IntKind.i64.wrap ((k:Int) - 1)=((k - 1:Nat):Int):=by rw [xAa (by omega)];omega
   simp [h0,h3,hlt,hv.len]
   refine Dra.auto [] mix ?_ ?_
   ·kernel_rfl
   simp [classes,h0,h3,e5,hv.idx hx,hv.idx hy,intc]
   refine xAj (fun he=>?_) (fun he=>?_) <;> simp [he]
   ·refine RK.eq ?_ rfl
    have:¬ risesTo l l.length:=fun h=>by
     have:=h (k - 1) x y (by omega) hx (by rw [show k - 1 + 1=k by omega];exact hy)
     omega
    simp [rises,this]
   ·simp [h3,e4,h0]
    refine ⟨k + 1,by omega,by omega,by omega,?_,by omega⟩
    intro j a b hj ha hb
    by_cases hjk:j + 1=k
    ·have:j=k - 1:=by omega
     subst this
     rw [hx] at ha;cases ha
     rw [hjk,hy] at hb;cases hb
     omega
    ·exact hr j a b (by omega) ha hb
  ·simp [h0,h3,hv.len,hlt]
   refine RK.eq ?_ rfl
   have:risesTo l l.length:=fun j a b hj ha hb=>hr j a b (by omega) ha hb
   simp [rises,this]
 ·simp
  intro j a b hj;omega
def Fun.live (f:Fun) (i:Int):Bool:=decide (0<=i) && (match f.blks[i.toNat]? with | some b=>b.on | none=>false)
theorem xJn (f:Fun) (i:Int) (hl:f.blks.length < 2 ^ 40):Ret P g false 59 [encFun f,.int .i64 i] (.bool (f.live i)):=by
 refine Ret.inF (by kernel_rfl) ?_
 conv=>arg 3;reduce
 simp
 refine xCM (fun h1=>?_) (fun h1=>?_) <;> simp [h1]
 ·obtain ⟨k,rfl⟩:=Int.eq_ofNat_of_zero_le h1
  refine xCM (fun h2=>?_) (fun h2=>?_) <;> simp [h2]
  ·obtain ⟨b,hb⟩:∃ b,f.blks[k]?=some b:=⟨_,xgG (by omega)⟩
   simp [f.blksS.idx hb]
   exact RK.eq (by simp [Fun.live,hb]) rfl
  ·have:f.blks[k]?=none:=List.getElem?_eq_none (by omega)
   exact RK.eq (by simp [Fun.live,this]) rfl
 ·exact RK.eq (by simp [Fun.live,h1]) rfl
theorem instrOK1 {x:Int} {o:Nat} {S:St} {K:AV->St->Prop} {f:Fun} (ho:S.obj o=some (.row 3 [func f])) (hk:K (.bool (decide (f.vars<=x))) S):Cal P g 225 [.int .i64 x,.ptr o 0 0] S K:=by
 refine Cal.inF (by kernel_rfl) ?_
 conv=>arg 3;reduce
 simp [ho]
 exact hk
def Prg.insOK (p:Prg) (f:Fun) (i:Ins):Bool :=
 i.ok && !(i.vars.any fun x=>decide (f.vars<=x)) && (decide (i.kind ≠ 7) || (match p.funs[i.f.toNat]? with | some h=>decide (h.par=i.n) | none=>false))
theorem xQO (i:Ins):i.vars.length<=6:=by
 have h1:=xDP (sorted (i.uses ++ if i.def=-1 then [] else [i.def])) (sorted (i.uses ++ if i.def=-1 then [] else [i.def])).length
 rw [List.take_length,xAH] at h1
 have h2:=xLQ i
 have h3:(i.uses ++ if i.def=-1 then [] else [i.def]).length<=6:=by simp;split <;> simp <;> omega
 exact Nat.le_trans h1 h3
theorem xJo (p:Prg) (f:Fun) (i:Ins) (hl:p.funs.length < 2 ^ 40):Ret P (gl N) false 171 [encP p,encFun f,encI i] (.bool (p.insOK f i)):=by
 refine Ret.inF (by kernel_rfl) ?_
 conv=>arg 3;reduce
 simp
 refine (xEM i).use (n:=9) ?_ rfl ?_ <;> simp
 cases hok:i.ok
 ·simp
  exact RK.eq (by simp [Prg.insOK,hok]) rfl
 ·simp
  refine (xMV i).use (n:=9) ?_ (by simp [solids,AV.solid]) ?_ <;> simp
  have hvl:=xQO i
  refine xCY (xAl (e:=intc) (sz:=1) (l:=i.vars)) (by omega) (fun x=>decide (f.vars<=x)) ?_ ?_
  ·intro x hx S' hup K' hk
   simp
   refine instrOK1 (f:=f) ?_ (hk S' hup)
   rw [hup.2 1 (by simp)];simp
  ·intro S' hup
   have h0:S'.obj 0=some (.row 1 [[p.funsV]]):=by rw [hup.2 0 (by simp)];simp
   have h2:S'.obj 2=some (.row 11 [insc i]):=by rw [hup.2 2 (by simp)];simp
   simp
   cases hany:(i.vars.any fun x=>decide (f.vars<=x))
   ·simp
    refine Dra.auto [] mix ?_ ?_
    ·kernel_rfl
    simp [classes,h0,h2]
    by_cases h7:i.kind=7
    ·have hf:0<=i.f:=by have:=of_decide_eq_true hok;unfold Ins.okP at this;omega
     obtain ⟨k,hk⟩:=Int.eq_ofNat_of_zero_le hf
     by_cases h8:k < p.funs.length
     ·obtain ⟨q,hq⟩:∃ b,p.funs[k]?=some b:=⟨_,xgG h8⟩
      simp [h7,h2,h0,hk,h8,p.funsS.idx hq]
      exact RK.eq (by simp [Prg.insOK,hok,hany,h7,hk,hq]) rfl
     ·have hq:p.funs[k]?=none:=List.getElem?_eq_none (by omega)
      simp [h7,h2,h0,hk,h8]
      exact RK.eq (by simp only [Prg.insOK,hok,hany,hk];simp [h7,hq]) rfl
    ·simp [h7]
     exact RK.eq (by simp only [Prg.insOK,hok,hany];simp [h7]) rfl
   ·simp
    exact RK.eq (by simp only [Prg.insOK,hok,hany];simp) rfl
theorem block1 {x:Int} {o:Nat} {S:St} {K:AV->St->Prop} {f:Fun} (hl:f.blks.length < 2 ^ 40) (ho:S.obj o=some (.row 3 [func f])) (hk:K (.bool (!f.live x)) S):Cal P g 168 [.int .i64 x,.ptr o 0 0] S K:=by
 refine Cal.inF (by kernel_rfl) ?_
 conv=>arg 3;reduce
 simp [ho]
 refine (xJn f x hl).use (n:=9) ?_ rfl ?_ <;> simp
 exact hk
theorem block2 {i:Ins} {o q:Nat} {S:St} {K:AV->St->Prop} {p:Prg} {f:Fun} (hl:p.funs.length < 2 ^ 40) (ho:S.obj o=some (.row 1 [[p.funsV]])) (hq:S.obj q=some (.row 3 [func f])) (hon:o < S.next) (hqn:q < S.next)
  (hk:∀S',Up S S'->K (.bool (!p.insOK f i)) S'):Cal P (gl N) 170 [encI i,.ptr o 0 0,.ptr q 0 0] S K:=by
 refine Cal.inF (by kernel_rfl) ?_
 have h1:o ≠ S.next:=by omega
 have h2:q ≠ S.next:=by omega
 conv=>arg 3;reduce
 simp [ho,hq,h1,h2]
 refine (xJo p f i hl).use (n:=9) ?_ rfl ?_ <;> simp
 exact hk _ (Up.new _ _)
noncomputable def Prg.blkMsg (p:Prg) (f:Fun) (b:Blk):List Nat :=
 if b.on=false/\0 < b.ins.length + b.out.length then [97,32,98,108,111,99,107,32,116,104,97,116,32,105,115,32,110,111,110,101,32,104,97,115,32,112,97,114,116,115]
 else if rises b.out=false \/ (b.out.any fun x=>!f.live x)=true then [101,100,103,101,115]
 else if 16 < b.ins.length \/ (b.ins.any fun i=>!p.insOK f i)=true then [105,110,115,116,114,117,99,116,105,111,110,115] else []
structure Prg.Small (p:Prg):Prop where
 funs:p.funs.length < 2 ^ 38
 blks:∀f ∈ p.funs,f.blks.length < 2 ^ 38
 ins:∀f ∈ p.funs,∀b ∈ f.blks,b.ins.length < 2 ^ 38
 out:∀f ∈ p.funs,∀b ∈ f.blks,b.out.length < 2 ^ 38
theorem xMX (p:Prg) (f:Fun) (b:Blk) (hp:p.funs.length < 2 ^ 38) (hf:f.blks.length < 2 ^ 38) (hi:b.ins.length < 2 ^ 38) (ho:b.out.length < 2 ^ 38):Ret P (gl N) false 116 [encP p,encFun f,encBlk b] (.str (bs (p.blkMsg f b))):=by
 refine Ret.in c116 (by simp) ?_
 have ew:IntKind.i64.wrap ((b.ins.length:Int) + (b.out.length:Int))=((b.ins.length + b.out.length:Nat):Int):=by rw [xAa (by omega)];omega
 simp [k116]
 by_cases hbad:b.on=false/\0 < b.ins.length + b.out.length
 ·obtain ⟨hon,h0⟩:=hbad
  have h0':(0:Int) < (b.ins.length:Int) + (b.out.length:Int):=by omega
  simp [hon,ew,h0']
  exact RK.eq (by rw [Prg.blkMsg,if_pos ⟨hon,h0⟩]) rfl
 ·have hm:=Prg.blkMsg.eq_1 p f b
  rw [if_neg hbad] at hm
  cases hon:b.on
  case' false =>
   have h0:¬ (0:Int) < (b.ins.length:Int) + (b.out.length:Int):=by
    have:¬ 0 < b.ins.length + b.out.length:=fun h=>hbad ⟨hon,h⟩
    omega
   simp [ew,h0]
  case' true=>simp
  all_goals
   refine (xMW b.out b.outV b.outS (by omega)).use (n:=9) ?_ rfl ?_ <;> simp
   cases hr:rises b.out
   ·simp
    exact RK.eq (by rw [hm,hr];rfl) rfl
   ·simp
    refine xCY b.outS (by omega) (fun x=>!f.live x) ?_ ?_
    ·intro x hx S' hup K' hk
     simp
     refine block1 (f:=f) (by omega) ?_ (hk S' hup)
     rw [hup.2 1 (by simp)];simp
    ·intro S' hup
     have hn:3<=S'.next:=hup.1
     have h0:S'.obj 0=some (.row 1 [[p.funsV]]):=by rw [hup.2 0 (by simp)];simp
     have h1:S'.obj 1=some (.row 3 [func f]):=by rw [hup.2 1 (by simp)];simp
     have h2:S'.obj 2=some (.row 3 [blkc b]):=by rw [hup.2 2 (by simp)];simp [hon]
     simp
     cases hany:(b.out.any fun x=>!f.live x)
     ·simp [h2]
      by_cases h16:16 < b.ins.length
      ·have h16':(16:Int) < (b.ins.length:Int):=by omega
       simp [h16']
       exact RK.eq (by rw [hm,hr,hany,if_neg (by simp),if_pos (.inl h16)]) rfl
      ·have h16':¬ (16:Int) < (b.ins.length:Int):=by omega
       simp [h16',h2]
       refine xFC b.insS (by omega) (fun i=>!p.insOK f i) ?_ ?_
       ·intro i hi' S'' hup' K' hk
        simp
        have h0'':S''.obj 0=some (.row 1 [[p.funsV]]):=by rw [hup'.2 0 (by omega),h0]
        have h1'':S''.obj 1=some (.row 3 [func f]):=by rw [hup'.2 1 (by omega),h1]
        have hn':3<=S''.next:=Nat.le_trans hn hup'.1
        exact block2 (by omega) h0'' h1'' (by omega) (by omega) fun S3 hu3=>hk S3 (hup'.trans hu3)
       ·intro S'' hup'
        simp
        cases hany2:(b.ins.any fun i=>!p.insOK f i)
        ·simp
         exact RK.eq (by rw [hm,hr,hany,if_neg (by simp),if_neg (by simp [h16,hany2])]) rfl
        ·simp
         exact RK.eq (by rw [hm,hr,hany,if_neg (by simp),if_pos (.inr hany2)]) rfl
     ·simp
      exact RK.eq (by rw [hm,hr,hany];rfl) rfl
end Go.Proofs.YtnhfofmhkfdpgaaGreatDoor.Vm
namespace Go.Proofs.YtnhfofmhkfdpgaaGreatDoor.Vm
open Go Go.RowKit
variable {N:Nat} {g:Glob}
structure Fun.Small (f:Fun):Prop where
 blks:f.blks.length < 2 ^ 38
 ins:∀b ∈ f.blks,b.ins.length < 2 ^ 38
 out:∀b ∈ f.blks,b.out.length < 2 ^ 38
def Fun.onAt (f:Fun) (k:Nat):Bool:=match f.blks[k]? with | some b=>b.on | none=>false
def Fun.varsOK (f:Fun):Prop:=0<=f.par/\f.par<=3/\f.par<=f.vars/\f.vars<=6
instance (f:Fun):Decidable f.varsOK:=by unfold Fun.varsOK;exact inferInstance
def Fun.blksOK (f:Fun):Prop:=1<=f.blks.length/\f.blks.length<=12/\f.onAt 0=true/\f.onAt (f.blks.length - 1)=true
instance (f:Fun):Decidable f.blksOK:=by unfold Fun.blksOK;exact inferInstance
noncomputable def firstMsg (p:Prg) (f:Fun) (l:List Blk):List Nat:=match l with
 | []=>[]
 | b :: l=>if p.blkMsg f b=[] then firstMsg p f l else p.blkMsg f b
noncomputable def Prg.funMsg (p:Prg) (f:Fun):List Nat :=
 if ¬ f.varsOK then [118,97,114,105,97,98,108,101,115] else if ¬ f.blksOK then [98,108,111,99,107,115] else firstMsg p f f.blks
theorem xGn {p:Prg} {f:Fun}:∀{l:List Blk} {k:Nat} {b:Blk},l[k]?=some b->(∀j b',j < k->l[j]?=some b'->p.blkMsg f b'=[])->p.blkMsg f b ≠ []->firstMsg p f l=p.blkMsg f b
 | c :: l,0,b,hb,_,hne=>by simp at hb;subst hb;rw [firstMsg,if_neg hne]
 | c :: l,k + 1,b,hb,h,hne=>by
  rw [firstMsg,if_pos (h 0 c (by omega) rfl)]
  exact xGn (l:=l) (k:=k) (by simpa using hb) (fun j b' hj hb'=>h (j + 1) b' (by omega) (by simpa using hb')) hne
theorem xEe {p:Prg} {f:Fun}:∀{l:List Blk},(∀(j:Nat) (b':Blk),l[j]?=some b'->p.blkMsg f b'=[])->firstMsg p f l=[]
 | [],_=>rfl
 | c :: l,h=>by
  rw [firstMsg,if_pos (h 0 c rfl)]
  exact xEe (l:=l) fun j b' hb'=>h (j + 1) b' (by simpa using hb')
theorem xFr (p:Prg) (f:Fun) (b:Blk):p.blkMsg f b=[] \/ p.blkMsg f b=[97,32,98,108,111,99,107,32,116,104,97,116,32,105,115,32,110,111,110,101,32,104,97,115,32,112,97,114,116,115] \/ p.blkMsg f b=[101,100,103,101,115] \/ p.blkMsg f b=[105,110,115,116,114,117,99,116,105,111,110,115]:=by
 unfold Prg.blkMsg
 split
 ·simp
 ·split
  ·simp
  ·split <;> simp
theorem xOJ (p:Prg) (f:Fun) (b:Blk):sEq (bs (p.blkMsg f b)) (bs [])=decide (p.blkMsg f b=[]):=by
 rw [xDF,decide_eq_decide]
 rcases xFr p f b with h | h | h | h <;> rw [h] <;> simp
theorem xQP (p:Prg) (f:Fun) (hp:p.funs.length < 2 ^ 38) (hf:f.Small):Ret P (gl N) false 75 [encP p,encFun f] (.str (bs (p.funMsg f))):=by
 refine Ret.in c75 (by simp) ?_
 have hbl:=hf.blks
 have hm:=Prg.funMsg.eq_1 p f
 simp [k75]
 by_cases hv:f.varsOK
 ·rw [if_neg (by simpa using hv)] at hm
  obtain ⟨h1,h2,h3,h4⟩:=hv
  have e1:¬ f.par < 0:=by omega
  have e2:¬ 3 < f.par:=by omega
  have e3:¬ f.vars < f.par:=by omega
  have e4:¬ 6 < f.vars:=by omega
  simp [e1,e2,e3,e4]
  have no:¬ f.blksOK->p.funMsg f=[98,108,111,99,107,115]:=fun h=>by rw [hm,if_pos h]
  by_cases hl1:f.blks.length < 1
  ·have hl1':(f.blks.length:Int) < 1:=by omega
   simp [hl1']
   exact RK.eq (by rw [no (by unfold Fun.blksOK;omega)]) rfl
  ·have hl1':¬ (f.blks.length:Int) < 1:=by omega
   by_cases hl2:12 < f.blks.length
   ·have hl2':(12:Int) < (f.blks.length:Int):=by omega
    simp [hl1',hl2']
    exact RK.eq (by rw [no (by unfold Fun.blksOK;omega)]) rfl
   ·have hl2':¬ (12:Int) < (f.blks.length:Int):=by omega
    obtain ⟨b0,hb0⟩:∃ b,f.blks[0]?=some b:=⟨_,xgG (by omega)⟩
    obtain ⟨bl,hbl'⟩:∃ b,f.blks[f.blks.length - 1]?=some b:=⟨_,xgG (by omega)⟩
    have i0:=f.blksS.idx hb0
    have i0:pk (PK.indexAddr 3) [f.blksV,AV.int IntKind.i64 0]=some (AV.fptr (blkc b0) 0):=i0
    have il:=f.blksS.idx hbl'
    have ew:IntKind.i64.wrap ((f.blks.length:Int) - 1)=((f.blks.length - 1:Nat):Int):=by rw [xAa (by omega)];omega
    have o0:f.onAt 0=b0.on:=by simp [Fun.onAt,hb0]
    have ol:f.onAt (f.blks.length - 1)=bl.on:=by simp [Fun.onAt,hbl']
    simp [hl1',hl2',i0]
    cases hon0:b0.on
    ·simp
     exact RK.eq (by rw [no (by unfold Fun.blksOK;rw [o0,hon0];simp)]) rfl
    ·simp [ew,il]
     cases honl:bl.on
     ·simp
      exact RK.eq (by rw [no (by unfold Fun.blksOK;rw [ol,honl];simp)]) rfl
     ·have hok:f.blksOK:=⟨by omega,by omega,by rw [o0,hon0],by rw [ol,honl]⟩
      rw [if_neg (by simpa using hok)] at hm
      simp
      refine W.whileI (fun (k:Nat) F S=>k<=f.blks.length/\(∀(j:Nat) (b:Blk),j < k->f.blks[j]?=some b->p.blkMsg f b=[])/\F 2=.ptr 0 0 0/\F 3=.ptr 1 0 0/\F 59=f.blksV/\F 60=.int .i64 f.blks.length/\F 61=.int .i64 k/\S.obj 0=some (.row 1 [[p.funsV]])/\S.obj 1=some (.row 3 [func f])/\2<=S.next) (fun k=>f.blks.length - k) ?_ 0 _ _ ?_
      ·rintro k F S ⟨hk,hno,f2,f3,f59,f60,f61,s0,s1,sn⟩
       by_cases hlt:k < f.blks.length
       ·obtain ⟨b,hb⟩:∃ x,f.blks[k]?=some x:=⟨_,xgG hlt⟩
        have e4:=wrapS k (by omega)
        have n0:S.next ≠ 0:=by omega
        have n1:S.next ≠ 1:=by omega
        simp [f60,f61,hlt]
        simp [f59,f61,f2,f3,f.blksS.idx hb,s0,s1,n0,n1,n0.symm,n1.symm]
        refine (xMX p f b hp hbl (hf.ins b (xmG hb)) (hf.out b (xmG hb))).use (n:=9) ?_ rfl ?_ <;> simp
        rw [xOJ]
        refine xFH (fun hne=>?_) (fun he=>?_)
        ·simp [hne]
         exact RK.eq (by rw [hm,xGn hb hno hne]) rfl
        ·simp [he,f61,e4,f60,f59,f2,f3,s0,s1,n0,n1,n0.symm,n1.symm]
         refine ⟨k + 1,by omega,by omega,?_,by omega,by omega⟩
         intro j c hj hc
         by_cases hjk:j=k
         ·subst hjk;rw [hb] at hc;cases hc;exact he
         ·exact hno j c (by omega) hc
       ·have:k=f.blks.length:=by omega
        subst this
        simp [f60,f61]
        exact RK.eq (by rw [hm,xEe fun j b hb=>hno j b (xgS hb).1 hb]) rfl
      ·simp
 ·rw [if_pos hv] at hm
  by_cases e1:f.par < 0
  ·simp [e1]
   exact RK.eq (by rw [hm]) rfl
  ·by_cases e2:3 < f.par
   ·simp [e1,e2]
    exact RK.eq (by rw [hm]) rfl
   ·by_cases e3:f.vars < f.par
    ·simp [e1,e2,e3]
     exact RK.eq (by rw [hm]) rfl
    ·have e4:6 < f.vars:=by unfold Fun.varsOK at hv;omega
     simp [e1,e2,e3,e4]
     exact RK.eq (by rw [hm]) rfl
end Go.Proofs.YtnhfofmhkfdpgaaGreatDoor.Vm
