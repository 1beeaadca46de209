/- A part of the proof: Fh Fi Fj Fk Fl Fm Fn Fo. -/
import Derived.Test.YtnhfofmhkfdpgaaGreatDoorQ17
set_option linter.unusedVariables false
set_option linter.unusedSimpArgs false
set_option linter.constructorNameAsVariable false
namespace Go.Proofs.YtnhfofmhkfdpgaaGreatDoor.Vm
open Go Go.RowKit
variable {N:Nat} {g:Glob}
def addNew (out:List Int) (x:Int):List Int:=if out.getLast?=some x then out else out ++ [x]
def compactL (l:List Int):List Int:=l.foldl addNew []
theorem xBI {l:List Int} {k:Nat} {x:Int} (hx:l[k]?=some x):compactL (l.take (k + 1))=addNew (compactL (l.take k)) x:=xAi addNew [] l k x hx
theorem xAe {α:Type} {l:List α} {k:Nat} {x:α} (hx:l[k]?=some x):l.take (k + 1)=l.take k ++ [x]:=by
 rw [yBV,hx];rfl
theorem xE7 (l:List Int):∀k,k≤l.length→(compactL (l.take k)).getLast?=(l.take k).getLast?
 | 0,_=>by simp [compactL]
 | k + 1,hk=>by
  obtain ⟨x,hx⟩:∃ x,l[k]?=some x:=⟨_,xgG (by omega)⟩
  rw [xBI hx,xAe hx]
  unfold addNew
  split
  ·rename_i h;rw [h];simp
  ·simp
theorem xFT {l:List Int} {k:Nat} {y:Int} (hy:l[k]?=some y):(l.take (k + 1)).getLast?=some y:=by
 rw [xAe hy];simp
theorem xDC (l:List Int):∀k,(compactL (l.take k)).length≤k
 | 0=>by simp [compactL]
 | k + 1=>by
  have ih:=xDC l k
  cases hx:l[k]? with
  | none =>
   have:l.take (k + 1)=l.take k:=by rw [yBV,hx];simp
   rw [this];omega
  | some x =>
   rw [xBI hx]
   unfold addNew
   split <;> simp <;> omega
theorem xFd (x:Int) (l:List Int):∀out,x ∈ l.foldl addNew out ↔ x ∈ out ∨ x ∈ l:=by
 induction l with
 | nil=>intro out;simp
 | cons y l ih =>
  intro out
  rw [yAe,ih]
  have:x ∈ addNew out y ↔ x ∈ out ∨ x=y:=by
   unfold addNew
   split
   ·rename_i h
    have:=List.mem_of_getLast? h
    constructor
    ·exact .inl
    ·rintro (h | rfl) <;> assumption
   ·simp
  rw [this];simp [or_assoc]
theorem xDD (l:List Int) (x:Int):x ∈ compactL l ↔ x ∈ l:=by
 rw [compactL,xFd];simp
theorem xAd {sz o off n k:Nat} (h:k < n):pk (.indexAddr sz) [.sl sz o off n,.int .i64 (k:Int)]=some (.ptr o (off + k) 0):=by
 rw [xDV,if_pos ⟨by omega,by omega⟩];simp
theorem xEy {sz o off n k:Nat} (h:k≤n):pk (.slice sz true false false) [.sl sz o off n,.int .i64 (k:Int)]=some (.sl sz o (off + k) (n - k)):=by
 have h1:(k:Int)≤(n:Int):=by omega
 simp [bnds,h]
theorem xII {sz o off n k:Nat} (h:k≤n):pk (.slice sz false true false) [.sl sz o off n,.int .i64 (k:Int)]=some (.sl sz o off k):=by
 have h1:(k:Int)≤(n:Int):=by omega
 simp [bnds,h]
theorem xAk {S:St} {o:Nat} {x y:AObj}:(S.set o x).set o y=S.set o y:=by
 unfold St.set
 congr 1
 funext q
 show (if q=o then some y else if q=o then some x else S.obj q)=_
 split <;> rfl
theorem xCe {l:List Int} {o:Nat} {S:St} {K:AV→St→Prop} (ho:S.obj o=some (.row 1 (els intc l))) (hl:l.length < 2 ^ 40)
  (hk:K (.sl 1 o 0 (compactL l).length) (S.set o (.row 1 (els intc (compactL l ++ List.replicate (l.length - (compactL l).length) 0))))):Cal P g 97 [.sl 1 o 0 l.length] S K:=by
 refine c97.in (by simp) ?_
 have same:compactL l=l→K (.sl 1 o 0 l.length) S:=by
  intro h
  rw [h] at hk
  simp at hk
  rwa [St.set_same ho] at hk
 simp [k97]
 refine xAj (fun h2=>?_) (fun h2=>?_) <;> simp [h2]
 ·refine same ?_
  match l,h2 with
  | [],_=>rfl
  | [x],_=>rfl
  | x :: y :: l,h=>simp at h;omega
 refine W.whileI (fun (k:Nat) F S'=>1≤k∧k≤l.length∧compactL (l.take k)=l.take k∧F 0=.sl 1 o 0 l.length∧F 3=.int .i64 k∧S'=S) (fun k=>l.length - k) ?_ 1 _ _ ?_
 ·rintro k F S' ⟨hk1,hkn,hpre,h0,h3,rfl⟩
  by_cases hlt:k < l.length
  ·obtain ⟨x,hx⟩:∃ x,l[k]?=some x:=⟨_,xgG hlt⟩
   obtain ⟨y,hy⟩:∃ y,l[k - 1]?=some y:=⟨_,xgG (by omega)⟩
   have e4:=wrapS k (by omega)
   have e5:IntKind.i64.wrap ((k:Int) - 1)=((k - 1:Nat):Int):=by rw [xAa (by omega)];omega
   have e6:k - 1 < l.length:=by omega
   simp [h0,h3,hlt]
   refine Dra.auto [] mix ?_ ?_
   ·kernel_rfl
   simp [classes,h0,h3,e5,xAd hlt,xAd e6]
   simp [ho,hx,hy,intc,xAd e6]
   refine xAj (fun he=>?_) (fun he=>?_) <;> simp [he]
   ·subst he
    simp [h0,h3,xEy hkn]
    refine W.whileI (fun (j:Nat) F S=>1≤j∧k + j≤l.length∧(∃ c:List Int,S=S'.set o (.row 1 (els intc c))∧c.length=l.length∧c.take (compactL (l.take (k + j))).length=compactL (l.take (k + j))∧c.drop (k + j - 1)=l.drop (k + j - 1))∧(compactL (l.take (k + j))).length + 1≤k + j∧F 0=.sl 1 o 0 l.length∧F 3=.int .i64 (compactL (l.take (k + j))).length∧F 4=.sl 1 o k (l.length - k)∧F 5=.int .i64 j) (fun j=>l.length - j) ?_ 1 _ _ ?_
    ·rintro j F S ⟨hj1,hjn,⟨c,rfl,hcl,hct,hcd⟩,hlen,h0,h3,h4,h5⟩
     by_cases hj:k + j < l.length
     ·obtain ⟨z,hz⟩:∃ z,l[k + j]?=some z:=⟨_,xgG hj⟩
      obtain ⟨u,hu⟩:∃ u,l[k + j - 1]?=some u:=⟨_,xgG (by omega)⟩
      have hcz:c[k + j]?=some z:=by
       have:=congrArg (fun d=>d[1]?) hcd
       simp only [yBB] at this
       rw [show k + j - 1 + 1=k + j by omega] at this
       rw [this,hz]
      have hcu:c[k + j - 1]?=some u:=by
       have:=congrArg (fun d=>d[0]?) hcd
       simp only [yBB,yBG] at this
       rw [this,hu]
      have e7:IntKind.i64.wrap ((j:Int) - 1)=((j - 1:Nat):Int):=by rw [xAa (by omega)];omega
      have e8:=wrapS j (by omega)
      have e9:j < l.length - k:=by omega
      have e10:j - 1 < l.length - k:=by omega
      have e11:k + (j - 1)=k + j - 1:=by omega
      have hlast:(compactL (l.take (k + j))).getLast?=some u:=by
       rw [xE7 l _ (by omega)]
       have:k + j=k + j - 1 + 1:=by omega
       rw [this,xFT hu]
      simp [h4,h5,e9]
      refine Dra.auto [] mix ?_ ?_
      ·kernel_rfl
      simp [classes,h4,h5,e7,xAd e9,xAd e10,e11]
      simp [hcz,hcu,intc,xAd e10,e11]
      have hst:=xBI hz
      by_cases hzu:z=u
      ·simp [hzu,h0,h3,h4,h5,e8]
       rw [addNew,hlast,hzu,if_pos rfl] at hst
       refine ⟨j + 1,by omega,by omega,by omega,⟨c,rfl,hcl,?_,?_⟩,?_,?_,by omega⟩
       ·rw [show k + (j + 1)=k + j + 1 by omega,hst];exact hct
       ·have:=congrArg (fun d=>d.drop 1) hcd
        simp only [yAt] at this
        rw [show k + j - 1 + 1=k + (j + 1) - 1 by omega] at this
        exact this
       ·rw [show k + (j + 1)=k + j + 1 by omega,hst];omega
       ·rw [show k + (j + 1)=k + j + 1 by omega,hst]
      ·rw [addNew,hlast,if_neg (fun h=>hzu (by cases h;rfl))] at hst
       generalize hm:compactL (l.take (k + j))=m at *
       have e12:IntKind.i64.wrap ((m.length:Int) + 1)=((m.length + 1:Nat):Int):=by rw [xAa (by omega)];omega
       have e13:m.length < l.length:=by omega
       simp [hzu,h0,h3,h4,h5,xAd e9]
       obtain ⟨y',hy'⟩:∃ y,c[m.length]?=some y:=⟨_,xgG (by omega)⟩
       simp [hcz,hy',intc,xAd e13,e12,e8]
       refine ⟨j + 1,by omega,by omega,by omega,⟨c.set m.length z,?_,by simpa using hcl,?_,?_⟩,?_,?_,by omega⟩
       ·rw [xAk,← xAg];rfl
       ·rw [show k + (j + 1)=k + j + 1 by omega,hst]
        rw [yAR,yAl,xAe (x:=z) (by rw [yAF (by omega)]),List.take_set_of_le (by omega),hct]
       ·have:=congrArg (fun d=>d.drop 1) hcd
        simp only [yAt] at this
        rw [show k + j - 1 + 1=k + (j + 1) - 1 by omega] at this
        rw [List.drop_set_of_lt (by omega)]
        exact this
       ·rw [show k + (j + 1)=k + j + 1 by omega,hst,yAR,yAl];omega
       ·rw [show k + (j + 1)=k + j + 1 by omega,hst,yAR,yAl];omega
     ·have hj:k + j=l.length:=by omega
      simp [h4,h5,show ¬ j < l.length - k by omega]
      rw [hj,yAV] at hct hlen h3
      have e14:(compactL l).length≤l.length:=by omega
      simp [h0,h3,xEy e14,e14]
      refine ⟨by omega,?_⟩
      rw [xAk,xAs,hct,List.drop_of_length_le (by simp;omega),List.append_nil]
      have e15:List.replicate (l.length - (compactL l).length) [AV.int IntKind.i64 0]=els intc (List.replicate (l.length - (compactL l).length) 0):=xAh (e:=intc) (x:=0)
      rw [e15,xBd]
      exact hk
    ·have hst:=xBI hx
     have hlast:(compactL (l.take k)).getLast?=some x:=by
      rw [xE7 l _ (by omega)]
      have:k=k - 1 + 1:=by omega
      rw [this,xFT hy]
     rw [addNew,hlast,if_pos rfl,hpre] at hst
     have hlk:(l.take k).length=k:=by simp;omega
     simp
     refine ⟨hlt,⟨l,(St.set_same ho).symm,rfl,?_,rfl⟩,?_,h0,?_⟩
     ·rw [hst,hlk]
     ·rw [hst,hlk];exact yAC k
     ·rw [hst,hlk];exact h3
   ·simp [h3,e4,h0]
    refine ⟨k + 1,by omega,by omega,by omega,?_,by omega⟩
    rw [xBI hx,hpre,xAe hx,addNew,if_neg]
    have:k=k - 1 + 1:=by omega
    rw [this,xFT hy]
    simpa using fun h=>he h.symm
  ·have:k=l.length:=by omega
   subst this
   simp [h0,h3]
   exact same (by simpa using hpre)
 ·simp
  match l,h2 with
  | x :: l,_=>simp [compactL,addNew]
  | [],h=>simp at h
def Ins.vars (i:Ins):List Int:=compactL (sorted (i.uses ++ if i.def=-1 then [] else [i.def]))
theorem xFj (i:Ins) (x:Int):x ∈ i.vars ↔ x ∈ i.uses ∨ (i.def ≠ -1∧x=i.def):=by
 rw [Ins.vars,xDD,sorted,List.mem_mergeSort,yAQ]
 split <;> simp [*]
theorem xKY (i:Ins):i.uses.length≤5:=by
 unfold Ins.uses
 split
 ·have h1:=xKX i.all []
  have h2:=xE6 i
  have:(once i.all).length≤[].length + i.all.length:=h1
  simp at this;omega
 ·simp
theorem xCf {S:St} {K:AV→St→Prop} (hk:K .nilsl S):Cal P g 97 [.nilsl] S K:=by
 refine c97.in (by simp) ?_
 simp [k97]
 exact hk
theorem xLU {S:St} {o:Nat} {m z:List Int} (ho:S.obj o=some (.row 1 (els intc (m ++ z)))):Vm.elems S (.sl 1 o 0 m.length)=some (els intc m):=by
 simp only [xFO,ho,xID,yBF,yBA,xBc]
 by_cases hm:m=[]
 ·subst hm;simp [els]
 ·rw [if_neg (by simpa using hm),if_pos (by simp),xAs,List.take_left]
theorem xNy {S:St} {o n:Nat} {m z:List Int} (ho:S.obj o=some (.row 1 (els intc (m ++ z)))) (hm:m ≠ []):Vm.pict S [] (n + 2) (.sl 1 o 0 m.length)=some (encF intc 1 m):=by
 rw [xEu,xLU ho];simp [encF,hm]
theorem xLV {l:List Int} (h:l ≠ []):compactL l ≠ []:=by
 obtain ⟨x,hx⟩:=List.exists_mem_of_ne_nil l h
 exact List.ne_nil_of_mem ((xDD l x).2 hx)
theorem xNz {l:List Int} (h:l ≠ []):sorted l ≠ []:=fun h'=>by
 have hs:=xAF l
 rw [h'] at hs
 exact h (yAm.1 hs.symm)
theorem xFU {l:List Int} {o:Nat} {S:St} {K:AV→St→Prop} (ho:S.obj o=some (.row 1 (els intc l))) (hne:l ≠ []) (hl:l.length < 2 ^ 40)
  (hk:∀S',S'.obj o=some (.row 1 (els intc (sorted l)))→K (.tuple []) S'):Cal P g 96 [.sl 1 o 0 l.length] S K :=
 xBj ho hne hl (hk _ (by simp))
theorem xC1 {l:List Int} {o:Nat} {S:St} {K:AV→St→Prop} (ho:S.obj o=some (.row 1 (els intc (sorted l)))) (hne:l ≠ []) (hl:l.length < 2 ^ 40)
  (hk:∀v S',Vm.pict S' [] 9 v=some (encF intc 1 (compactL (sorted l)))→K v S'):Cal P g 97 [.sl 1 o 0 l.length] S K:=by
 rw [← xAF l]
 exact xCe ho (by rw [xAF];exact hl) (hk _ _ (xNy (n:=7) (by simp;rfl) (xLV (xNz hne))))
theorem xLW (i:Ins):Ret P (gl N) false 217 [encI i] (encF intc 1 i.vars):=by
 refine Ret.in c217 (by simp) ?_
 simp [k217]
 refine (xLT i).use (n:=9) ?_ ?_ <;> simp
 intro v S hv hS
 have hu:=xKY i
 have hvars:i.vars=compactL (sorted (i.uses ++ if i.def=-1 then [] else [i.def])):=rfl
 rcases hS with ⟨hl,rfl,rfl⟩ | ⟨rfl,rfl⟩
 ·refine (xCr i).use (n:=9) ?_ rfl ?_ <;> simp
  rw [hl] at hvars
  by_cases hd:i.def=-1
  ·simp [hd]
   refine xC0 ?_
   simp
   refine xCf ?_
   simp
   simp [hd] at hvars
   exact RK.eq (by rw [hvars];simp [sorted,compactL,encF]) (by rw [hvars];simp [sorted,compactL,encF,AV.stab])
  ·simp [hd] at hvars ⊢
   refine xFU (l:=[i.def]) (by simp;rfl) (by simp) (by simp) ?_
   intro S h1
   simp
   refine xC1 (l:=[i.def]) h1 (by simp) (by simp) ?_
   intro v S h2
   simp
   exact ⟨9,by rw [hvars];exact h2⟩
 ·rcases hv with ⟨h,_⟩ | ⟨o,h,ho,hne⟩
  ·cases h
  cases h
  refine (xCr i).use (n:=9) ?_ rfl ?_ <;> simp
  by_cases hd:i.def=-1
  ·simp [hd] at hvars ⊢
   refine xFU (l:=i.uses) (by simp) hne (by omega) ?_
   intro S h1
   simp
   refine xC1 (l:=i.uses) h1 hne (by omega) ?_
   intro v S h2
   simp
   exact ⟨9,by rw [hvars];exact h2⟩
  ·have hr0:¬ room=0:=by simp [room]
   have hr1:i.uses.length + 1≤room:=by simp [room];omega
   simp [hd] at hvars
   simp [hd,hr0,hr1]
   have hlen:i.uses.length + 1=(i.uses ++ [i.def]).length:=by simp
   rw [hlen]
   refine xFU (l:=i.uses ++ [i.def]) (by simp [← xBd,xAs];rfl) (by simp) (by simp;omega) ?_
   intro S h1
   simp
   rw [hlen]
   refine xC1 (l:=i.uses ++ [i.def]) h1 (by simp) (by simp;omega) ?_
   intro v S h2
   simp
   exact ⟨9,by rw [hvars];exact h2⟩
def BSet.or (a b:BSet):BSet:=BSet.merge (· ||| ·) a b
def Ins.live (i:Ins) (s:BSet):BSet:=(s.without i.def).or (BSet.ofL s.n i.uses)
def Up (S S':St):Prop:=S.next≤S'.next∧∀o,o < S.next→S'.obj o=S.obj o
theorem Up.refl (S:St):Up S S:=⟨yAC _,fun _ _=>rfl⟩
theorem Up.trans {S S' S'':St} (h:Up S S') (h':Up S' S''):Up S S'':=⟨yAX h.1 h'.1,fun o ho=>(h'.2 o (yAL ho h.1)).trans (h.2 o ho)⟩
theorem Up.new (S:St) (x:AObj):Up S (S.new x):=⟨Nat.le_succ _,fun o ho=>by rw [xQY,if_neg (Nat.ne_of_lt ho)]⟩
def indexF {α:Type} (q:α→Bool) (l:List α):Int:=match l.findIdx? q with
 | some k=>k
 | none=>-1
theorem xDE {α:Type} {q:α→Bool} {l:List α} (h:∀j x,j < l.length→l[j]?=some x→q x=false):indexF q l=-1:=by
 have:l.findIdx? q=none:=by
  rw [yBR]
  intro x hx
  obtain ⟨j,hj,rfl⟩:=yAx.1 hx
  exact h j _ hj (xgG hj)
 rw [indexF,this]
theorem xDF {α:Type} {q:α→Bool} {l:List α} {k:Nat} {x:α} (hx:l[k]?=some x) (hq:q x=true) (h:∀j x,j < k→l[j]?=some x→q x=false):indexF q l=k:=by
 obtain ⟨hlt,hx'⟩:=xgS hx
 have:l.findIdx? q=some k:=by
  rw [yAw]
  refine ⟨hlt,by rw [hx'];exact hq,fun j hj=>?_⟩
  have:=h j _ hj (xgG (by omega))
  simpa using this
 rw [indexF,this]
theorem xGU {α:Type} (q:α→Bool) (l:List α):decide (0≤indexF q l)=l.any q:=by
 unfold indexF
 cases h:l.findIdx? q with
 | none =>
  rw [yBR] at h
  have:l.any q=false:=by rw [List.any_eq_false];intro x hx;simp [h x hx]
  rw [this];rfl
 | some k =>
  rw [yAw] at h
  obtain ⟨h1,h2,_⟩:=h
  have:l.any q=true:=yBL.2 ⟨_,yAi h1,h2⟩
  rw [this];simp
theorem xDZ {v fv:AV} {l:List Int} {S:St} {K:AV→St→Prop} (hv:FSl intc 1 v l) (hl:l.length < 2 ^ 40) (q:Int→Bool)
  (hq:∀x ∈ l,∀S',Up S S'→∀K':AV→St→Prop,(∀S'',Up S S''→K' (.bool (q x)) S'')→CalV P g fv [.int .i64 x] S' K') (hk:∀S',Up S S'→K (.int .i64 (indexF q l)) S'):Cal P g 137 [v,fv] S K:=by
 refine c137.in (by simp) ?_
 simp [k137,hv.len]
 refine W.whileI (fun (k:Nat) F S'=>k≤l.length∧(∀j x,j < k→l[j]?=some x→q x=false)∧F 0=v∧F 1=fv∧F 7=.int .i64 l.length∧F 8=.int .i64 k∧Up S S') (fun k=>l.length - k) ?_ 0 _ _ ?_
 ·rintro k F S' ⟨hk',hno,h0,h1,h7,h8,hup⟩
  by_cases hlt:k < l.length
  ·obtain ⟨x,hx⟩:∃ x,l[k]?=some x:=⟨_,xgG hlt⟩
   have e4:=wrapS k (by omega)
   simp [h7,h8,hlt]
   simp [h8,h0,h1,hv.idx hx,intc]
   refine hq x (xmG hx) S' hup _ ?_
   intro S'' hup'
   simp
   cases hqx:q x
   ·simp [h8,e4,h7,h0,h1]
    refine ⟨k + 1,by omega,by omega,?_,by omega,hup'⟩
    intro j y hj hy
    by_cases hjk:j=k
    ·subst hjk;rw [hx] at hy;cases hy;exact hqx
    ·exact hno j y (by omega) hy
   ·simp
    have:=hk S'' hup'
    rw [xDF hx hqx hno] at this
    simpa [h8] using this
  ·have:k=l.length:=by omega
   subst this
   simp [h7,h8]
   have:=hk S' hup
   rw [xDE (fun j x _ hx=>hno j x (xgS hx).1 hx)] at this
   exact this
 ·simp
  exact Up.refl S
theorem xCP {v fv:AV} {l:List Int} {S:St} {K:AV→St→Prop} (hv:FSl intc 1 v l) (hl:l.length < 2 ^ 40) (q:Int→Bool)
  (hq:∀x ∈ l,∀S',Up S S'→∀K':AV→St→Prop,(∀S'',Up S S''→K' (.bool (q x)) S'')→CalV P g fv [.int .i64 x] S' K') (hk:∀S',Up S S'→K (.bool (l.any q)) S'):Cal P g 167 [v,fv] S K:=by
 refine c167.in (by simp) ?_
 simp [k167]
 refine xDZ hv hl q hq fun S' hup=>?_
 simp
 rw [xGU]
 exact hk S' hup
def encN (z:Bool) {α:Type} (e:α→List AV) (sz:Nat) (l:List α):AV:=if z=true∧l=[] then .nilsl else .fsl sz (els e l)
theorem xFV {z:Bool} {α:Type} {e:α→List AV} {sz:Nat} {l:List α}:FSl e sz (encN z e sz l) l:=by
 unfold encN
 split
 ·rename_i h;exact .inr ⟨rfl,h.2⟩
 ·exact .inl rfl
structure Blk where
 on:Bool
 ins:List Ins
 insZ:Bool
 out:List Int
 outZ:Bool
structure Fun where
 par:Int
 vars:Int
 blks:List Blk
 blksZ:Bool
structure Prg where
 funs:List Fun
 funsZ:Bool
def Blk.insV (b:Blk):AV:=encN b.insZ insc 11 b.ins
def Blk.outV (b:Blk):AV:=encN b.outZ intc 1 b.out
@[simp] def blkc (b:Blk):List AV:=[.bool b.on,b.insV,b.outV]
def Fun.blksV (f:Fun):AV:=encN f.blksZ blkc 3 f.blks
@[simp] def func (f:Fun):List AV:=[.int .i64 f.par,.int .i64 f.vars,f.blksV]
def Prg.funsV (p:Prg):AV:=encN p.funsZ func 3 p.funs
@[simp] def encBlk (b:Blk):AV:=.agg (blkc b)
@[simp] def encFun (f:Fun):AV:=.agg (func f)
@[simp] def encP (p:Prg):AV:=.agg [p.funsV]
theorem Blk.insS (b:Blk):FSl insc 11 b.insV b.ins:=xFV
theorem Blk.outS (b:Blk):FSl intc 1 b.outV b.out:=xFV
theorem Fun.blksS (f:Fun):FSl blkc 3 f.blksV f.blks:=xFV
theorem Prg.funsS (p:Prg):FSl func 3 p.funsV p.funs:=xFV
@[simp] theorem Blk.insP (b:Blk) {S:St} {own:List Nat} {n:Nat}:pict S own (n + 1) b.insV=some b.insV:=b.insS.pict
@[simp] theorem Blk.outP (b:Blk) {S:St} {own:List Nat} {n:Nat}:pict S own (n + 1) b.outV=some b.outV:=b.outS.pict
@[simp] theorem Fun.blksP (f:Fun) {S:St} {own:List Nat} {n:Nat}:pict S own (n + 1) f.blksV=some f.blksV:=f.blksS.pict
@[simp] theorem Prg.funsP (p:Prg) {S:St} {own:List Nat} {n:Nat}:pict S own (n + 1) p.funsV=some p.funsV:=p.funsS.pict
theorem xFk {z:Bool} {α:Type} {e:α→List AV} {sz:Nat} {l:List α}:(encN z e sz l).one=true:=by
 unfold encN;split <;> rfl
@[simp] theorem Blk.ins1 (b:Blk):b.insV.one=true:=xFk
@[simp] theorem Blk.out1 (b:Blk):b.outV.one=true:=xFk
@[simp] theorem Fun.blks1 (f:Fun):f.blksV.one=true:=xFk
@[simp] theorem Blk.insL (b:Blk):lenV b.insV=some b.ins.length:=b.insS.len
@[simp] theorem Blk.outL (b:Blk):lenV b.outV=some b.out.length:=b.outS.len
@[simp] theorem Fun.blksL (f:Fun):lenV f.blksV=some f.blks.length:=f.blksS.len
@[simp] theorem Prg.funsL (p:Prg):lenV p.funsV=some p.funs.length:=p.funsS.len
theorem xHF {v fv:AV} {l:List Ins} {S:St} {K:AV→St→Prop} (hv:FSl insc 11 v l) (hl:l.length < 2 ^ 40) (q:Ins→Bool)
  (hq:∀x ∈ l,∀S',Up S S'→∀K':AV→St→Prop,(∀S'',Up S S''→K' (.bool (q x)) S'')→CalV P g fv [encI x] S' K') (hk:∀S',Up S S'→K (.int .i64 (indexF q l)) S'):Cal P g 224 [v,fv] S K:=by
 refine c224.in (by simp) ?_
 simp [k224,hv.len]
 refine W.whileI (fun (k:Nat) F S'=>k≤l.length∧(∀j x,j < k→l[j]?=some x→q x=false)∧F 0=v∧F 1=fv∧F 7=.int .i64 l.length∧F 8=.int .i64 k∧Up S S') (fun k=>l.length - k) ?_ 0 _ _ ?_
 ·rintro k F S' ⟨hk',hno,h0,h1,h7,h8,hup⟩
  by_cases hlt:k < l.length
  ·obtain ⟨x,hx⟩:∃ x,l[k]?=some x:=⟨_,xgG hlt⟩
   have e4:=wrapS k (by omega)
   simp [h7,h8,hlt]
   simp [h8,h0,h1,hv.idx hx]
   refine hq x (xmG hx) S' hup _ ?_
   intro S'' hup'
   simp
   cases hqx:q x
   ·simp [h8,e4,h7,h0,h1]
    refine ⟨k + 1,by omega,by omega,?_,by omega,hup'⟩
    intro j y hj hy
    by_cases hjk:j=k
    ·subst hjk;rw [hx] at hy;cases hy;exact hqx
    ·exact hno j y (by omega) hy
   ·simp
    have:=hk S'' hup'
    rw [xDF hx hqx hno] at this
    simpa [h8] using this
  ·have:k=l.length:=by omega
   subst this
   simp [h7,h8]
   have:=hk S' hup
   rw [xDE (fun j x _ hx=>hno j x (xgS hx).1 hx)] at this
   exact this
 ·simp
  exact Up.refl S
theorem xFe {v fv:AV} {l:List Ins} {S:St} {K:AV→St→Prop} (hv:FSl insc 11 v l) (hl:l.length < 2 ^ 40) (q:Ins→Bool)
  (hq:∀x ∈ l,∀S',Up S S'→∀K':AV→St→Prop,(∀S'',Up S S''→K' (.bool (q x)) S'')→CalV P g fv [encI x] S' K') (hk:∀S',Up S S'→K (.bool (l.any q)) S'):Cal P g 169 [v,fv] S K:=by
 refine c169.in (by simp) ?_
 simp [k169]
 refine xHF hv hl q hq fun S' hup=>?_
 simp
 rw [xGU]
 exact hk S' hup
def risesTo (l:List Int) (k:Nat):Prop:=∀j x y,j + 1 < k→l[j]?=some x→l[j + 1]?=some y→x < y
noncomputable instance (l:List Int) (k:Nat):Decidable (risesTo l k):=Classical.propDecidable _
noncomputable def rises (l:List Int):Bool:=decide (risesTo l l.length)
theorem xLX (l:List Int) (v:AV) (hv:FSl intc 1 v l) (hl:l.length < 2 ^ 40):Ret P g false 166 [v] (.bool (rises l)):=by
 refine Ret.in c166 (by simp) ?_
 simp [k166]
 refine W.whileI (fun (k:Nat) F S=>1≤k∧(k≤l.length ∨ k=1)∧risesTo l k∧F 0=v∧F 3=.int .i64 k) (fun k=>l.length - k) ?_ 1 _ _ ?_
 ·rintro k F S ⟨hk1,hk,hr,h0,h3⟩
  by_cases hlt:k < l.length
  ·obtain ⟨y,hy⟩:∃ x,l[k]?=some x:=⟨_,xgG hlt⟩
   obtain ⟨x,hx⟩:∃ x,l[k - 1]?=some x:=⟨_,xgG (by omega)⟩
   have e4:=wrapS k (by omega)
   have e5:IntKind.i64.wrap ((k:Int) - 1)=((k - 1:Nat):Int):=by rw [xAa (by omega)];omega
   simp [h0,h3,hlt,hv.len]
   refine Dra.auto [] mix ?_ ?_
   ·kernel_rfl
   simp [classes,h0,h3,e5,hv.idx hx,hv.idx hy,intc]
   refine xAj (fun he=>?_) (fun he=>?_) <;> simp [he]
   ·refine RK.eq ?_ rfl
    have:¬ risesTo l l.length:=fun h=>by
     have:=h (k - 1) x y (by omega) hx (by rw [show k - 1 + 1=k by omega];exact hy)
     omega
    simp [rises,this]
   ·simp [h3,e4,h0]
    refine ⟨k + 1,by omega,by omega,by omega,?_,by omega⟩
    intro j a b hj ha hb
    by_cases hjk:j + 1=k
    ·have:j=k - 1:=by omega
     subst this
     rw [hx] at ha;cases ha
     rw [hjk,hy] at hb;cases hb
     omega
    ·exact hr j a b (by omega) ha hb
  ·simp [h0,h3,hv.len,hlt]
   refine RK.eq ?_ rfl
   have:risesTo l l.length:=fun j a b hj ha hb=>hr j a b (by omega) ha hb
   simp [rises,this]
 ·simp
  intro j a b hj;omega
def Fun.live (f:Fun) (i:Int):Bool:=decide (0≤i) && (match f.blks[i.toNat]? with | some b=>b.on | none=>false)
theorem xIK (f:Fun) (i:Int) (hl:f.blks.length < 2 ^ 40):Ret P g false 59 [encFun f,.int .i64 i] (.bool (f.live i)):=by
 refine Ret.in c59 (by simp) ?_
 simp [k59]
 refine xCD (fun h1=>?_) (fun h1=>?_) <;> simp [h1]
 ·obtain ⟨k,rfl⟩:=Int.eq_ofNat_of_zero_le h1
  refine xCD (fun h2=>?_) (fun h2=>?_) <;> simp [h2]
  ·obtain ⟨b,hb⟩:∃ b,f.blks[k]?=some b:=⟨_,xgG (by omega)⟩
   simp [f.blksS.idx hb]
   exact RK.eq (by simp [Fun.live,hb]) rfl
  ·have:f.blks[k]?=none:=yAG (by omega)
   exact RK.eq (by simp [Fun.live,this]) rfl
 ·exact RK.eq (by simp [Fun.live,h1]) rfl
theorem instrOK1 {x:Int} {o:Nat} {S:St} {K:AV→St→Prop} {f:Fun} (ho:S.obj o=some (.row 3 [func f])) (hk:K (.bool (decide (f.vars≤x))) S):Cal P g 225 [.int .i64 x,.ptr o 0 0] S K:=by
 refine c225.in (by simp) ?_
 simp [k225,ho]
 exact hk
def Prg.insOK (p:Prg) (f:Fun) (i:Ins):Bool :=
 i.ok && !(i.vars.any fun x=>decide (f.vars≤x)) && (decide (i.kind ≠ 7) || (match p.funs[i.f.toNat]? with | some h=>decide (h.par=i.n) | none=>false))
theorem xPq (i:Ins):i.vars.length≤6:=by
 have h1:=xDC (sorted (i.uses ++ if i.def=-1 then [] else [i.def])) (sorted (i.uses ++ if i.def=-1 then [] else [i.def])).length
 rw [yAV,xAF] at h1
 have h2:=xKY i
 have h3:(i.uses ++ if i.def=-1 then [] else [i.def]).length≤6:=by simp;split <;> simp <;> omega
 exact yAX h1 h3
theorem xIL (p:Prg) (f:Fun) (i:Ins) (hl:p.funs.length < 2 ^ 40):Ret P (gl N) false 171 [encP p,encFun f,encI i] (.bool (p.insOK f i)):=by
 refine Ret.in c171 (by simp) ?_
 simp [k171]
 refine (xEx i).use (n:=9) ?_ rfl ?_ <;> simp
 cases hok:i.ok
 ·simp
  exact RK.eq (by simp [Prg.insOK,hok]) rfl
 ·simp
  refine (xLW i).use (n:=9) ?_ (by simp [solids,AV.solid]) ?_ <;> simp
  have hvl:=xPq i
  refine xCP (xAt (e:=intc) (sz:=1) (l:=i.vars)) (by omega) (fun x=>decide (f.vars≤x)) ?_ ?_
  ·intro x hx S' hup K' hk
   simp
   refine instrOK1 (f:=f) ?_ (hk S' hup)
   rw [hup.2 1 (by simp)];simp
  ·intro S' hup
   have h0:S'.obj 0=some (.row 1 [[p.funsV]]):=by rw [hup.2 0 (by simp)];simp
   have h2:S'.obj 2=some (.row 11 [insc i]):=by rw [hup.2 2 (by simp)];simp
   simp
   cases hany:(i.vars.any fun x=>decide (f.vars≤x))
   ·simp
    refine Dra.auto [] mix ?_ ?_
    ·kernel_rfl
    simp [classes,h0,h2]
    by_cases h7:i.kind=7
    ·have hf:0≤i.f:=by have:=of_decide_eq_true hok;unfold Ins.okP at this;omega
     obtain ⟨k,hk⟩:=Int.eq_ofNat_of_zero_le hf
     by_cases h8:k < p.funs.length
     ·obtain ⟨q,hq⟩:∃ b,p.funs[k]?=some b:=⟨_,xgG h8⟩
      simp [h7,h2,h0,hk,h8,p.funsS.idx hq]
      exact RK.eq (by simp [Prg.insOK,hok,hany,h7,hk,hq]) rfl
     ·have hq:p.funs[k]?=none:=yAG (by omega)
      simp [h7,h2,h0,hk,h8]
      exact RK.eq (by simp only [Prg.insOK,hok,hany,hk];simp [h7,hq]) rfl
    ·simp [h7]
     exact RK.eq (by simp only [Prg.insOK,hok,hany];simp [h7]) rfl
   ·simp
    exact RK.eq (by simp only [Prg.insOK,hok,hany];simp) rfl
theorem block1 {x:Int} {o:Nat} {S:St} {K:AV→St→Prop} {f:Fun} (hl:f.blks.length < 2 ^ 40) (ho:S.obj o=some (.row 3 [func f])) (hk:K (.bool (!f.live x)) S):Cal P g 168 [.int .i64 x,.ptr o 0 0] S K:=by
 refine c168.in (by simp) ?_
 simp [k168,ho]
 refine (xIK f x hl).use (n:=9) ?_ rfl ?_ <;> simp
 exact hk
theorem block2 {i:Ins} {o q:Nat} {S:St} {K:AV→St→Prop} {p:Prg} {f:Fun} (hl:p.funs.length < 2 ^ 40) (ho:S.obj o=some (.row 1 [[p.funsV]])) (hq:S.obj q=some (.row 3 [func f])) (hon:o < S.next) (hqn:q < S.next)
  (hk:∀S',Up S S'→K (.bool (!p.insOK f i)) S'):Cal P (gl N) 170 [encI i,.ptr o 0 0,.ptr q 0 0] S K:=by
 refine c170.in (by simp) ?_
 have h1:o ≠ S.next:=by omega
 have h2:q ≠ S.next:=by omega
 simp [k170,ho,hq,h1,h2]
 refine (xIL p f i hl).use (n:=9) ?_ rfl ?_ <;> simp
 exact hk _ (Up.new _ _)
noncomputable def Prg.blkMsg (p:Prg) (f:Fun) (b:Blk):List Nat :=
 if b.on=false∧0 < b.ins.length + b.out.length then [97,32,98,108,111,99,107,32,116,104,97,116,32,105,115,32,110,111,110,101,32,104,97,115,32,112,97,114,116,115]
 else if rises b.out=false ∨ (b.out.any fun x=>!f.live x)=true then [101,100,103,101,115]
 else if 16 < b.ins.length ∨ (b.ins.any fun i=>!p.insOK f i)=true then [105,110,115,116,114,117,99,116,105,111,110,115] else []
theorem xLY (p:Prg) (f:Fun) (b:Blk) (hp:p.funs.length < 2 ^ 38) (hf:f.blks.length < 2 ^ 38) (hi:b.ins.length < 2 ^ 38) (ho:b.out.length < 2 ^ 38):Ret P (gl N) false 116 [encP p,encFun f,encBlk b] (.str (bs (p.blkMsg f b))):=by
 refine Ret.in c116 (by simp) ?_
 have ew:IntKind.i64.wrap ((b.ins.length:Int) + (b.out.length:Int))=((b.ins.length + b.out.length:Nat):Int):=by rw [xAa (by omega)];omega
 simp [k116]
 by_cases hbad:b.on=false∧0 < b.ins.length + b.out.length
 ·obtain ⟨hon,h0⟩:=hbad
  have h0':(0:Int) < (b.ins.length:Int) + (b.out.length:Int):=by omega
  simp [hon,ew,h0']
  exact RK.eq (by rw [Prg.blkMsg,if_pos ⟨hon,h0⟩]) rfl
 ·have hm:=Prg.blkMsg.eq_1 p f b
  rw [if_neg hbad] at hm
  cases hon:b.on
  case' false =>
   have h0:¬ (0:Int) < (b.ins.length:Int) + (b.out.length:Int):=by
    have:¬ 0 < b.ins.length + b.out.length:=fun h=>hbad ⟨hon,h⟩
    omega
   simp [ew,h0]
  case' true=>simp
  all_goals
   refine (xLX b.out b.outV b.outS (by omega)).use (n:=9) ?_ rfl ?_ <;> simp
   cases hr:rises b.out
   ·simp
    exact RK.eq (by rw [hm,hr];rfl) rfl
   ·simp
    refine xCP b.outS (by omega) (fun x=>!f.live x) ?_ ?_
    ·intro x hx S' hup K' hk
     simp
     refine block1 (f:=f) (by omega) ?_ (hk S' hup)
     rw [hup.2 1 (by simp)];simp
    ·intro S' hup
     have hn:3≤S'.next:=hup.1
     have h0:S'.obj 0=some (.row 1 [[p.funsV]]):=by rw [hup.2 0 (by simp)];simp
     have h1:S'.obj 1=some (.row 3 [func f]):=by rw [hup.2 1 (by simp)];simp
     have h2:S'.obj 2=some (.row 3 [blkc b]):=by rw [hup.2 2 (by simp)];simp [hon]
     simp
     cases hany:(b.out.any fun x=>!f.live x)
     ·simp [h2]
      by_cases h16:16 < b.ins.length
      ·have h16':(16:Int) < (b.ins.length:Int):=by omega
       simp [h16']
       exact RK.eq (by rw [hm,hr,hany,if_neg (by simp),if_pos (.inl h16)]) rfl
      ·have h16':¬ (16:Int) < (b.ins.length:Int):=by omega
       simp [h16',h2]
       refine xFe b.insS (by omega) (fun i=>!p.insOK f i) ?_ ?_
       ·intro i hi' S'' hup' K' hk
        simp
        have h0'':S''.obj 0=some (.row 1 [[p.funsV]]):=by rw [hup'.2 0 (by omega),h0]
        have h1'':S''.obj 1=some (.row 3 [func f]):=by rw [hup'.2 1 (by omega),h1]
        have hn':3≤S''.next:=yAX hn hup'.1
        exact block2 (by omega) h0'' h1'' (by omega) (by omega) fun S3 hu3=>hk S3 (hup'.trans hu3)
       ·intro S'' hup'
        simp
        cases hany2:(b.ins.any fun i=>!p.insOK f i)
        ·simp
         exact RK.eq (by rw [hm,hr,hany,if_neg (by simp),if_neg (by simp [h16,hany2])]) rfl
        ·simp
         exact RK.eq (by rw [hm,hr,hany,if_neg (by simp),if_pos (.inr hany2)]) rfl
     ·simp
      exact RK.eq (by rw [hm,hr,hany];rfl) rfl
structure Fun.Small (f:Fun):Prop where
 blks:f.blks.length < 2 ^ 38
 ins:∀b ∈ f.blks,b.ins.length < 2 ^ 38
 out:∀b ∈ f.blks,b.out.length < 2 ^ 38
def Fun.onAt (f:Fun) (k:Nat):Bool:=match f.blks[k]? with | some b=>b.on | none=>false
def Fun.varsOK (f:Fun):Prop:=0≤f.par∧f.par≤3∧f.par≤f.vars∧f.vars≤6
instance (f:Fun):Decidable f.varsOK:=by unfold Fun.varsOK;exact inferInstance
def Fun.blksOK (f:Fun):Prop:=1≤f.blks.length∧f.blks.length≤12∧f.onAt 0=true∧f.onAt (f.blks.length - 1)=true
instance (f:Fun):Decidable f.blksOK:=by unfold Fun.blksOK;exact inferInstance
noncomputable def firstMsg (p:Prg) (f:Fun) (l:List Blk):List Nat:=match l with
 | []=>[]
 | b :: l=>if p.blkMsg f b=[] then firstMsg p f l else p.blkMsg f b
noncomputable def Prg.funMsg (p:Prg) (f:Fun):List Nat :=
 if ¬ f.varsOK then [118,97,114,105,97,98,108,101,115] else if ¬ f.blksOK then [98,108,111,99,107,115] else firstMsg p f f.blks
theorem xFW {p:Prg} {f:Fun}:∀{l:List Blk} {k:Nat} {b:Blk},l[k]?=some b→(∀j b',j < k→l[j]?=some b'→p.blkMsg f b'=[])→p.blkMsg f b ≠ []→firstMsg p f l=p.blkMsg f b
 | c :: l,0,b,hb,_,hne=>by simp at hb;subst hb;rw [firstMsg,if_neg hne]
 | c :: l,k + 1,b,hb,h,hne=>by
  rw [firstMsg,if_pos (h 0 c (by omega) rfl)]
  exact xFW (l:=l) (k:=k) (by simpa using hb) (fun j b' hj hb'=>h (j + 1) b' (by omega) (by simpa using hb')) hne
theorem xD0 {p:Prg} {f:Fun}:∀{l:List Blk},(∀(j:Nat) (b':Blk),l[j]?=some b'→p.blkMsg f b'=[])→firstMsg p f l=[]
 | [],_=>rfl
 | c :: l,h=>by
  rw [firstMsg,if_pos (h 0 c rfl)]
  exact xD0 (l:=l) fun j b' hb'=>h (j + 1) b' (by simpa using hb')
theorem xE8 (p:Prg) (f:Fun) (b:Blk):p.blkMsg f b=[] ∨ p.blkMsg f b=[97,32,98,108,111,99,107,32,116,104,97,116,32,105,115,32,110,111,110,101,32,104,97,115,32,112,97,114,116,115] ∨ p.blkMsg f b=[101,100,103,101,115] ∨ p.blkMsg f b=[105,110,115,116,114,117,99,116,105,111,110,115]:=by
 unfold Prg.blkMsg
 split
 ·simp
 ·split
  ·simp
  ·split <;> simp
theorem xNB (p:Prg) (f:Fun) (b:Blk):sEq (bs (p.blkMsg f b)) (bs [])=decide (p.blkMsg f b=[]):=by
 rw [xDU,decide_eq_decide]
 rcases xE8 p f b with h | h | h | h <;> rw [h] <;> simp
theorem xPr (p:Prg) (f:Fun) (hp:p.funs.length < 2 ^ 38) (hf:f.Small):Ret P (gl N) false 75 [encP p,encFun f] (.str (bs (p.funMsg f))):=by
 refine Ret.in c75 (by simp) ?_
 have hbl:=hf.blks
 have hm:=Prg.funMsg.eq_1 p f
 simp [k75]
 by_cases hv:f.varsOK
 ·rw [if_neg (by simpa using hv)] at hm
  obtain ⟨h1,h2,h3,h4⟩:=hv
  have e1:¬ f.par < 0:=by omega
  have e2:¬ 3 < f.par:=by omega
  have e3:¬ f.vars < f.par:=by omega
  have e4:¬ 6 < f.vars:=by omega
  simp [e1,e2,e3,e4]
  have no:¬ f.blksOK→p.funMsg f=[98,108,111,99,107,115]:=fun h=>by rw [hm,if_pos h]
  by_cases hl1:f.blks.length < 1
  ·have hl1':(f.blks.length:Int) < 1:=by omega
   simp [hl1']
   exact RK.eq (by rw [no (by unfold Fun.blksOK;omega)]) rfl
  ·have hl1':¬ (f.blks.length:Int) < 1:=by omega
   by_cases hl2:12 < f.blks.length
   ·have hl2':(12:Int) < (f.blks.length:Int):=by omega
    simp [hl1',hl2']
    exact RK.eq (by rw [no (by unfold Fun.blksOK;omega)]) rfl
   ·have hl2':¬ (12:Int) < (f.blks.length:Int):=by omega
    obtain ⟨b0,hb0⟩:∃ b,f.blks[0]?=some b:=⟨_,xgG (by omega)⟩
    obtain ⟨bl,hbl'⟩:∃ b,f.blks[f.blks.length - 1]?=some b:=⟨_,xgG (by omega)⟩
    have i0:=f.blksS.idx hb0
    have i0:pk (PK.indexAddr 3) [f.blksV,AV.int IntKind.i64 0]=some (AV.fptr (blkc b0) 0):=i0
    have il:=f.blksS.idx hbl'
    have ew:IntKind.i64.wrap ((f.blks.length:Int) - 1)=((f.blks.length - 1:Nat):Int):=by rw [xAa (by omega)];omega
    have o0:f.onAt 0=b0.on:=by simp [Fun.onAt,hb0]
    have ol:f.onAt (f.blks.length - 1)=bl.on:=by simp [Fun.onAt,hbl']
    simp [hl1',hl2',i0]
    cases hon0:b0.on
    ·simp
     exact RK.eq (by rw [no (by unfold Fun.blksOK;rw [o0,hon0];simp)]) rfl
    ·simp [ew,il]
     cases honl:bl.on
     ·simp
      exact RK.eq (by rw [no (by unfold Fun.blksOK;rw [ol,honl];simp)]) rfl
     ·have hok:f.blksOK:=⟨by omega,by omega,by rw [o0,hon0],by rw [ol,honl]⟩
      rw [if_neg (by simpa using hok)] at hm
      simp
      refine W.whileI (fun (k:Nat) F S=>k≤f.blks.length∧(∀(j:Nat) (b:Blk),j < k→f.blks[j]?=some b→p.blkMsg f b=[])∧F 2=.ptr 0 0 0∧F 3=.ptr 1 0 0∧F 59=f.blksV∧F 60=.int .i64 f.blks.length∧F 61=.int .i64 k∧S.obj 0=some (.row 1 [[p.funsV]])∧S.obj 1=some (.row 3 [func f])∧2≤S.next) (fun k=>f.blks.length - k) ?_ 0 _ _ ?_
      ·rintro k F S ⟨hk,hno,f2,f3,f59,f60,f61,s0,s1,sn⟩
       by_cases hlt:k < f.blks.length
       ·obtain ⟨b,hb⟩:∃ x,f.blks[k]?=some x:=⟨_,xgG hlt⟩
        have e4:=wrapS k (by omega)
        have n0:S.next ≠ 0:=by omega
        have n1:S.next ≠ 1:=by omega
        simp [f60,f61,hlt]
        simp [f59,f61,f2,f3,f.blksS.idx hb,s0,s1,n0,n1,n0.symm,n1.symm]
        refine (xLY p f b hp hbl (hf.ins b (xmG hb)) (hf.out b (xmG hb))).use (n:=9) ?_ rfl ?_ <;> simp
        rw [xNB]
        refine xFh (fun hne=>?_) (fun he=>?_)
        ·simp [hne]
         exact RK.eq (by rw [hm,xFW hb hno hne]) rfl
        ·simp [he,f61,e4,f60,f59,f2,f3,s0,s1,n0,n1,n0.symm,n1.symm]
         refine ⟨k + 1,by omega,by omega,?_,by omega,by omega⟩
         intro j c hj hc
         by_cases hjk:j=k
         ·subst hjk;rw [hb] at hc;cases hc;exact he
         ·exact hno j c (by omega) hc
       ·have:k=f.blks.length:=by omega
        subst this
        simp [f60,f61]
        exact RK.eq (by rw [hm,xD0 fun j b hb=>hno j b (xgS hb).1 hb]) rfl
      ·simp
 ·rw [if_pos hv] at hm
  by_cases e1:f.par < 0
  ·simp [e1]
   exact RK.eq (by rw [hm]) rfl
  ·by_cases e2:3 < f.par
   ·simp [e1,e2]
    exact RK.eq (by rw [hm]) rfl
   ·by_cases e3:f.vars < f.par
    ·simp [e1,e2,e3]
     exact RK.eq (by rw [hm]) rfl
    ·have e4:6 < f.vars:=by unfold Fun.varsOK at hv;omega
     simp [e1,e2,e3,e4]
     exact RK.eq (by rw [hm]) rfl
def ents (l:List Int):List (AV × AV):=l.map fun x=>(.int .i64 x,.bool true)
theorem xLZ (l:List Int) (x:Int):findV (.int .i64 x) (ents l)=some (if x ∈ l then some (.bool true) else none):=by
 induction l with
 | nil=>simp [ents,findV]
 | cons y l ih =>
  have ih:findV (.int .i64 x) (List.map (fun x=>(AV.int .i64 x,AV.bool true)) l)=_:=ih
  simp only [ents,yAu,findV,keyEq,scalarEq,yAS]
  by_cases h:x=y
  ·subst h;simp
  ·have:(x == y)=false:=by simpa using h
   simp [h,ih,this]
theorem xNC (l:List Int) (x:Int) (hx:x ∉ l):putV (.int .i64 x) (.bool true) (ents l)=some (ents (l ++ [x])):=by
 induction l with
 | nil=>simp [ents,putV]
 | cons y l ih =>
  have hy:¬ x=y:=fun h=>hx (by simp [h])
  have ih:putV (.int .i64 x) (.bool true) (List.map (fun x=>(AV.int .i64 x,AV.bool true)) l)=_:=ih fun h=>hx (by simp [h])
  simp only [ents,yAu,putV,keyEq,scalarEq,List.cons_append]
  have:(x == y)=false:=by simpa using hy
  simp [ih,ents,this]
def Blk.ids (b:Blk):List Int:=b.ins.map Ins.id
def Fun.idsTo (f:Fun) (j:Nat):List Int:=((f.blks.take j).map Blk.ids).flatten
def Fun.ids (f:Fun):List Int:=(f.blks.map Blk.ids).flatten
def Prg.idsTo (p:Prg) (k:Nat):List Int:=((p.funs.take k).map Fun.ids).flatten
def Prg.ids (p:Prg):List Int:=(p.funs.map Fun.ids).flatten
def Blk.idsTo (b:Blk) (i:Nat):List Int:=(b.ins.take i).map Ins.id
theorem Blk.idsTo_succ {b:Blk} {i:Nat} {x:Ins} (h:b.ins[i]?=some x):b.idsTo (i + 1)=b.idsTo i ++ [x.id]:=by
 rw [Blk.idsTo,xAe h];simp [Blk.idsTo]
theorem Fun.idsTo_succ {f:Fun} {j:Nat} {b:Blk} (h:f.blks[j]?=some b):f.idsTo (j + 1)=f.idsTo j ++ b.ids:=by
 rw [Fun.idsTo,xAe h];simp [Fun.idsTo]
theorem Prg.idsTo_succ {p:Prg} {k:Nat} {f:Fun} (h:p.funs[k]?=some f):p.idsTo (k + 1)=p.idsTo k ++ f.ids:=by
 rw [Prg.idsTo,xAe h];simp [Prg.idsTo]
theorem Blk.idsTo_all (b:Blk):b.idsTo b.ins.length=b.ids:=by rw [Blk.idsTo,yAV];rfl
theorem Fun.idsTo_all (f:Fun):f.idsTo f.blks.length=f.ids:=by rw [Fun.idsTo,yAV];rfl
theorem Prg.idsTo_all (p:Prg):p.idsTo p.funs.length=p.ids:=by rw [Prg.idsTo,yAV];rfl
theorem xK0 {l:List (List Int)} (k:Nat):(l.take k).flatten.Sublist l.flatten:=by
 have h:l.flatten=(l.take k).flatten ++ (l.drop k).flatten:=by rw [← List.flatten_append,List.take_append_drop]
 rw [h];exact List.sublist_append_left _ _
theorem Blk.idsTo_sub (b:Blk) (i:Nat):(b.idsTo i).Sublist b.ids:=(List.take_sublist _ _).map _
theorem Fun.idsTo_sub (f:Fun) (j:Nat):(f.idsTo j).Sublist f.ids:=by rw [Fun.idsTo,List.map_take];exact xK0 j
theorem Prg.idsTo_sub (p:Prg) (k:Nat):(p.idsTo k).Sublist p.ids:=by rw [Prg.idsTo,List.map_take];exact xK0 k
theorem xK1 {p:Prg} {f:Fun} {b:Blk} {k j:Nat} (hf:p.funs[k]?=some f) (hb:f.blks[j]?=some b) (i:Nat):(p.idsTo k ++ (f.idsTo j ++ b.idsTo i)).Sublist p.ids:=by
 refine List.Sublist.trans ?_ (p.idsTo_sub (k + 1))
 rw [Prg.idsTo_succ hf]
 refine List.Sublist.append (List.Sublist.refl _) (List.Sublist.trans ?_ (f.idsTo_sub (j + 1)))
 rw [Fun.idsTo_succ hb]
 exact List.Sublist.append (List.Sublist.refl _) (b.idsTo_sub i)
noncomputable def Prg.sane (p:Prg):Bool:=decide (p.funs.length≤6) && p.funs.all (fun f=>decide (p.funMsg f=[])) && decide p.ids.Nodup
structure Prg.Fit (p:Prg):Prop where
 funs:p.funs.length < 2 ^ 38
 each:∀f ∈ p.funs,f.Small
theorem Up.more {S S':St} (h:Up S S') (x:AObj):Up S (S'.new x):=h.trans (Up.new _ _)
theorem Up.put {S S':St} (h:Up S S') {o:Nat} (ho:S.next≤o) (x:AObj):Up S (S'.set o x):=⟨h.1,fun q hq=>by rw [xJY,if_neg (by omega)];exact h.2 q hq⟩
theorem Prg.sane_iff {p:Prg}:p.sane=true ↔ p.funs.length≤6∧(∀f ∈ p.funs,p.funMsg f=[])∧p.ids.Nodup:=by
 simp only [Prg.sane,yAJ,decide_eq_true_eq,yAa,and_assoc]
def Wrong (v:AV) (S S':St):Prop:=∃ o s n,v=.iface 86 (.ptr o 0 0)∧S.next≤o∧o < S'.next∧S'.obj o=some (.row 2 [[.str s,.int .i64 n]])
theorem xIM (p:Prg) (f:Fun):p.funMsg f=[] ∨ p.funMsg f=[118,97,114,105,97,98,108,101,115] ∨ p.funMsg f=[98,108,111,99,107,115] ∨ p.funMsg f=[97,32,98,108,111,99,107,32,116,104,97,116,32,105,115,32,110,111,110,101,32,104,97,115,32,112,97,114,116,115] ∨ p.funMsg f=[101,100,103,101,115] ∨ p.funMsg f=[105,110,115,116,114,117,99,116,105,111,110,115]:=by
 unfold Prg.funMsg
 split
 ·simp
 ·split
  ·simp
  ·generalize f.blks=l
   induction l with
   | nil=>exact .inl rfl
   | cons b l ih =>
    rw [firstMsg]
    split
    ·exact ih
    ·rcases xE8 p f b with h | h | h | h <;> simp [h]
theorem xND (p:Prg) (f:Fun):sEq (bs (p.funMsg f)) (bs [])=decide (p.funMsg f=[]):=by
 rw [xDU,decide_eq_decide]
 rcases xIM p f with h | h | h | h | h | h <;> rw [h] <;> simp
theorem xL0 (p:Prg) (hp:p.Fit) (S:St) (K:AV→St→Prop) (hk:∀v S',Up S S'→(p.sane=true→v=.niliface)→(p.sane=false→Wrong v S S')→K v S'):Cal P (gl N) 40 [encP p] S K:=by
 refine c40.in (by simp) ?_
 have hfl:=hp.funs
 have good:∀S',Up S S'→p.sane=true→K .niliface S':=fun S' h hs=>hk _ _ h (fun _=>rfl) fun h'=>by rw [hs] at h';cases h'
 have bad:∀v S',Up S S'→p.sane=false→Wrong v S S'→K v S':=fun v S' h hs hw=>hk _ _ h (fun h'=>by rw [hs] at h';cases h') fun _=>hw
 simp [k40]
 by_cases h6:6 < p.funs.length
 ·have h6':(6:Int) < (p.funs.length:Int):=by omega
  simp [h6']
  have hs:p.sane=false:=by simp only [Prg.sane];rw [decide_eq_false (by omega)];rfl
  refine bad _ _ ((Up.new _ _).trans (Up.new _ _)) hs ⟨S.next + 1,_,_,rfl,by omega,by simp,by simp;exact ⟨rfl,rfl⟩⟩
 ·have h6':¬ (6:Int) < (p.funs.length:Int):=by omega
  simp [h6']
  refine W.whileI (fun (k:Nat) F S'=>k≤p.funs.length∧(∀(j:Nat) (f:Fun),j < k→p.funs[j]?=some f→p.funMsg f=[])∧F 1=.ptr S.next 0 0∧F 3=.map (S.next + 1)∧F 23=p.funsV∧F 24=.int .i64 p.funs.length∧F 25=.int .i64 k ∧
   S'.obj S.next=some (.row 1 [[p.funsV]])∧S'.obj (S.next + 1)=some (.map (ents (p.idsTo k)))∧(p.idsTo k).Nodup∧Up S S'∧S.next + 2≤S'.next) (fun k=>p.funs.length - k) ?_ 0 _ _ ?_
  ·rintro k F S' ⟨hk',hno,f1,f3,f23,f24,f25,s0,s1,hnd,hup,hn⟩
   by_cases hlt:k < p.funs.length
   ·obtain ⟨f,hf⟩:∃ x,p.funs[k]?=some x:=⟨_,xgG hlt⟩
    have hsm:=hp.each f (xmG hf)
    have e4:=wrapS k (by omega)
    have n0:S.next ≠ S'.next:=by omega
    have n1:S.next + 1 ≠ S'.next:=by omega
    simp [f24,f25,hlt]
    simp [f23,f25,f1,f3,p.funsS.idx hf,s0,s1,n0,n1,n0.symm,n1.symm]
    refine (xPr p f hp.funs hsm).use (n:=9) ?_ rfl ?_ <;> simp
    rw [xND]
    refine xFh (fun hne=>?_) (fun he=>?_)
    ·simp [hne]
     have hs:p.sane=false:=by
      cases h:p.sane
      ·rfl
      ·exact absurd ((Prg.sane_iff.1 h).2.1 f (xmG hf)) hne
     exact bad _ _ (((hup.more _).put (by omega) _).more _) hs ⟨S'.next + 1,_,_,rfl,by omega,by simp,by simp;exact ⟨rfl,rfl⟩⟩
    ·simp [he]
     refine W.whileI (fun (j:Nat) F S'=>j≤f.blks.length∧F 1=.ptr S.next 0 0∧F 3=.map (S.next + 1)∧F 4=.int .i64 k∧F 23=p.funsV∧F 24=.int .i64 p.funs.length∧F 25=.int .i64 k ∧
      F 41=f.blksV∧F 42=.int .i64 f.blks.length∧F 43=.int .i64 j ∧
      S'.obj S.next=some (.row 1 [[p.funsV]])∧S'.obj (S.next + 1)=some (.map (ents (p.idsTo k ++ f.idsTo j)))∧(p.idsTo k ++ f.idsTo j).Nodup∧Up S S'∧S.next + 2≤S'.next) (fun j=>f.blks.length - j) ?_ 0 _ _ ?_
     ·clear f1 f3 f23 f24 f25 s0 s1 hnd hup hn n0 n1
      clear S' F
      rintro j F S' ⟨hj',f1,f3,f4,f23,f24,f25,f41,f42,f43,s0,s1,hnd,hup,hn⟩
      by_cases hlj:j < f.blks.length
      ·obtain ⟨b,hb⟩:∃ x,f.blks[j]?=some x:=⟨_,xgG hlj⟩
       have e5:IntKind.i64.wrap ((j:Int) + 1)=((j + 1:Nat):Int):=by have:=hsm.blks;rw [xAa (by omega)];omega
       have n0:S.next ≠ S'.next:=by omega
       have n1:S.next + 1 ≠ S'.next:=by omega
       simp [f42,f43,hlj]
       simp [f41,f43,f1,f3,f.blksS.idx hb,s0,s1,n0,n1,n0.symm,n1.symm]
       refine W.whileI (fun (i:Nat) F S'=>i≤b.ins.length∧F 1=.ptr S.next 0 0∧F 3=.map (S.next + 1)∧F 4=.int .i64 k∧F 23=p.funsV∧F 24=.int .i64 p.funs.length∧F 25=.int .i64 k ∧
        F 41=f.blksV∧F 42=.int .i64 f.blks.length∧F 43=.int .i64 j∧F 48=b.insV∧F 49=.int .i64 b.ins.length∧F 50=.int .i64 i ∧
        S'.obj S.next=some (.row 1 [[p.funsV]])∧S'.obj (S.next + 1)=some (.map (ents (p.idsTo k ++ (f.idsTo j ++ b.idsTo i))))∧(p.idsTo k ++ (f.idsTo j ++ b.idsTo i)).Nodup∧Up S S'∧S.next + 2≤S'.next) (fun i=>b.ins.length - i) ?_ 0 _ _ ?_
       ·clear f1 f3 f4 f23 f24 f25 f41 f42 f43 s0 s1 hnd hup hn n0 n1
        clear S' F
        rintro i F S' ⟨hi',f1,f3,f4,f23,f24,f25,f41,f42,f43,f48,f49,f50,s0,s1,hnd,hup,hn⟩
        have hil:=hsm.ins b (xmG hb)
        by_cases hli:i < b.ins.length
        ·obtain ⟨x,hx⟩:∃ x,b.ins[i]?=some x:=⟨_,xgG hli⟩
         have e6:=wrapS i (by omega)
         have n0:S.next ≠ S'.next:=by omega
         have n1:S.next + 1 ≠ S'.next:=by omega
         have hpart:=xK1 hf hb (i + 1)
         rw [Blk.idsTo_succ hx] at hpart
         have hp1:p.idsTo k ++ (f.idsTo j ++ (b.idsTo i ++ [x.id]))=(p.idsTo k ++ (f.idsTo j ++ b.idsTo i)) ++ [x.id]:=by simp
         rw [hp1] at hpart
         simp [f49,f50,hli]
         simp [f48,f50,f1,f3,f4,b.insS.idx hx,s0,s1,n0,n1,n0.symm,n1.symm,xLZ]
         by_cases hm:x.id ∈ p.idsTo k ∨ x.id ∈ f.idsTo j ∨ x.id ∈ b.idsTo i
         ·have hs:p.sane=false:=by
           cases h:p.sane
           ·rfl
           ·have:=(Prg.sane_iff.1 h).2.2.sublist hpart
            rw [yBW] at this
            exact absurd rfl (this.2.2 x.id (by simpa using hm) x.id (by simp))
          simp [hm,f4]
          exact bad _ _ (((hup.more _).put (by omega) _).more _) hs ⟨S'.next + 1,_,_,rfl,by omega,by simp,by simp;exact ⟨rfl,rfl⟩⟩
         ·have hput:=xNC (p.idsTo k ++ (f.idsTo j ++ b.idsTo i)) x.id (by simpa using hm)
          rw [← hp1,← Blk.idsTo_succ hx] at hput
          have hnd':(p.idsTo k ++ (f.idsTo j ++ b.idsTo (i + 1))).Nodup:=by
           rw [Blk.idsTo_succ hx,hp1,yBW]
           refine ⟨hnd,by simp,?_⟩
           intro a ha c hc
           simp at hc
           subst hc
           rintro rfl
           exact hm (by simpa using ha)
          simp [hm,f3,s1,n0,n1,n0.symm,n1.symm,hput,f50,e6]
          exact ⟨i + 1,by omega,by omega,f1,f4,f23,f24,f25,f41,f42,f43,f48,f49,by omega,s0,rfl,hnd',(((hup.more _).put (by omega) _).put (by omega) _),by omega⟩
        ·have:i=b.ins.length:=by omega
         subst this
         have hall:f.idsTo j ++ b.idsTo b.ins.length=f.idsTo (j + 1):=by rw [Blk.idsTo_all,← Fun.idsTo_succ hb]
         rw [hall] at s1 hnd
         simp [f49,f50,f1,f3,f4,f23,f24,f25,f41,f42,f43,e5,s0,s1]
         exact ⟨j + 1,by omega,by omega,by omega,rfl,hnd,hup,hn⟩
       ·simp [f1,f3,f4,f23,f24,f25,f41,f42,f43,s0,s1,n0,n1,n0.symm,n1.symm]
        have hz:b.idsTo 0=[]:=rfl
        rw [hz,List.append_nil]
        exact ⟨rfl,hnd,(hup.more _).put (by omega) _,by omega⟩
      ·have:j=f.blks.length:=by omega
       subst this
       rw [Fun.idsTo_all,← Prg.idsTo_succ hf] at s1 hnd
       simp [f42,f43,f1,f3,f23,f24,f25,e4,s0,s1]
       refine ⟨k + 1,by omega,by omega,?_,by omega,rfl,hnd,hup,hn⟩
       intro q h hq hh
       by_cases hqk:q=k
       ·subst hqk;rw [hf] at hh;cases hh;exact he
       ·exact hno q h (by omega) hh
     ·simp [f1,f3,f23,f24,f25,s0,s1,n0,n1,n0.symm,n1.symm]
      have hz:f.idsTo 0=[]:=rfl
      rw [hz,List.append_nil]
      exact ⟨rfl,hnd,(hup.more _).put (by omega) _,by omega⟩
   ·have:k=p.funs.length:=by omega
    subst this
    simp [f24,f25]
    refine good _ hup (Prg.sane_iff.2 ⟨by omega,?_,by rw [← Prg.idsTo_all];exact hnd⟩)
    intro f hf
    obtain ⟨j,hj,rfl⟩:=yAx.1 hf
    exact hno j _ hj (xgG hj)
  ·simp
   refine ⟨by simp [Prg.idsTo,ents],by simp [Prg.idsTo],(Up.refl S).more _ |>.more _⟩
end Go.Proofs.YtnhfofmhkfdpgaaGreatDoor.Vm
