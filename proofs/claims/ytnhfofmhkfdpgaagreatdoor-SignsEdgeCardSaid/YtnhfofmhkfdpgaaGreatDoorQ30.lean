/- A part of the proof: Cb Cc Cd. -/
import Derived.KernelRfl
import Derived.Test.YtnhfofmhkfdpgaaGreatDoorQ29
set_option linter.unusedVariables false
set_option linter.unusedSimpArgs false
set_option linter.constructorNameAsVariable false
namespace Go.Proofs.YtnhfofmhkfdpgaaGreatDoor.Vm
set_option maxRecDepth 100000
open Go Go.RowKit
variable {N:Nat} {g:Glob}
theorem xKa {a b:Int} (ha:sgOk a) (hb:sgOk b):(iandNot .i64 a b=0) ↔ sgLe a b:=by
 obtain ⟨i,rfl⟩:=sg8 ha
 obtain ⟨j,rfl⟩:=sg8 hb
 have:∀i j:Fin 8,(iandNot .i64 ((i:Nat):Int) ((j:Nat):Int)=0) ↔ sgLe ((i:Nat):Int) ((j:Nat):Int):=by decide +kernel
 exact this i j
theorem xR7 {a b:Int} (ha:sgOk a) (hb:sgOk b):ior .i64 a b=sgOr a b:=by
 obtain ⟨i,rfl⟩:=sg8 ha
 obtain ⟨j,rfl⟩:=sg8 hb
 have:∀i j:Fin 8,ior .i64 ((i:Nat):Int) ((j:Nat):Int)=sgOr ((i:Nat):Int) ((j:Nat):Int):=by decide +kernel
 exact this i j
theorem xPG {s:Int} (h:sgOk s):Ret P g false 83 [.int .i64 s] (.bool true):=by
 refine Ret.inF (by kernel_rfl) ?_
 have:=(xKa h (b:=7) ⟨by omega,by omega⟩).2 (xMa h)
 conv=>arg 3;reduce
 simp [this]
 exact RK.stab rfl
theorem xDf {s:Int} (h:sgOk s):Ret P g false 44 [.int .i64 s] (.int .i64 s):=by
 refine Ret.inF (by kernel_rfl) ?_
 conv=>arg 3;reduce
 simp
 refine (xPG h).use (n:=9) ?_ rfl ?_ <;> simp
 exact RK.stab rfl
theorem xLj (c:Int):Ret P g false 13 [.int .i64 c] (.int .i64 (sgOf c)):=by
 refine Ret.inF (by kernel_rfl) ?_
 conv=>arg 3;reduce
 simp
 refine xAj (fun h=>?_) (fun h=>?_) <;> simp [h]
 ·exact RK.eq (by simp [sgOf,h]) rfl
 ·refine xAj (fun h2=>?_) (fun h2=>?_) <;> simp [h2]
  ·exact RK.eq (by simp [sgOf,h,h2]) rfl
  ·exact RK.eq (by simp [sgOf,h,h2]) rfl
theorem xEs {a b:Int} (ha:sgOk a) (hb:sgOk b):Ret P g false 24 [.int .i64 a,.int .i64 b] (.int .i64 (sgJ a b)):=by
 refine Ret.inF (by kernel_rfl) ?_
 conv=>arg 3;reduce
 simp
 refine (xDf ha).use (n:=9) ?_ rfl ?_ <;> simp
 refine (xDf hb).use (n:=9) ?_ rfl ?_ <;> simp
 exact RK.eq (by rw [xR6 ha hb,xR7 ha hb]) rfl
theorem xFN {a b:Int} (ha:sgOk a) (hb:sgOk b):Ret P g false 12 [.int .i64 a,.int .i64 b] (.bool (decide (sgLe a b))):=by
 refine Ret.inF (by kernel_rfl) ?_
 conv=>arg 3;reduce
 simp
 refine (xDf ha).use (n:=9) ?_ rfl ?_ <;> simp
 refine (xDf hb).use (n:=9) ?_ rfl ?_ <;> simp
 exact RK.eq (by simp [xKa ha hb]) rfl
def sgListTo (s:Int) (k:Nat):List Int:=((List.range k).filter fun k=>s.toNat.testBit k).map fun k:Nat=>(k:Int) - 1
theorem xDg (s:Int) (k:Nat):(sgListTo s k).length<=k:=by
 unfold sgListTo
 have:=List.length_filter_le (fun k=>s.toNat.testBit k) (List.range k)
 simpa using this
theorem xIE (s:Int) (k:Nat):sgListTo s (k + 1)=sgListTo s k ++ if s.toNat.testBit k=true then [(k:Int) - 1] else []:=by
 unfold sgListTo
 rw [List.range_succ,List.filter_append,List.map_append]
 congr 1
 by_cases h:s.toNat.testBit k=true <;> simp [h]
theorem xE4 {s:Int} (h:sgOk s):sgListTo s 3=sgList s:=by
 unfold sgListTo sgList
 rw [xAw h];rfl
theorem xVV {s:Int} (h:sgOk s) {k:Nat} (hk:k < 3):ishift .shr .i64 s (k:Int)=some (.int .i64 (s.fdiv (2 ^ k)))/\(iand .i64 (s.fdiv (2 ^ k)) 1=1 ↔ s.toNat.testBit k=true):=by
 refine ⟨?_,?_⟩
 ·have e:min k IntKind.i64.bits=k:=by show min k 64=k;omega
  simp [ishift,show ¬ (k:Int) < 0 by omega,e]
 ·obtain ⟨i,rfl⟩:=sg8 h
  have:∀(i:Fin 8) (k:Fin 3),(iand .i64 (((i:Nat):Int).fdiv (2 ^ (k:Nat))) 1=1) ↔ ((i:Nat):Int).toNat.testBit (k:Nat)=true:=by decide +kernel
  exact this i ⟨k,hk⟩
theorem xKb {s:Int} (h:sgOk s):OwnL P g intc 1 236 [.int .i64 s] (sgList s):=by
 refine OwnL.in (cF0 (by kernel_rfl)) (nF (by kernel_rfl)) (vO ?_)
 conv=>arg 3;reduce
 simp
 refine W.whileI (fun (k:Nat) F S=>k<=3/\F 0=.int .i64 s/\F 5=.int .i64 k/\Has intc 1 S (F 3) (sgListTo s k)/\Bel S (F 3)) (fun k=>3 - k) ?_ 0 _ _ ?_
 ·rintro k F S ⟨hk,f0,f5,h3,b3⟩
  by_cases hlt:k < 3
  ·have e4:=wrapS k (by omega)
   have e5:IntKind.i64.wrap ((k:Int) - 1)=(k:Int) - 1:=xAa (by omega)
   have e6:IntKind.u64.wrap (k:Int)=(k:Int):=xB6 (by omega)
   have hlt':(k:Int) < 3:=by omega
   obtain ⟨hs1,hs2⟩:=xVV h hlt
   have hl:=xDg s k
   have hst:=xIE s k
   simp [f5,hlt']
   simp [f0,f5,hlt']
   refine (xDf h).use (n:=9) ?_ rfl ?_ <;> simp
   simp [e6,hs1]
   by_cases hb:s.toNat.testBit k=true
   ·simp [hs2,hb] at hst ⊢
    simp [e5]
    refine xA7 (e:=intc) (x:=(k:Int) - 1) (h3.new b3) rfl (by simp [room];omega) ?_
    intro S' hS hnx hoth
    simp [f0,f5,e4]
    exact ⟨k + 1,by omega,by omega,by omega,by rw [hst];simpa using hS,Bel.sl (by rw [hnx];exact Nat.lt_succ_self _)⟩
   ·simp [hs2,hb] at hst ⊢
    simp [f0,f5,e4]
    exact ⟨k + 1,by omega,by omega,by omega,by rw [hst];exact h3,b3⟩
  ·have:k=3:=by omega
   subst this
   simp [f5]
   rw [<- xE4 h]
   exact h3
 ·simp
  exact ⟨.nil,Bel.nil⟩
def tabV (t:List Int):AV:=.agg (t.map (AV.int .i64))
structure TabOk (t:List Int):Prop where
 len:t.length=9
 ok:∀v ∈ t,sgOk v
def tabIn (t:List Int) (x:Int) (o:Int) (m:List Int):Int:=m.foldl (fun o y=>sgOr o (sgEntry t x y)) o
def tabOut (t:List Int) (l m:List Int) (o:Int):Int:=l.foldl (fun o x=>tabIn t x o m) o
theorem xHI {s x:Int} (h:x ∈ sgList s):∃ k:Nat,k < 3/\x=(k:Int) - 1:=by
 simp only [sgList,List.mem_map,List.mem_filter] at h
 obtain ⟨k,⟨hk,_⟩,rfl⟩:=h
 refine ⟨k,?_,rfl⟩
 simp at hk;omega
theorem xMd {t:List Int} (ht:TabOk t) {i j:Nat} (hi:i < 3) (hj:j < 3):∃ v,t[i * 3 + j]?=some v/\sgEntry t ((i:Int) - 1) ((j:Int) - 1)=v/\sgOk v:=by
 have hlt:i * 3 + j < t.length:=by rw [ht.len];omega
 refine ⟨t[i * 3 + j],xgG hlt,?_,ht.ok _ (List.getElem_mem _)⟩
 unfold sgEntry
 rw [show ((i:Int) - 1 + 1).toNat=i by omega,show ((j:Int) - 1 + 1).toNat=j by omega,List.getD_eq_getElem?_getD,xgG hlt]
 rfl
theorem xMe {t:List Int} (ht:TabOk t) {a b:Int} (ha:sgOk a) (hb:sgOk b):Ret P g false 188 [tabV t,.int .i64 a,.int .i64 b] (.int .i64 (sgTab t a b)):=by
 refine Ret.inF (by kernel_rfl) ?_
 have hL:=fun x hx=>xHI (s:=a) (x:=x) hx
 have hM:=fun x hx=>xHI (s:=b) (x:=x) hx
 have hLf:FSl intc 1 (encF intc 1 (sgList a)) (sgList a):=xAl
 have hMf:FSl intc 1 (encF intc 1 (sgList b)) (sgList b):=xAl
 have hla:(sgList a).length<=3:=by rw [<- xE4 ha];exact xDg a 3
 have hlb:(sgList b).length<=3:=by rw [<- xE4 hb];exact xDg b 3
 have hT:sgTab t a b=tabOut t (sgList a) (sgList b) 0:=rfl
 have hc:(tabV t).cells=t.map (AV.int .i64):=rfl
 have htl:=ht.len
 rw [hT]
 conv=>arg 3;reduce
 simp [hc,htl]
 refine (xKb ha).ret.use (n:=9) ?_ rfl ?_ <;> simp
 generalize sgList a=l at *
 have hcl:(encF intc 1 l).cells=[encF intc 1 l]:=hLf.cells
 simp [hcl,hLf.len]
 refine W.whileI (fun (i:Nat) F S=>i<=l.length/\F 2=.int .i64 b/\F 3=.ptr 0 0 0/\F 7=.int .i64 (tabOut t (l.take i) (sgList b) 0)/\sgOk (tabOut t (l.take i) (sgList b) 0)/\F 13=encF intc 1 l/\F 14=.int .i64 l.length/\F 15=.int .i64 i/\S.obj 0=some (.row 9 [t.map (AV.int .i64)])) (fun i=>l.length - i) ?_ 0 _ _ ?_
 ·rintro i F S ⟨hi,f2,f3,f7,ho,f13,f14,f15,s0⟩
  by_cases hlt:i < l.length
  ·have e4:=wrapS i (by omega)
   obtain ⟨x,hx⟩:∃ x,l[i]?=some x:=⟨_,xgG hlt⟩
   obtain ⟨p,hp,rfl⟩:=hL x (xmG hx)
   have ep:IntKind.i64.wrap (p:Int)=(p:Int):=xAa (by omega)
   have hst:tabOut t (l.take (i + 1)) (sgList b) 0=tabIn t ((p:Int) - 1) (tabOut t (l.take i) (sgList b) 0) (sgList b):=by
    unfold tabOut
    rw [xAi _ _ _ _ _ hx]
   generalize tabOut t (l.take i) (sgList b) 0=o at *
   simp [f14,f15,hlt]
   simp [f13,f15,hLf.idx hx,intc,f2]
   refine (xKb hb).ret.use (n:=9) ?_ rfl ?_ <;> simp
   generalize sgList b=m at *
   have hcm:(encF intc 1 m).cells=[encF intc 1 m]:=hMf.cells
   simp [hcm,hMf.len]
   refine W.whileI (fun (j:Nat) F S=>j<=m.length/\F 2=.int .i64 b/\F 3=.ptr 0 0 0/\F 7=.int .i64 (tabIn t ((p:Int) - 1) o (m.take j))/\sgOk (tabIn t ((p:Int) - 1) o (m.take j))/\F 9=.int .i64 ((p:Int) - 1)/\F 13=encF intc 1 l/\F 14=.int .i64 l.length/\F 15=.int .i64 i/\F 20=encF intc 1 m/\F 21=.int .i64 m.length/\F 22=.int .i64 j/\S.obj 0=some (.row 9 [t.map (AV.int .i64)])) (fun j=>m.length - j) ?_ 0 _ _ ?_
   ·rintro j F S ⟨hj,f2,f3,f7,ho2,f9,f13,f14,f15,f20,f21,f22,s0⟩
    by_cases hltj:j < m.length
    ·have e5:=wrapS j (by omega)
     obtain ⟨y,hy⟩:∃ y,m[j]?=some y:=⟨_,xgG hltj⟩
     obtain ⟨q,hq,rfl⟩:=hM y (xmG hy)
     have eq:IntKind.i64.wrap (q:Int)=(q:Int):=xAa (by omega)
     obtain ⟨v,hv1,hv2,hv3⟩:=xMd ht hp hq
     have hst2:tabIn t ((p:Int) - 1) o (m.take (j + 1))=sgOr (tabIn t ((p:Int) - 1) o (m.take j)) v:=by
      unfold tabIn
      rw [xAi _ _ _ _ _ hy,hv2]
     have hor:=xR7 ho2 hv3
     have hp3:(p:Int) < 3:=by omega
     have hq3:(q:Int) < 3:=by omega
     generalize tabIn t ((p:Int) - 1) o (m.take j)=u at *
     simp [f21,f22,hltj]
     simp [f20,f22,hMf.idx hy,intc,f3,f7,f9,ep,eq,xAG,hp3,hq3,hp,hq,s0,hv1,hor]
     simp [f2,f9,f13,f14,f15,f20,f21,f22,e5]
     exact ⟨j + 1,by omega,by omega,by rw [hst2],by rw [hst2];exact xE0 ho2 hv3,by omega⟩
    ·have:j=m.length:=by omega
     subst this
     rw [List.take_length] at f7 ho2
     simp [f21,f22,f2,f3,f7,f13,f14,f15,e4]
     exact ⟨i + 1,by omega,by omega,by rw [hst],by rw [hst];exact ho2,by omega,s0⟩
   ·simp [f2,f3,f7,f13,f14,f15,tabIn,ho]
    exact s0
  ·have:i=l.length:=by omega
   subst this
   rw [List.take_length] at f7
   simp [f14,f15,f7]
   exact RK.stab rfl
 ·simp [tabOut]
  exact ⟨by omega,by omega⟩
theorem xRu:TabOk sumsT:=⟨rfl,by unfold sgOk;decide +kernel⟩
theorem xRv:TabOk prodT:=⟨rfl,by unfold sgOk;decide +kernel⟩
theorem xPH:Ret P g false 187 [] (tabV sumsT):=by
 refine Ret.inF (by kernel_rfl) ?_
 conv=>arg 3;reduce
 simp
 exact ⟨9,by simp [tabV,sumsT,mapOpt]⟩
theorem xIF:Ret P g false 189 [] (tabV prodT):=by
 refine Ret.inF (by kernel_rfl) ?_
 conv=>arg 3;reduce
 simp
 exact ⟨9,by simp [tabV,prodT,mapOpt]⟩
theorem xMf {a b:Int} (ha:sgOk a) (hb:sgOk b):Ret P g false 134 [.int .i64 a,.int .i64 b] (.int .i64 (sgAdd a b)):=by
 refine Ret.inF (by kernel_rfl) ?_
 conv=>arg 3;reduce
 simp
 refine xPH.use (n:=9) ?_ rfl ?_ <;> simp
 refine (xMe xRu ha hb).use (n:=9) (by simp [tabV,sumsT,mapOpt]) rfl ?_
 simp
 exact RK.stab rfl
theorem xMg {a b:Int} (ha:sgOk a) (hb:sgOk b):Ret P g false 136 [.int .i64 a,.int .i64 b] (.int .i64 (sgMul a b)):=by
 refine Ret.inF (by kernel_rfl) ?_
 conv=>arg 3;reduce
 simp
 refine xIF.use (n:=9) ?_ rfl ?_ <;> simp
 refine (xMe xRv ha hb).use (n:=9) (by simp [tabV,prodT,mapOpt]) rfl ?_
 simp
 exact RK.stab rfl
theorem xMh {a:Int} (ha:sgOk a):Ret P g false 133 [.int .i64 a] (.int .i64 (sgNeg a)):=by
 refine Ret.inF (by kernel_rfl) ?_
 conv=>arg 3;reduce
 simp
 refine (xMg ha (b:=1) ⟨by omega,by omega⟩).use (n:=9) ?_ rfl ?_ <;> simp
 exact RK.stab rfl
theorem xRw {a b:Int} (ha:sgOk a) (hb:sgOk b):Ret P g false 135 [.int .i64 a,.int .i64 b] (.int .i64 (sgSub a b)):=by
 refine Ret.inF (by kernel_rfl) ?_
 conv=>arg 3;reduce
 simp
 refine (xMh hb).use (n:=9) ?_ rfl ?_ <;> simp
 refine (xMf ha (xBC b)).use (n:=9) ?_ rfl ?_ <;> simp
 exact RK.stab rfl
end Go.Proofs.YtnhfofmhkfdpgaaGreatDoor.Vm
namespace Go.Proofs.YtnhfofmhkfdpgaaGreatDoor.Vm
open Go Go.RowKit
abbrev SEnv:=Option (List Int)
def gS (l:List Int) (i:Int):Int:=if 0<=i/\i < l.length then sgS (l.getD i.toNat 0) else 0
def SEnv.get (e:SEnv) (i:Int):Int:=match e with
 | none=>0
 | some l=>gS l i
def ownS (l:List Int) (n:Nat):List Int:=(List.range (max n l.length)).map fun k:Nat=>gS l (k:Int)
def SEnv.own (e:SEnv):SEnv:=e.map fun l=>ownS l 0
def joinS (l m:List Int):List Int:=(List.range (max m.length l.length)).map fun k:Nat=>sgJ (gS l k) (gS m k)
def SEnv.join (a b:SEnv):SEnv:=match a,b with
 | none,b=>b.own
 | a,none=>a.own
 | some l,some m=>some (joinS l m)
def SEnv.set (e:SEnv) (i:Int) (v:Int):SEnv:=e.own.map fun l=>if 0<=i/\i < l.length then l.set i.toNat (sgS v) else l
def SEnv.small (e:SEnv):Prop:=∀l,e=some l->l.length < 2 ^ 20
theorem xA3 (l:List Int) (n:Nat):(ownS l n).length=max n l.length:=by simp [ownS]
theorem xBO (l:List Int) (i:Int):sgOk (gS l i):=by
 unfold gS;split
 ·exact xBg _
 ·exact ⟨by omega,by omega⟩
theorem xHJ (l:List Int) (i:Int):sgS (gS l i)=gS l i:=xAw (xBO l i)
theorem xDh {l:List Int} {i:Int} (h:¬ (0<=i/\i < l.length)):gS l i=0:=by unfold gS;rw [if_neg h]
theorem xNv {l:List Int} {k:Nat} {v:Int} (h:l[k]?=some v):gS l (k:Int)=sgS v:=by
 have:=(xgS h).1
 unfold gS
 rw [if_pos (by omega)]
 simp [List.getD_eq_getElem?_getD,h]
theorem SEnv.get_ok (e:SEnv) (i:Int):sgOk (e.get i):=by
 cases e with
 | none=>exact ⟨Int.le_refl _,by simp [SEnv.get]⟩
 | some l=>exact xBO l i
theorem xEt {n:Nat} {h:Nat->Int} (i:Int):gS ((List.range n).map h) i=if 0<=i/\i < n then sgS (h i.toNat) else 0:=by
 by_cases hi:0<=i/\i < n
 ·obtain ⟨k,rfl⟩:∃ k:Nat,i=(k:Int):=⟨i.toNat,by omega⟩
  have hk:k < n:=by omega
  rw [if_pos hi,xNv (v:=h k) (by simp [hk])];simp
 ·rw [if_neg hi,xDh (by simpa using hi)]
theorem xGK (l:List Int) (n:Nat) (i:Int):gS (ownS l n) i=gS l i:=by
 unfold ownS
 rw [xEt]
 split
 ·rename_i h
  rw [Int.toNat_of_nonneg h.1,xHJ]
 ·rename_i h
  rw [xDh (by omega)]
theorem xVW:sgJ 0 0=0:=by decide +kernel
theorem xIG (l m:List Int) (i:Int):gS (joinS l m) i=sgJ (gS l i) (gS m i):=by
 unfold joinS
 rw [xEt]
 split
 ·rename_i h
  rw [Int.toNat_of_nonneg h.1,xAw (xPz _ _)]
 ·rename_i h
  rw [xDh (l:=l) (by omega),xDh (l:=m) (by omega),xVW]
theorem xEu (l m:List Int):(joinS l m).length=max m.length l.length:=by simp [joinS]
theorem xVX {l:List Int} {i:Int} (h:0<=i/\i < l.length) (v j:Int):gS (l.set i.toNat v) j=if j=i then sgS v else gS l j:=by
 by_cases hj:0<=j/\j < l.length
 ·obtain ⟨k,rfl⟩:∃ k:Nat,j=(k:Int):=⟨j.toNat,by omega⟩
  by_cases hk:(k:Int)=i
  ·have hkl:k < l.length:=by omega
   subst hk
   rw [if_pos rfl,xNv (v:=v)]
   simp [hkl]
  ·rw [if_neg hk]
   unfold gS
   rw [if_pos (by simpa using hj),if_pos hj]
   simp only [List.getD_eq_getElem?_getD,Int.toNat_natCast]
   rw [List.getElem?_set_ne (by omega)]
 ·rw [if_neg (by omega),xDh hj,xDh (by simpa using hj)]
def leS (l m:List Int):Prop:=l.length<=m.length/\∀i,sgLe (gS l i) (gS m i)
def SEnv.le (a b:SEnv):Prop:=∀l,a=some l->∃ m,b=some m/\leS l m
def okS (l:List Int):Prop:=l.length<=64/\∀v ∈ l,sgOk v
def SEnv.ok (e:SEnv):Prop:=∀l,e=some l->okS l
theorem SEnv.ok_none:SEnv.ok none:=fun l h=>by cases h
theorem SEnv.ok_some {l:List Int} (h:okS l):SEnv.ok (some l):=fun m hm=>by cases hm;exact h
theorem SEnv.ok.small {e:SEnv} (h:e.ok):e.small:=fun l hl=>by have:=(h l hl).1;omega
theorem xMi (l:List Int):leS l l:=⟨Nat.le_refl _,fun i=>xAx (xBO l i)⟩
theorem xPI {l m q:List Int} (h1:leS l m) (h2:leS m q):leS l q:=⟨Nat.le_trans h1.1 h2.1,fun i=>xAU (xBO _ _) (xBO _ _) (xBO _ _) (h1.2 i) (h2.2 i)⟩
theorem xPJ {l:List Int} (h:okS l) {k:Nat} {v:Int} (hv:l[k]?=some v):gS l (k:Int)=v:=by rw [xNv hv,xAw (h.2 v (xmG hv))]
theorem xMj {l m:List Int} (hl:okS l) (hm:okS m) (hn:l.length=m.length) (h:∀i,gS l i=gS m i):l=m:=by
 apply List.ext_getElem?
 intro k
 by_cases hk:k < l.length
 ·obtain ⟨a,ha⟩:∃ v,l[k]?=some v:=⟨_,xgG hk⟩
  obtain ⟨b,hb⟩:∃ v,m[k]?=some v:=⟨_,xgG (by omega)⟩
  have:=h (k:Int)
  rw [xPJ hl ha,xPJ hm hb] at this
  rw [ha,hb,this]
 ·rw [List.getElem?_eq_none (by omega),List.getElem?_eq_none (by omega)]
theorem xPK {l:List Int} (h:okS l):ownS l 0=l:=by
 refine xMj ⟨by rw [xA3];have:=h.1;omega,fun v hv=>?_⟩ h (by rw [xA3];omega) fun i=>xGK l 0 i
 simp only [ownS,List.mem_map] at hv
 obtain ⟨k,_,rfl⟩:=hv
 exact xBO _ _
theorem SEnv.own_of {e:SEnv} (h:e.ok):e.own=e:=by
 cases e with
 | none=>rfl
 | some l=>simp [SEnv.own,xPK (h l rfl)]
theorem SEnv.le_refl (e:SEnv):e.le e:=fun l h=>⟨l,h,xMi l⟩
theorem SEnv.le_none (e:SEnv):SEnv.le none e:=fun l h=>by cases h
theorem SEnv.le_trans {a b c:SEnv} (h1:a.le b) (h2:b.le c):a.le c:=by
 intro l hl
 obtain ⟨m,hm,h3⟩:=h1 l hl
 obtain ⟨q,hq,h4⟩:=h2 m hm
 exact ⟨q,hq,xPI h3 h4⟩
theorem SEnv.le_anti {a b:SEnv} (ha:a.ok) (hb:b.ok) (h1:a.le b) (h2:b.le a):a=b:=by
 cases a with
 | none =>
  cases b with
  | none=>rfl
  | some m=>obtain ⟨l,hl,_⟩:=h2 m rfl;cases hl
 | some l =>
  obtain ⟨m,hm,h3⟩:=h1 l rfl
  subst hm
  obtain ⟨l',hl',h4⟩:=h2 m rfl
  cases hl'
  have:=h3.1
  have:=h4.1
  rw [xMj (ha l rfl) (hb m rfl) (by omega) fun i=>xPA (xBO _ _) (xBO _ _) (h3.2 i) (h4.2 i)]
theorem SEnv.own_le (e:SEnv):e.own.le e/\e.le e.own:=by
 cases e with
 | none=>exact ⟨SEnv.le_none _,SEnv.le_none _⟩
 | some l=>exact ⟨fun m hm=>by cases hm;exact ⟨l,rfl,by rw [xA3];omega,fun i=>by rw [xGK];exact xAx (xBO _ _)⟩,fun m hm=>by cases hm;exact ⟨_,rfl,by rw [xA3];omega,fun i=>by rw [xGK];exact xAx (xBO _ _)⟩⟩
theorem xRx {l m:List Int} (hl:okS l) (hm:okS m):okS (joinS l m):=by
 refine ⟨by rw [xEu];have:=hl.1;have:=hm.1;omega,fun v hv=>?_⟩
 simp only [joinS,List.mem_map] at hv
 obtain ⟨k,_,rfl⟩:=hv
 exact xPz _ _
theorem SEnv.join_ok {a b:SEnv} (ha:a.ok) (hb:b.ok):(a.join b).ok:=by
 cases a with
 | none=>show SEnv.ok b.own;rw [SEnv.own_of hb];exact hb
 | some l =>
  cases b with
  | none=>show SEnv.ok (SEnv.own (some l));rw [SEnv.own_of ha];exact ha
  | some m=>exact SEnv.ok_some (xRx (ha l rfl) (hb m rfl))
theorem xTk {l m:List Int} {i:Int}:sgJ (gS l i) (gS m i)=sgOr (gS l i) (gS m i):=xR6 (xBO _ _) (xBO _ _)
theorem SEnv.le_join_l (a b:SEnv):a.le (a.join b):=by
 cases a with
 | none=>exact SEnv.le_none _
 | some l =>
  cases b with
  | none=>exact (SEnv.own_le (some l)).2
  | some m=>exact fun l' hl'=>by cases hl';exact ⟨_,rfl,by rw [xEu];omega,fun i=>by rw [xIG,xTk];exact xJ6 (xBO _ _) (xBO _ _)⟩
theorem SEnv.le_join_r (a b:SEnv):b.le (a.join b):=by
 cases a with
 | none=>exact b.own_le.2
 | some l =>
  cases b with
  | none=>exact SEnv.le_none _
  | some m=>exact fun l' hl'=>by cases hl';exact ⟨_,rfl,by rw [xEu];omega,fun i=>by rw [xIG,xTk];exact xJ7 (xBO _ _) (xBO _ _)⟩
theorem SEnv.join_le {a b c:SEnv} (h1:a.le c) (h2:b.le c):(a.join b).le c:=by
 cases a with
 | none=>exact SEnv.le_trans b.own_le.1 h2
 | some l =>
  cases b with
  | none=>exact SEnv.le_trans (SEnv.own_le (some l)).1 h1
  | some m =>
   intro l' hl'
   cases hl'
   obtain ⟨q,hq,h3⟩:=h1 l rfl
   obtain ⟨q',hq',h4⟩:=h2 m rfl
   rw [hq] at hq';cases hq'
   refine ⟨q,hq,by rw [xEu];have:=h3.1;have:=h4.1;omega,fun i=>?_⟩
   rw [xIG,xTk]
   exact xPB (xBO _ _) (xBO _ _) (xBO _ _) (h3.2 i) (h4.2 i)
theorem SEnv.join_mono {a b a' b':SEnv} (h1:a.le a') (h2:b.le b'):(a.join b).le (a'.join b'):=SEnv.join_le (SEnv.le_trans h1 (SEnv.le_join_l a' b')) (SEnv.le_trans h2 (SEnv.le_join_r a' b'))
theorem SEnv.join_on (a b:SEnv):(a.join b).isSome=(a.isSome || b.isSome):=by
 cases a <;> cases b <;> simp [SEnv.join,SEnv.own]
theorem SEnv.get_mono {a b:SEnv} (h:a.le b) (i:Int):sgLe (a.get i) (b.get i):=by
 cases a with
 | none=>exact xGH (b.get_ok i)
 | some l =>
  obtain ⟨m,hm,h3⟩:=h l rfl
  subst hm
  exact h3.2 i
theorem SEnv.set_on (e:SEnv) (i v:Int):(e.set i v).isSome=e.isSome:=by cases e <;> simp [SEnv.set,SEnv.own]
theorem SEnv.set_some (l:List Int) (i v:Int):SEnv.set (some l) i v=some (if 0<=i/\i < l.length then (ownS l 0).set i.toNat (sgS v) else ownS l 0):=by
 have:=xA3 l 0
 simp only [Nat.zero_max] at this
 simp [SEnv.set,SEnv.own,this]
theorem SEnv.set_get (l:List Int) (i v j:Int):SEnv.get (SEnv.set (some l) i v) j=if 0<=i/\i < l.length/\j=i then sgS v else gS l j:=by
 have hl:=xA3 l 0
 simp only [Nat.zero_max] at hl
 rw [SEnv.set_some]
 show gS _ j=_
 by_cases h:0<=i/\i < l.length
 ·rw [if_pos h,xVX (by omega),xGK,xLi]
  by_cases hj:j=i
  ·rw [if_pos hj,if_pos ⟨h.1,h.2,hj⟩]
  ·rw [if_neg hj,if_neg fun h'=>hj h'.2.2]
 ·rw [if_neg h,xGK,if_neg fun h'=>h ⟨h'.1,h'.2.1⟩]
theorem SEnv.set_len {l m:List Int} {i v:Int} (h:SEnv.set (some l) i v=some m):m.length=l.length:=by
 have hl:=xA3 l 0
 rw [SEnv.set_some] at h
 cases h
 split <;> simp [hl]
theorem SEnv.set_ok {e:SEnv} (h:e.ok) (i v:Int):(e.set i v).ok:=by
 cases e with
 | none=>exact SEnv.ok_none
 | some l =>
  rw [SEnv.set_some]
  have hl:=h l rfl
  rw [xPK hl]
  refine SEnv.ok_some ⟨by split <;> simp [hl.1],fun u hu=>?_⟩
  split at hu
  ·rcases List.mem_or_eq_of_mem_set hu with h1 | h1
   ·exact hl.2 u h1
   ·rw [h1];exact xBg _
  ·exact hl.2 u hu
theorem SEnv.set_mono {a b:SEnv} (h:a.le b) (i:Int) {u v:Int} (huv:sgLe (sgS u) (sgS v)):(a.set i u).le (b.set i v):=by
 cases a with
 | none=>exact SEnv.le_none _
 | some l =>
  obtain ⟨m,hm,h3⟩:=h l rfl
  subst hm
  intro l' hl'
  have h4:SEnv.set (some m) i v=some (if 0<=i/\i < m.length then (ownS m 0).set i.toNat (sgS v) else ownS m 0):=SEnv.set_some m i v
  refine ⟨_,h4,?_,fun j=>?_⟩
  ·have h5:=SEnv.set_len hl'
   have h6:=SEnv.set_len h4
   have:=h3.1
   omega
  ·have e1:=SEnv.set_get l i u j
   have e2:=SEnv.set_get m i v j
   rw [hl'] at e1
   rw [h4] at e2
   have e1':gS l' j=_:=e1
   have e2':gS (if 0<=i/\i < m.length then (ownS m 0).set i.toNat (sgS v) else ownS m 0) j=_:=e2
   rw [e1',e2']
   by_cases h7:0<=i/\i < l.length/\j=i
   ·rw [if_pos h7,if_pos ⟨h7.1,by have:=h3.1;omega,h7.2.2⟩];exact huv
   ·rw [if_neg h7]
    by_cases h8:0<=i/\i < m.length/\j=i
    ·rw [if_pos h8,xDh (by omega)];exact xGH (xBg _)
    ·rw [if_neg h8];exact h3.2 j
theorem xR8 {a:Int} (h:sgOk a):sgLe a 7:=xMa h
def SEnv.ht:SEnv->Nat
 | none=>0
 | some l=>1 + l.length + (l.map sgPop).sum
theorem htS:∀{l m:List Int},okS l->okS m->leS l m->(l.map sgPop).sum<=(m.map sgPop).sum/\(l.length=m.length->l ≠ m->(l.map sgPop).sum < (m.map sgPop).sum)/\(m.map sgPop).sum<=3 * m.length:=by
 have tail:∀{a:Int} {l:List Int},okS (a :: l)->okS l:=fun h=>⟨by have:=h.1;simp at this;omega,fun v hv=>h.2 v (by simp [hv])⟩
 have gcons:∀(a:Int) (l:List Int) (k:Nat),gS (a :: l) ((k:Int) + 1)=gS l k:=by
  intro a l k
  by_cases hk:k < l.length
  ·obtain ⟨v,hv⟩:∃ v,l[k]?=some v:=⟨_,xgG hk⟩
   rw [xNv hv]
   have:(a :: l)[k + 1]?=some v:=by simpa using hv
   have h2:=xNv this
   rw [<- h2];congr 1
  ·rw [xDh (l:=l) (by omega),xDh (l:=a :: l) (by simp only [List.length_cons];omega)]
 have bound:∀{m:List Int},okS m->(m.map sgPop).sum<=3 * m.length:=by
  intro m
  induction m with
  | nil=>intro _;simp
  | cons b m ih =>
   intro hm
   have h1:=ih (tail hm)
   have hb:=hm.2 b (by simp)
   have:=(xMc hb hb (xAx hb)).2.2
   simp only [List.map_cons,List.sum_cons,List.length_cons]
   omega
 intro l
 induction l with
 | nil =>
  intro m _ hm _
  refine ⟨by simp,fun h hne=>?_,bound hm⟩
  cases m with
  | nil=>exact absurd rfl hne
  | cons b m=>simp at h
 | cons a l ih =>
  intro m hl hm h
  cases m with
  | nil=>have:=h.1;simp at this
  | cons b m =>
   have h':leS l m:=by
    refine ⟨by have:=h.1;simpa using this,fun i=>?_⟩
    by_cases hi:0<=i
    ·obtain ⟨k,rfl⟩:∃ k:Nat,i=(k:Int):=⟨i.toNat,by omega⟩
     have:=h.2 ((k:Int) + 1)
     rw [gcons,gcons] at this
     exact this
    ·rw [xDh (by omega)];exact xGH (xBO _ _)
   obtain ⟨h1,h2,h3⟩:=ih (tail hl) (tail hm) h'
   have h0:=h.2 ((0:Nat):Int)
   rw [xPJ hl (k:=0) (v:=a) rfl,xPJ hm (k:=0) (v:=b) rfl] at h0
   obtain ⟨g1,g2,g3⟩:=xMc (hl.2 a (by simp)) (hm.2 b (by simp)) h0
   simp only [List.map_cons,List.sum_cons,List.length_cons]
   refine ⟨by omega,fun hn hne=>?_,by omega⟩
   by_cases hab:a=b
   ·have:l ≠ m:=fun e=>hne (by rw [hab,e])
    have:=h2 (by omega) this
    omega
   ·have:=g2 hab
    omega
theorem SEnv.ht_top {a:SEnv} (ha:a.ok):a.ht<=257:=by
 cases a with
 | none=>simp [SEnv.ht]
 | some l =>
  have h1:=htS (ha l rfl) (ha l rfl) (xMi l)
  have h2:=(ha l rfl).1
  simp only [SEnv.ht]
  omega
theorem SEnv.ht_lt {a b:SEnv} (ha:a.ok) (hb:b.ok) (hle:a.le b) (hne:a ≠ b):a.ht < b.ht:=by
 cases a with
 | none =>
  cases b with
  | none=>exact absurd rfl hne
  | some m=>simp only [SEnv.ht];omega
 | some l =>
  obtain ⟨m,hm,h3⟩:=hle l rfl
  subst hm
  have h1:=htS (ha l rfl) (hb m rfl) h3
  have h4:=h3.1
  simp only [SEnv.ht]
  by_cases hn:l.length=m.length
  ·have:=h1.2.1 hn fun e=>hne (by rw [e])
   omega
  ·omega
def Ins.sgn (i:Ins) (e:SEnv) (ans:Int):Int :=
 if i.kind=0 then sgOf i.c else if i.kind=1 then e.get i.a else if i.kind=2 then sgNeg (e.get i.a) else if i.kind=3 then sgAdd (e.get i.a) (e.get i.b) else
 if i.kind=4 then sgSub (e.get i.a) (e.get i.b) else if i.kind=5 then sgMul (e.get i.a) (e.get i.b) else if i.kind=7 then ans else 7
def Ins.sign (i:Ins) (e:SEnv) (ans:Int):SEnv:=e.set i.def (i.sgn e ans)
theorem Ins.sign_ok {e:SEnv} (h:e.ok) (i:Ins) (ans:Int):(i.sign e ans).ok:=SEnv.set_ok h _ _
theorem Ins.sign_on (i:Ins) (e:SEnv) (ans:Int):(i.sign e ans).isSome=e.isSome:=SEnv.set_on _ _ _
theorem Ins.sgn_mono {a b:SEnv} (h:a.le b) {u v:Int} (huv:sgLe (sgS u) (sgS v)) (i:Ins):sgLe (sgS (i.sgn a u)) (sgS (i.sgn b v)):=by
 have g1:=SEnv.get_mono h i.a
 have g2:=SEnv.get_mono h i.b
 have o1:=a.get_ok i.a
 have o2:=a.get_ok i.b
 have o3:=b.get_ok i.a
 have o4:=b.get_ok i.b
 unfold Ins.sgn
 repeat' split
 all_goals first
  | exact huv
  | exact xAx (xBg _)
  | (rw [xAw o1,xAw o3];exact g1)
  | (rw [xAw (xBC _),xAw (xBC _)];exact xE3 o1 o3 g1)
  | (rw [xAw (xBA _ _),xAw (xBA _ _)];exact xE1 o1 o2 o3 o4 g1 g2)
  | (rw [xAw (xFM _ _),xAw (xFM _ _)];exact xNu o1 o2 o3 o4 g1 g2)
  | (rw [xAw (xBB _ _),xAw (xBB _ _)];exact xE2 o1 o2 o3 o4 g1 g2)
theorem Ins.sign_mono {a b:SEnv} (h:a.le b) {u v:Int} (huv:sgLe (sgS u) (sgS v)) (i:Ins):(i.sign a u).le (i.sign b v):=SEnv.set_mono h _ (i.sgn_mono h huv)
end Go.Proofs.YtnhfofmhkfdpgaaGreatDoor.Vm
namespace Go.Proofs.YtnhfofmhkfdpgaaGreatDoor.Vm
set_option maxRecDepth 100000
open Go Go.RowKit
variable {N:Nat} {g:Glob}
def envcS:SEnv->List AV
 | none=>[.bool false,.nilsl]
 | some l=>[.bool true,.fsl 1 (els intc l)]
@[simp] theorem xUa:envcS none=[.bool false,.nilsl]:=_root_.id rfl
@[simp] theorem xBh {l:List Int}:envcS (some l)=[.bool true,.fsl 1 (els intc l)]:=_root_.id rfl
@[simp] def encES (e:SEnv):AV:=.agg (envcS e)
def opsS:AV:=.agg [.func (.func 24) [] [],.func (.func 12) [] []]
theorem xAY:AV.agg [.func (.func 24) [] [],.func (.func 12) [] []]=opsS:=rfl
@[simp] theorem xGL {S:St} {n:Nat} (e:SEnv):mapOpt (pict S [] (n + 1)) (envcS e)=some (envcS e):=by cases e <;> simp [mapOpt]
theorem RK.rowES {S:St} {o k:Nat} {l:List Int} (h:S.obj o=some (.row 1 (els intc l))) (hk:l.length=k):RK (.agg (envcS (some l))) (.agg [.bool true,.sl 1 o 0 k]) S:=by
 refine ⟨8,?_⟩
 have:=xA6 (e:=intc) (S:=S) (n:=5) h hk
 simp only [xB4,mapOpt,xCv,this]
 rfl
@[simp] theorem xTl (e:SEnv):solids (envcS e)=true:=by cases e <;> simp
@[simp] theorem xVY (e:SEnv):(envcS e).length=2:=by cases e <;> rfl
theorem RK.envS {e e':SEnv} {S:St} (h:e=e'):RK (.agg (envcS e')) (.agg (envcS e)) S:=by subst h;exact ⟨9,by simp⟩
@[simp] theorem xUc (e:SEnv):(∀x,x ∈ envcS e->x.one=true)=True:=by cases e <;> simp
@[simp] theorem xUd (e:SEnv):(envcS e).take 2=envcS e:=by cases e <;> rfl
@[simp] theorem xUe (u v:AV) (e:SEnv):over [u,v] 0 (envcS e)=envcS e:=by cases e <;> rfl
@[simp] theorem xTm (e' e:SEnv):over (envcS e') 0 (envcS e)=envcS e:=by cases e <;> cases e' <;> rfl
@[simp] theorem xNx (e:SEnv):okEl 2 (envcS e)=true:=by cases e <;> rfl
theorem xBY:Ret P g false 45 [] opsS:=by
 refine Ret.inF (by kernel_rfl) ?_
 conv=>arg 3;reduce
 simp
 exact ⟨9,by simp [opsS,xB5,mapOpt]⟩
theorem xGM {v:Int} (hv:sgOk v):Ret P g false 84 [opsS,.int .i64 v] (.int .i64 v):=by
 refine Ret.inF (by kernel_rfl) ?_
 conv=>arg 3;reduce
 simp [opsS]
 refine (xEs hv xAv).use (n:=9) ?_ rfl ?_ <;> simp
 exact RK.eq (by rw [xRp,xAw hv]) rfl
@[simp] theorem xVZ {S:St} {n:Nat}:pict S [] (n + 3) opsS=some opsS:=by simp [opsS,xB5]
@[simp] theorem xUf:opsS.solid=true:=by simp [opsS]
@[simp] theorem xDt:opsS.cells=[.func (.func 24) [] [],.func (.func 12) [] []]:=rfl
theorem xDu (e:SEnv) (i:Int) (he:e.ok):Ret P g false 46 [opsS,encES e,.int .i64 i] (.int .i64 (e.get i)):=by
 refine Ret.in c46 (by simp) ?_
 cases e with
 | none =>
  simp [k46]
  exact RK.eq rfl rfl
 | some l =>
  simp [k46]
  refine xAP (fun h1=>?_) (fun h1=>?_) <;> simp [h1]
  ·refine xAj (fun h2=>?_) (fun h2=>?_) <;> simp [h2]
   ·refine RK.eq ?_ rfl
    simp only [SEnv.get,gS]
    rw [if_neg (by omega)]
   ·obtain ⟨k,rfl⟩:∃ k:Nat,i=(k:Int):=⟨i.toNat,by omega⟩
    have hk:k < l.length:=by omega
    obtain ⟨v,hv⟩:∃ v,l[k]?=some v:=⟨_,xgG hk⟩
    refine Dra.auto [] mix ?_ ?_
    ·kernel_rfl
    simp [classes,xAL,hv]
    refine (xGM ((he l rfl).2 v (xmG hv))).b (n:=9) ?_ rfl ?_ <;> simp [xAY]
    refine RK.eq ?_ rfl
    show AV.int .i64 v=AV.int .i64 (gS l k)
    rw [xPJ (he l rfl) hv]
  ·refine RK.eq ?_ rfl
   simp only [SEnv.get,gS]
   rw [if_neg (by omega)]
theorem xIH (n:Int):Ret P g false 89 [opsS,encES none,.int .i64 n] (encES none):=by
 refine Ret.inF (by kernel_rfl) ?_
 conv=>arg 3;reduce
 simp
 exact RK.agg (by simp [AV.stab])
theorem xEv (l:List Int) (n:Nat) (hok:okS l) (hn:n < 2 ^ 20):Own P g 89 [opsS,encES (some l),.int .i64 (n:Int)] (.agg [.bool true,.sl 1 0 0 (max n l.length)]) (St.ofL [.row 1 (els intc (ownS l n))]):=by
 refine Own.in [3] c89 (by simp) (by simp) ?_
 have hl:l.length < 2 ^ 20:=by have:=hok.1;omega
 have hm:max n l.length < 2 ^ 20:=Nat.max_lt.2 ⟨hn,hl⟩
 have hroom:max n l.length<=room:=by simp only [room];omega
 have e1:(if n < l.length then (l.length:Int) else n)=((max n l.length:Nat):Int):=by split <;> omega
 simp [k89,e1]
 have hcast:(max (n:Int) l.length)=((max n l.length:Nat):Int):=by omega
 try simp only [hcast]
 have hol:=xA3 l n
 generalize hM:max n l.length=m at *
 simp [hroom]
 refine W.whileI (fun (a:Nat) F S=>a<=m/\F 3=.ptr 0 0 0/\F 4=.ptr 1 0 0/\F 6=.ptr 2 0 0/\F 7=.ptr 4 0 0/\F 22=.int .i64 m/\F 23=.int .i64 a/\S.obj 0=some (.row 2 [opsS.cells])/\S.obj 1=some (.row 2 [envcS (some l)]) /\
  S.obj 2=some (.row 2 [[.bool false,.nilsl]])/\S.obj 4=some (.row 2 [[.bool true,.sl 1 3 0 m]])/\∃ o:List Int,o.length=m/\o.take a=(ownS l n).take a/\S.obj 3=some (.row 1 (els intc o))) (fun a=>m - a) ?_ 0 _ _ ?_
 ·rintro a F S ⟨ha,h3,h4,h6,h7,h22,h23,s0,s1,s2,s4,o,ho,hot,s3⟩
  by_cases hlt:a < m
  ·have e4:=wrapS a (by omega)
   obtain ⟨u,hu⟩:∃ u,o[a]?=some u:=⟨_,xgG (by omega)⟩
   simp [h22,h23,hlt]
   refine Dra.auto [] mix ?_ ?_
   ·kernel_rfl
   simp only [xDt,xBh] at s0 s1
   simp [classes,h3,h4,h6,h7,h22,h23,s0,s1,s4]
   refine (xDu (some l) a (SEnv.ok_some hok)).b (n:=9) ?_ rfl ?_ <;> simp [xAY]
   simp [intc,xAd hlt,s3,hu,h3,h4,h6,h7,h22,h23,e4]
   refine ⟨a + 1,by omega,by omega,by omega,by simpa using s0,by simpa using s1,by simpa using s2,by simpa using s4,o.set a (gS l a),by simp [ho],?_,by rw [<- xAg];rfl⟩
   rw [xAo (by omega),hot]
   have:(ownS l n)[a]?=some (gS l a):=by simp [ownS,hM,hlt]
   rw [xAe this]
  ·have:a=m:=by omega
   subst this
   have hoR:o=ownS l n:=by rw [List.take_of_length_le (by omega),List.take_of_length_le (by omega)] at hot;exact hot
   subst hoR
   simp [h22,h23,h7,h6,s4,s2]
   simp [RO,s3,ho]
 ·simp
  exact ⟨List.replicate m 0,by simp,by simp [els,intc]⟩
theorem xGN (e:SEnv) (he:e.ok):Ret P g true 89 [opsS,encES e,.int .i64 0] (encES e.own):=by
 cases e with
 | none =>
  refine Ret.inP (cF0 (by kernel_rfl)) (nF (by kernel_rfl)) (vO ?_)
  conv=>arg 3;reduce
  simp
  exact ⟨rfl,9,by simp [SEnv.own,mapOpt]⟩
 | some l =>
  have hl:=xA3 l 0
  refine (xEv l 0 (he l rfl) (by omega)).ret (m:=9) ?_
  have:=xA6 (e:=intc) (S:=St.ofL [.row 1 (els intc (ownS l 0))]) (o:=0) (n:=6) rfl hl
  simp only [xB4,mapOpt,xCv,this]
  rfl
theorem xLk (a b:SEnv) (ha:a.ok) (hb:b.ok):Ret P g false 52 [opsS,encES a,encES b] (encES (a.join b)):=by
 refine Ret.inF (by kernel_rfl) ?_
 conv=>arg 3;reduce
 simp
 cases a with
 | none =>
  simp
  cases b with
  | none =>
   simp
   refine (xGN (none:SEnv) ha).use (n:=9) ?_ rfl ?_ <;> simp [xAY]
   exact RK.envS rfl
  | some m =>
   simp
   refine (xGN (some m) hb).use (n:=9) ?_ rfl ?_ <;> simp [xAY]
   exact RK.envS rfl
 | some l =>
  simp
  cases b with
  | none =>
   simp
   refine (xGN (some l) ha).use (n:=9) ?_ rfl ?_ <;> simp [xAY]
   exact RK.envS rfl
  | some m =>
   have hl:l.length < 2 ^ 20:=by have:=(ha l rfl).1;omega
   have hm:m.length < 2 ^ 20:=by have:=(hb m rfl).1;omega
   simp
   refine (xEv l m.length (ha l rfl) hm).use' (n:=9) ?_ ?_ ?_ <;> simp [xAY]
   have hn:max m.length l.length < 2 ^ 20:=Nat.max_lt.2 ⟨hm,hl⟩
   have hol:=xA3 l m.length
   have hcast:(max (m.length:Int) l.length)=((max m.length l.length:Nat):Int):=by omega
   try simp only [hcast]
   have hJ:(joinS l m).length=max m.length l.length:=by simp [joinS]
   have hget:∀k,k < max m.length l.length->(ownS l m.length)[k]?=some (gS l k):=fun k hk=>by simp [ownS,hk]
   have hjg:∀k,k < max m.length l.length->(joinS l m)[k]?=some (sgJ (gS l k) (gS m k)):=fun k hk=>by simp [joinS,hk]
   generalize max m.length l.length=n at *
   refine W.whileI (fun (a:Nat) F S=>a<=n/\F 3=.ptr 0 0 0/\F 5=.ptr 2 0 0/\F 6=.ptr 3 0 0/\F 7=.ptr 5 0 0/\F 28=.int .i64 n/\F 29=.int .i64 a/\S.obj 0=some (.row 2 [opsS.cells])/\S.obj 2=some (.row 2 [envcS (some m)]) /\
    S.obj 3=some (.row 2 [[.bool false,.nilsl]])/\S.obj 5=some (.row 2 [[.bool true,.sl 1 4 0 n]])/\∃ o:List Int,o.length=n/\o.take a=(joinS l m).take a/\o.drop a=(ownS l m.length).drop a/\S.obj 4=some (.row 1 (els intc o))) (fun a=>n - a) ?_ 0 _ _ ?_
   ·rintro a F S ⟨ha,h3,h5,h6,h7,h28,h29,s0,s2,s3,s5,o,ho,hot,hod,s4⟩
    by_cases hlt:a < n
    ·have e4:=wrapS a (by omega)
     have hoa:o[a]?=some (gS l a):=by
      have h1:=hget a hlt
      have h2:(o.drop a)[0]?=((ownS l m.length).drop a)[0]?:=by rw [hod]
      simp only [List.getElem?_drop,Nat.add_zero] at h2
      rw [h2,h1]
     simp [h28,h29,hlt]
     refine Dra.auto [] mix ?_ ?_
     ·kernel_rfl
     simp only [xDt,xBh] at s0 s2
     simp [classes,h3,h5,h6,h7,h28,h29,s0,s2,s5,xAd hlt,s4,hoa,intc]
     refine (xDu (some m) a (SEnv.ok_some (hb m rfl))).b (n:=9) ?_ rfl ?_ <;> simp [xAY]
     refine (xEs (xBO l a) (SEnv.get_ok (some m) a)).b (n:=9) ?_ rfl ?_ <;> simp
     simp [intc,xAd hlt,s4,hoa,h3,h5,h6,h7,h28,h29,e4]
     refine ⟨a + 1,by omega,by omega,by omega,by simpa using s0,by simpa using s2,by simpa using s3,by simpa using s5,o.set a (sgJ (gS l a) (gS m a)),by simp [ho],?_,?_,by rw [<- xAg];rfl⟩
     ·rw [xAo (by omega),hot,xAe (hjg a hlt)]
     ·rw [List.drop_set_of_lt (by omega)]
      have h2:(o.drop a).drop 1=((ownS l m.length).drop a).drop 1:=by rw [hod]
      simpa [List.drop_drop,Nat.add_comm] using h2
    ·have:a=n:=by omega
     subst this
     have hoR:o=joinS l m:=by rw [List.take_of_length_le (by omega),List.take_of_length_le (by omega)] at hot;exact hot
     subst hoR
     simp [h28,h29,h7,h6,s5,s3]
     exact RK.rowES (by simp [s4]) hJ
   ·simp
    exact ⟨ownS l m.length,by simp [hol],rfl,rfl⟩
theorem xRy (e:SEnv) (i:Int) {v:Int} (hv:sgOk v) (he:e.ok):Ret P g false 132 [opsS,encES e,.int .i64 i,.int .i64 v] (encES (e.set i v)):=by
 refine Ret.inF (by kernel_rfl) ?_
 conv=>arg 3;reduce
 simp
 cases e with
 | none =>
  refine (xIH 0).use (n:=9) ?_ rfl ?_ <;> simp [xAY]
  refine xCM (fun h1=>?_) (fun h1=>?_) <;> simp [h1]
  ·refine xAj (fun h2=>?_) (fun h2=>?_) <;> simp [h2]
   ·omega
   ·exact RK.envS (e:=none) (e':=SEnv.set none i v) rfl
  ·exact RK.envS (e:=none) (e':=SEnv.set none i v) rfl
 | some l =>
  have hl:=(he l rfl).1
  refine (xEv l 0 (he l rfl) (by omega)).use' (n:=9) ?_ ?_ ?_ <;> simp [xAY]
  have hol:=xA3 l 0
  have hse:SEnv.set (some l) i v=some (if 0<=i/\i < (ownS l 0).length then (ownS l 0).set i.toNat v else ownS l 0):=by rw [SEnv.set_some,hol];simp [xAw hv]
  simp only [Nat.zero_max] at hol
  rw [hol] at hse
  have hra:=readAll (e:=intc) hol
  refine xCM (fun h1=>?_) (fun h1=>?_) <;> simp [h1]
  ·refine xAj (fun h2=>?_) (fun h2=>?_) <;> simp [h2]
   ·obtain ⟨k,rfl⟩:∃ k:Nat,i=(k:Int):=⟨i.toNat,by omega⟩
    have hk:k < l.length:=by omega
    obtain ⟨u,hu⟩:∃ u,(ownS l 0)[k]?=some u:=⟨_,xgG (by omega)⟩
    refine Dra.auto [] mix ?_ ?_
    ·kernel_rfl
    simp [classes]
    refine (xGM hv).b (n:=9) ?_ rfl ?_ <;> simp [xAY]
    simp [xAd hk,hu,intc]
    have e3:(els intc (ownS l 0)).set k [.int .i64 v]=els intc ((ownS l 0).set k v):=xAg (e:=intc)
    simp only [e3]
    rw [if_pos (by omega)] at hse
    rw [hse]
    exact RK.rowES (by simp) (by simp [hol])
   ·rw [if_neg (by omega)] at hse
    rw [hse]
    exact RK.rowES (by simp) hol
  ·rw [if_neg (by omega)] at hse
   rw [hse]
   exact RK.rowES (by simp) hol
theorem xII (a b:SEnv) (ha:a.ok) (hb:b.ok):Ret P g false 20 [encES a,encES b] (encES (a.join b)):=by
 refine Ret.inF (by kernel_rfl) ?_
 conv=>arg 3;reduce
 simp
 refine Dra.auto [] mix ?_ ?_
 ·kernel_rfl
 simp [classes]
 refine xBY.b (n:=9) ?_ rfl ?_ <;> simp
 refine (xLk a b ha hb).b (n:=9) (by simp) (by simp [solids,AV.solid]) ?_
 simp
 exact RK.envS rfl
theorem xAC (e:SEnv) (i:Int) (he:e.ok):Ret P g false 14 [encES e,.int .i64 i] (.int .i64 (e.get i)):=by
 refine Ret.inF (by kernel_rfl) ?_
 conv=>arg 3;reduce
 simp
 refine Dra.auto [] mix ?_ ?_
 ·kernel_rfl
 simp [classes]
 refine xBY.b (n:=9) ?_ rfl ?_ <;> simp
 refine (xDu e i he).b (n:=9) (by simp) rfl ?_
 simp
 exact RK.stab rfl
theorem xKc (e:SEnv) (i:Int) {v:Int} (hv:sgOk v) (he:e.ok):Ret P g false 90 [encES e,.int .i64 i,.int .i64 v] (encES (e.set i v)):=by
 refine Ret.inF (by kernel_rfl) ?_
 conv=>arg 3;reduce
 simp
 refine Dra.auto [] mix ?_ ?_
 ·kernel_rfl
 simp [classes]
 refine xBY.b (n:=9) ?_ rfl ?_ <;> simp
 refine (xRy e i hv he).b (n:=9) (by simp) (by simp [solids,AV.solid]) ?_
 simp
 exact RK.envS rfl
def leqS (l m:List Int) (k:Nat):Prop:=∀j:Nat,j < k->sgLe (gS l (j:Int)) (gS m (j:Int))
noncomputable instance (l m:List Int) (k:Nat):Decidable (leqS l m k):=Classical.propDecidable _
noncomputable def SEnv.leq (a b:SEnv):Bool:=match a,b with
 | none,_=>true
 | some _,none=>false
 | some l,some m=>decide (leqS l m (max l.length m.length))
theorem xNy (a b:SEnv) (ha:a.ok) (hb:b.ok):Ret P g false 70 [opsS,encES a,encES b] (.bool (a.leq b)):=by
 refine Ret.inF (by kernel_rfl) ?_
 conv=>arg 3;reduce
 simp
 cases a with
 | none =>
  simp
  exact RK.eq rfl rfl
 | some l =>
  simp
  cases b with
  | none =>
   simp
   exact RK.eq rfl rfl
  | some m =>
   have hla:=ha l rfl
   have hmb:=hb m rfl
   have hl:l.length < 2 ^ 20:=by have:=hla.1;omega
   have hm:m.length < 2 ^ 20:=by have:=hmb.1;omega
   have hn:max l.length m.length < 2 ^ 20:=Nat.max_lt.2 ⟨hl,hm⟩
   have e1:(if l.length < m.length then (m.length:Int) else l.length)=((max l.length m.length:Nat):Int):=by split <;> omega
   simp [e1]
   have hcast:(max (l.length:Int) m.length)=((max l.length m.length:Nat):Int):=by omega
   try simp only [hcast]
   have hle:SEnv.leq (some l) (some m)=decide (leqS l m (max l.length m.length)):=rfl
   rw [hle]
   generalize max l.length m.length=n at *
   refine W.whileI (fun (a:Nat) F S=>a<=n/\leqS l m a/\F 3=.ptr 0 0 0/\F 4=.ptr 1 0 0/\F 5=.ptr 2 0 0/\F 25=.int .i64 n/\F 26=.int .i64 a/\S.obj 0=some (.row 2 [opsS.cells])/\S.obj 1=some (.row 2 [envcS (some l)])/\S.obj 2=some (.row 2 [envcS (some m)])) (fun a=>n - a) ?_ 0 _ _ ?_
   ·rintro a F S ⟨ha,hL,h3,h4,h5,h25,h26,s0,s1,s2⟩
    by_cases hlt:a < n
    ·have e4:=wrapS a (by omega)
     simp [h25,h26,hlt]
     refine Dra.auto [] mix ?_ ?_
     ·kernel_rfl
     simp only [xDt,xBh] at s0 s1 s2
     simp [classes,h3,h4,h5,h25,h26,s0,s1,s2]
     refine (xDu (some l) a (SEnv.ok_some hla)).b (n:=9) ?_ rfl ?_ <;> simp [xAY]
     simp [h3,h5,s0,s2,xAY]
     refine (xDu (some m) a (SEnv.ok_some hmb)).b (n:=9) ?_ rfl ?_ <;> simp [xAY]
     refine (xFN (SEnv.get_ok (some l) a) (SEnv.get_ok (some m) a)).b (n:=9) ?_ rfl ?_ <;> simp
     refine xSq (fun h=>?_) (fun h=>?_)
     ·simp
      refine RK.eq ?_ rfl
      have:¬ leqS l m n:=fun h'=>by
       have:=h' a hlt
       simp only [SEnv.get] at h
       simp [this] at h
      simp [this]
     ·simp [h3,h4,h5,h25,h26,e4]
      refine ⟨a + 1,by omega,by omega,fun j hj=>?_,by omega,by simpa using s0,by simpa using s1,by simpa using s2⟩
      by_cases hja:j=a
      ·subst hja
       simp only [SEnv.get] at h
       exact of_decide_eq_true h
      ·exact hL j (by omega)
    ·have:a=n:=by omega
     subst this
     simp [h25,h26]
     exact RK.eq (by simp [hL]) rfl
   ·simp
    intro j hj;omega
theorem xFz (a b:SEnv) (ha:a.ok) (hb:b.ok):Ret P g false 38 [encES a,encES b] (.bool (a.leq b)):=by
 refine Ret.inF (by kernel_rfl) ?_
 conv=>arg 3;reduce
 simp
 refine Dra.auto [] mix ?_ ?_
 ·kernel_rfl
 simp [classes]
 refine xBY.b (n:=9) ?_ rfl ?_ <;> simp
 refine (xNy a b ha hb).b (n:=9) (by simp) rfl ?_
 simp
 exact RK.stab rfl
theorem xRz (n:Int) {v:Int} (hv:sgOk v):Own P g 49 [opsS,.int .i64 n,.int .i64 v] (.agg [.bool true,.sl 1 0 0 (capN n)]) (St.ofL [.row 1 (els intc (List.replicate (capN n) v))]):=by
 have e1:(if 0 < (if 64 < n then 64 else n) then (if 64 < n then 64 else n) else 0)=((capN n:Nat):Int):=by
  unfold capN;split <;> split <;> omega
 have hc:capN n < 2 ^ 30:=by unfold capN;omega
 have hra:=readAll (e:=intc) (l:=List.replicate (capN n) v) (k:=capN n) (by simp)
 refine Own.in [3] c49 (by simp) (by simp) ?_
 simp [k49]
 refine (xGM hv).use (n:=9) ?_ rfl ?_ <;> simp [xAY]
 simp [e1]
 refine (xCA v (capN n) hc).use' (n:=9) ?_ ?_ ?_ <;> simp
 simp [RO]
theorem xE5 (n:Int) {v:Int} (hv:sgOk v):Own P g 17 [.int .i64 n,.int .i64 v] (.agg [.bool true,.sl 1 0 0 (capN n)]) (St.ofL [.row 1 (els intc (List.replicate (capN n) v))]):=by
 refine Own.in [1] c17 (by simp) (by simp) ?_
 simp [k17]
 refine xBY.use (n:=9) ?_ rfl ?_ <;> simp
 refine (xRz n hv).use' (n:=9) ?_ ?_ ?_ <;> simp
 simp [RO]
end Go.Proofs.YtnhfofmhkfdpgaaGreatDoor.Vm
