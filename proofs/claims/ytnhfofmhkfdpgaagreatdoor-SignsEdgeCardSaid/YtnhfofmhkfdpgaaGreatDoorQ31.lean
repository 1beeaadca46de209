/- A part of the proof: Da Ce Cf Cg. -/
import Derived.KernelRfl
import Derived.Test.YtnhfofmhkfdpgaaGreatDoorQ30
set_option linter.unusedVariables false
set_option linter.unusedSimpArgs false
set_option linter.constructorNameAsVariable false
namespace Go.Proofs.YtnhfofmhkfdpgaaGreatDoor.Vm
open Go Go.RowKit
abbrev Step:=Nat × Nat × Nat × Ins
def Blk.posTo (g b:Nat) (y:Blk) (c:Nat):List Step:=(List.range c).filterMap fun k=>(y.ins[k]?).map fun x=>(g,b,k,x)
def Fun.posTo (g:Nat) (f:Fun) (m:Nat):List Step:=(List.range m).flatMap fun b=>match f.blks[b]? with
 | some y=>y.posTo g b y.ins.length
 | none=>[]
def Prg.posTo (p:Prg) (m:Nat):List Step:=(List.range m).flatMap fun g=>match p.funs[g]? with
 | some f=>f.posTo g f.blks.length
 | none=>[]
def Prg.pos (p:Prg):List Step:=p.posTo p.funs.length
theorem Blk.posTo_succ {g b c:Nat} {y:Blk} {x:Ins} (h:y.ins[c]?=some x):y.posTo g b (c + 1)=y.posTo g b c ++ [(g,b,c,x)]:=by
 unfold Blk.posTo
 rw [List.range_succ,List.filterMap_append]
 simp [h]
theorem Fun.posTo_succ {g b:Nat} {f:Fun} {y:Blk} (h:f.blks[b]?=some y):f.posTo g (b + 1)=f.posTo g b ++ y.posTo g b y.ins.length:=by
 unfold Fun.posTo
 rw [List.range_succ,List.flatMap_append]
 simp [h]
theorem Prg.posTo_succ {p:Prg} {g:Nat} {f:Fun} (h:p.funs[g]?=some f):p.posTo (g + 1)=p.posTo g ++ f.posTo g f.blks.length:=by
 unfold Prg.posTo
 rw [List.range_succ,List.flatMap_append]
 simp [h]
theorem Blk.posTo_mem {g b:Nat} {y:Blk} {c:Nat} {s:Step}:s ∈ y.posTo g b c ↔ s.1=g/\s.2.1=b/\s.2.2.1 < c/\y.ins[s.2.2.1]?=some s.2.2.2:=by
 obtain ⟨g',b',k,x⟩:=s
 simp only [Blk.posTo,List.mem_filterMap,List.mem_range,Option.map_eq_some_iff,Prod.mk.injEq]
 constructor
 ·rintro ⟨k',h1,x',h2,rfl,rfl,rfl,rfl⟩;exact ⟨rfl,rfl,h1,h2⟩
 ·rintro ⟨rfl,rfl,h1,h2⟩;exact ⟨k,h1,x,h2,rfl,rfl,rfl,rfl⟩
theorem Fun.posTo_mem {g:Nat} {f:Fun} {m:Nat} {s:Step}:s ∈ f.posTo g m ↔ s.1=g/\s.2.1 < m/\∃ y,f.blks[s.2.1]?=some y/\y.ins[s.2.2.1]?=some s.2.2.2:=by
 simp only [Fun.posTo,List.mem_flatMap,List.mem_range]
 constructor
 ·rintro ⟨b,h1,h2⟩
  cases hy:f.blks[b]? with
  | none=>rw [hy] at h2;simp at h2
  | some y =>
   rw [hy] at h2
   obtain ⟨h3,h4,h5,h6⟩:=Blk.posTo_mem.1 h2
   subst h4
   exact ⟨h3,h1,y,hy,h6⟩
 ·rintro ⟨h1,h2,y,h3,h4⟩
  refine ⟨s.2.1,h2,?_⟩
  rw [h3]
  exact Blk.posTo_mem.2 ⟨h1,rfl,(xgS h4).1,h4⟩
theorem Prg.posTo_mem {p:Prg} {m:Nat} {s:Step}:s ∈ p.posTo m ↔ s.1 < m/\∃ f y,p.funs[s.1]?=some f/\f.blks[s.2.1]?=some y/\y.ins[s.2.2.1]?=some s.2.2.2:=by
 simp only [Prg.posTo,List.mem_flatMap,List.mem_range]
 constructor
 ·rintro ⟨g,h1,h2⟩
  cases hf:p.funs[g]? with
  | none=>rw [hf] at h2;simp at h2
  | some f =>
   rw [hf] at h2
   obtain ⟨h3,h4,y,h5,h6⟩:=Fun.posTo_mem.1 h2
   subst h3
   exact ⟨h1,f,y,hf,h5,h6⟩
 ·rintro ⟨h1,f,y,h2,h3,h4⟩
  refine ⟨s.1,h1,?_⟩
  rw [h2]
  exact Fun.posTo_mem.2 ⟨rfl,(xgS h3).1,y,h3,h4⟩
theorem Prg.pos_mem {p:Prg} {s:Step}:s ∈ p.pos ↔ ∃ f y,p.funs[s.1]?=some f/\f.blks[s.2.1]?=some y/\y.ins[s.2.2.1]?=some s.2.2.2:=by
 rw [Prg.pos,Prg.posTo_mem]
 constructor
 ·rintro ⟨_,h⟩;exact h
 ·rintro ⟨f,y,h1,h2⟩;exact ⟨(xgS h1).1,f,y,h1,h2⟩
theorem xEw {α:Type} {h:Nat->List α} {B:Nat}:∀m,(∀k,k < m->(h k).length<=B)->((List.range m).flatMap h).length<=m * B
 | 0,_=>by simp
 | m + 1,hb=>by
  rw [List.range_succ,List.flatMap_append]
  have h1:=xEw m fun k hk=>hb k (by omega)
  have h2:=hb m (by omega)
  simp only [List.length_append,List.flatMap_cons,List.flatMap_nil,List.append_nil]
  rw [Nat.succ_mul]
  omega
theorem Blk.posTo_len (g b:Nat) (y:Blk) (c:Nat):(y.posTo g b c).length<=c:=by
 unfold Blk.posTo
 have:=List.length_filterMap_le (fun k=>(y.ins[k]?).map fun x=>(g,b,k,x)) (List.range c)
 simpa using this
theorem Prg.pos_len {p:Prg} (hs:p.sane=true):p.pos.length<=6 * 192/\∀(g:Nat) (f:Fun),p.funs[g]?=some f->(f.posTo g f.blks.length).length<=192:=by
 have hf:∀(g:Nat) (f:Fun),p.funs[g]?=some f->(f.posTo g f.blks.length).length<=192:=fun g f hf=>by
  have hok:=sane_ok hs (xmG hf)
  have h1:=hok.len.2
  have h2:(f.posTo g f.blks.length).length<=f.blks.length * 16:=by
   refine xEw _ fun b hb=>?_
   cases hy:f.blks[b]? with
   | none=>simp
   | some y =>
    have h3:=(hok.blk (xmG hy)).2.2.2.1
    have h4:=y.posTo_len g b y.ins.length
    show (y.posTo g b y.ins.length).length<=16
    omega
  omega
 refine ⟨?_,hf⟩
 have h1:p.pos.length<=p.funs.length * 192:=by
  refine xEw _ fun g hg=>?_
  cases hx:p.funs[g]? with
  | none=>simp
  | some f=>exact hf g f hx
 have h2:=(Prg.sane_iff.1 hs).1
 omega
inductive Unk where
 | par (f:Nat)
 | ans (f:Nat)
 | blk (f b:Nat)
 deriving DecidableEq
def Fun.unks (f:Nat) (x:Fun):List Unk:=.par f :: .ans f :: (List.range x.blks.length).map (Unk.blk f)
def Prg.unksTo (p:Prg) (m:Nat):List Unk:=(List.range m).flatMap fun f=>match p.funs[f]? with
 | some x=>x.unks f
 | none=>[]
def Prg.unks (p:Prg):List Unk:=p.unksTo p.funs.length
def Prg.base (p:Prg) (f:Nat):Nat:=(p.unksTo f).length
def Prg.at' (p:Prg):Unk->Nat
 | .par f=>p.base f
 | .ans f=>p.base f + 1
 | .blk f b=>p.base f + 2 + b
def Prg.has (p:Prg):Unk->Prop
 | .par f=>f < p.funs.length
 | .ans f=>f < p.funs.length
 | .blk f b=>∃ x,p.funs[f]?=some x/\b < x.blks.length
theorem Prg.unksTo_succ {p:Prg} {f:Nat} {x:Fun} (h:p.funs[f]?=some x):p.unksTo (f + 1)=p.unksTo f ++ x.unks f:=by
 unfold Prg.unksTo
 rw [List.range_succ,List.flatMap_append]
 simp [h]
theorem Fun.unks_len (f:Nat) (x:Fun):(x.unks f).length=x.blks.length + 2:=by simp [Fun.unks]
theorem Prg.base_succ {p:Prg} {f:Nat} {x:Fun} (h:p.funs[f]?=some x):p.base (f + 1)=p.base f + (x.blks.length + 2):=by
 unfold Prg.base
 rw [Prg.unksTo_succ h,List.length_append,Fun.unks_len]
theorem Prg.unksTo_pre {p:Prg} {f:Nat}:∀{m k:Nat} {u:Unk},f<=m->m<=p.funs.length->(p.unksTo f)[k]?=some u->(p.unksTo m)[k]?=some u
 | m,k,u,h1,h2,h=>by
  induction m with
  | zero=>rw [show f=0 by omega] at h;exact h
  | succ m ih =>
   by_cases he:f=m + 1
   ·rw [<- he];exact h
   ·obtain ⟨x,hx⟩:∃ x,p.funs[m]?=some x:=⟨_,xgG (by omega)⟩
    have h3:=ih (by omega) (by omega)
    rw [Prg.unksTo_succ hx,List.getElem?_append_left (xgS h3).1]
    exact h3
theorem Prg.unks_seg {p:Prg} {f j:Nat} {x:Fun} {u:Unk} (h:p.funs[f]?=some x) (hu:(x.unks f)[j]?=some u):p.unks[p.base f + j]?=some u:=by
 have hf:=(xgS h).1
 refine Prg.unksTo_pre (f:=f + 1) (by omega) (Nat.le_refl _) ?_
 rw [Prg.unksTo_succ h,List.getElem?_append_right (by unfold Prg.base;omega)]
 rw [show p.base f + j - (p.unksTo f).length=j by unfold Prg.base;omega]
 exact hu
theorem Prg.unks_at {p:Prg} {u:Unk} (h:p.has u):p.unks[p.at' u]?=some u:=by
 cases u with
 | par f =>
  obtain ⟨x,hx⟩:∃ x,p.funs[f]?=some x:=⟨_,xgG h⟩
  exact Prg.unks_seg (j:=0) hx (by simp [Fun.unks])
 | ans f =>
  obtain ⟨x,hx⟩:∃ x,p.funs[f]?=some x:=⟨_,xgG h⟩
  exact Prg.unks_seg (j:=1) hx (by simp [Fun.unks])
 | blk f b =>
  obtain ⟨x,hx,hb⟩:=h
  rw [show p.at' (.blk f b)=p.base f + (b + 2) by simp only [Prg.at'];omega]
  exact Prg.unks_seg (j:=b + 2) hx (by simp [Fun.unks,hb])
theorem Prg.unksTo_has {p:Prg}:∀{m k:Nat} {u:Unk},m<=p.funs.length->(p.unksTo m)[k]?=some u->p.has u/\p.at' u=k
 | 0,k,u,_,h=>by simp [Prg.unksTo] at h
 | m + 1,k,u,hm,h=>by
  obtain ⟨x,hx⟩:∃ x,p.funs[m]?=some x:=⟨_,xgG (by omega)⟩
  rw [Prg.unksTo_succ hx] at h
  by_cases hk:k < (p.unksTo m).length
  ·rw [List.getElem?_append_left hk] at h
   exact Prg.unksTo_has (by omega) h
  ·rw [List.getElem?_append_right (by omega)] at h
   have hb:(p.unksTo m).length=p.base m:=rfl
   rw [hb] at h hk
   match hj:k - p.base m,h with
   | 0,h =>
    simp [Fun.unks] at h
    subst h
    exact ⟨by show m < _;omega,by show p.base m=k;omega⟩
   | 1,h =>
    simp [Fun.unks] at h
    subst h
    exact ⟨by show m < _;omega,by show p.base m + 1=k;omega⟩
   | b + 2,h =>
    simp [Fun.unks,List.getElem?_range] at h
    obtain ⟨b',h1,rfl⟩:=h
    obtain ⟨h2,rfl⟩:=xgS h1
    simp at h2
    simp only [List.getElem_range]
    exact ⟨⟨x,hx,h2⟩,by show p.base m + 2 + b=k;omega⟩
theorem Prg.unks_has {p:Prg} {k:Nat} {u:Unk} (h:p.unks[k]?=some u):p.has u/\p.at' u=k:=Prg.unksTo_has (Nat.le_refl _) h
theorem Prg.at_lt {p:Prg} {u:Unk} (h:p.has u):p.at' u < p.unks.length:=(xgS (Prg.unks_at h)).1
theorem Prg.at_inj {p:Prg} {u v:Unk} (h:p.has u) (h2:p.has v) (he:p.at' u=p.at' v):u=v:=by
 have h3:=Prg.unks_at h
 rw [he,Prg.unks_at h2] at h3
 exact (Option.some.inj h3).symm
theorem Prg.unks_len {p:Prg} (hs:p.sane=true):p.unks.length<=84:=by
 have h1:p.unks.length<=p.funs.length * 14:=by
  refine xEw _ fun f hf=>?_
  cases hx:p.funs[f]? with
  | none=>simp
  | some x =>
   have h2:=(sane_ok hs (xmG hx)).len.2
   show (x.unks f).length<=14
   rw [Fun.unks_len];omega
 have h2:=(Prg.sane_iff.1 hs).1
 omega
def Ins.arg (i:Ins) (k:Nat):Int:=if k=0 then i.x0 else if k=1 then i.x1 else i.x2
def handS (i:Ins) (l:List Int):List Int:=(List.range (capN i.n)).map fun k:Nat=>gS l (i.arg k)
def allS (n v:Int):List Int:=List.replicate (capN n) (sgS v)
def startS (par vars:Int) (l:List Int):List Int:=(List.range (capN vars)).map fun k:Nat=>if (k:Int) < par then gS l k else 2
def SEnv.start (par vars:Int) (e:SEnv):SEnv:=e.map (startS par vars)
def Prg.cd (p:Prg) (f b:Nat):List Ins:=match p.funs[f]? with
 | some x=>x.code b
 | none=>[]
def Prg.parOf (p:Prg) (f:Nat):Int:=match p.funs[f]? with
 | some x=>x.par
 | none=>0
def Prg.varsOf (p:Prg) (f:Nat):Int:=match p.funs[f]? with
 | some x=>x.vars
 | none=>0
def Prg.predsN (p:Prg) (f b:Nat):List Int:=match p.funs[f]? with
 | some x=>x.preds b
 | none=>[]
def isCall (f:Nat) (s:Step):Bool:=decide (s.2.2.2.kind=7/\s.2.2.2.f=(f:Int))
def Prg.callsTo (p:Prg) (f:Nat):List Step:=p.pos.filter (isCall f)
def Prg.posF (p:Prg) (f:Nat):List Step:=match p.funs[f]? with
 | some x=>x.posTo f x.blks.length
 | none=>[]
section
variable (p:Prg) (X:List SEnv)
def ansX (i:Ins):Int:=if i.kind=7 then (X.getD (p.at' (.ans i.f.toNat)) none).get 0 else 0
def pastX (e:SEnv) (l:List Ins):SEnv:=l.foldl (fun e i=>i.sign e (ansX p X i)) e
def hereX (f b k:Nat):SEnv:=pastX p X (X.getD (p.at' (.blk f b)) none) ((p.cd f b).take k)
def callX (e:SEnv) (s:Step):SEnv:=match hereX p X s.1 s.2.1 s.2.2.1 with
 | none=>e
 | some l=>e.join (some (handS s.2.2.2 l))
def parX0 (f:Nat):SEnv:=if f=0 then some (allS (p.parOf f) 7) else none
def parX (f:Nat):SEnv:=(p.callsTo f).foldl (callX p X) (parX0 p f)
def retX (o:Int) (s:Step):Int:=if s.2.2.2.kind=9 then sgJ o ((hereX p X s.1 s.2.1 s.2.2.1).get s.2.2.2.a) else o
def answX (f:Nat):Int:=(p.posF f).foldl (retX p X) 0
def begX0 (f b:Nat):SEnv:=if b=0 then (X.getD (p.at' (.par f)) none).start (p.parOf f) (p.varsOf f) else none
def begXTo (f b:Nat) (m:List Int):SEnv:=m.foldl (fun e j=>e.join (hereX p X f j.toNat (p.cd f j.toNat).length)) (begX0 p X f b)
def begX (f b:Nat):SEnv:=begXTo p X f b (p.predsN f b)
def evU:Unk->SEnv
 | .par f=>parX p X f
 | .ans f=>some [sgS (answX p X f)]
 | .blk f b=>begX p X f b
def evX (k:Nat):SEnv:=match p.unks[k]? with
 | some u=>evU p X u
 | none=>none
end
def Prg.withinL (p:Prg) (f b:Nat):List Int:=((p.at' (.blk f b):Nat):Int) :: ((p.cd f b).filter fun i=>decide (i.kind=7)).map fun i=>((p.at' (.ans i.f.toNat):Nat):Int)
def Prg.rdU (p:Prg):Unk->List Int
 | .par f=>(p.callsTo f).flatMap fun s=>p.withinL s.1 s.2.1
 | .ans f=>match p.funs[f]? with
  | some x=>(List.range x.blks.length).flatMap fun b=>p.withinL f b
  | none=>[]
 | .blk f b=>(if b=0 then [((p.at' (.par f):Nat):Int)] else []) ++ (p.predsN f b).flatMap fun j=>p.withinL f j.toNat
def Prg.rdX (p:Prg) (k:Nat):List Int:=match p.unks[k]? with
 | some u=>p.rdU u
 | none=>[]
def XLe (X Y:List SEnv):Prop:=∀k,SEnv.le (X.getD k none) (Y.getD k none)
theorem xPL {p:Prg} {X Y:List SEnv} (h:XLe X Y) (i:Ins):sgLe (sgS (ansX p X i)) (sgS (ansX p Y i)):=by
 unfold ansX
 split
 ·rw [xAw (SEnv.get_ok _ _),xAw (SEnv.get_ok _ _)]
  exact SEnv.get_mono (h _) 0
 ·exact xAx (xBg _)
theorem xNz {p:Prg} {X Y:List SEnv} (h:XLe X Y) (l:List Ins):∀{a b:SEnv},a.le b->(pastX p X a l).le (pastX p Y b l):=by
 induction l with
 | nil=>intro a b hab;exact hab
 | cons i l ih=>intro a b hab;exact ih (i.sign_mono hab (xPL h i))
theorem xE6 {p:Prg} {X Y:List SEnv} (h:XLe X Y) (f b k:Nat):(hereX p X f b k).le (hereX p Y f b k):=xNz h _ (h _)
theorem xNA {i:Ins} {l m:List Int} (h:leS l m):leS (handS i l) (handS i m):=by
 refine ⟨by simp [handS],fun j=>?_⟩
 unfold handS
 rw [xEt,xEt]
 split
 ·rw [xHJ,xHJ];exact h.2 _
 ·exact xAx ⟨by omega,by omega⟩
theorem xNB {p:Prg} {X Y:List SEnv} (h:XLe X Y) (s:Step) {a b:SEnv} (hab:a.le b):(callX p X a s).le (callX p Y b s):=by
 have h1:=xE6 (p:=p) h s.1 s.2.1 s.2.2.1
 unfold callX
 cases hx:hereX p X s.1 s.2.1 s.2.2.1 with
 | none =>
  cases hy:hereX p Y s.1 s.2.1 s.2.2.1 with
  | none=>exact hab
  | some m=>exact SEnv.le_trans hab (SEnv.le_join_l _ _)
 | some l =>
  rw [hx] at h1
  obtain ⟨m,hm,hlm⟩:=h1 l rfl
  rw [hm]
  exact SEnv.join_mono hab fun l' hl'=>by cases hl';exact ⟨_,rfl,xNA hlm⟩
theorem xE7 {α:Type} {h h':SEnv->α->SEnv} (hh:∀s a b,SEnv.le a b->SEnv.le (h a s) (h' b s)):∀(l:List α) {a b:SEnv},a.le b->(l.foldl h a).le (l.foldl h' b)
 | [],_,_,hab=>hab
 | s :: l,_,_,hab=>xE7 hh l (hh s _ _ hab)
theorem xPM {p:Prg} {X Y:List SEnv} (h:XLe X Y) (f:Nat):(parX p X f).le (parX p Y f):=xE7 (fun s a b hab=>xNB h s hab) _ (SEnv.le_refl _)
theorem xPN {p:Prg} {X:List SEnv} {o:Int} (ho:sgOk o) (s:Step):sgOk (retX p X o s):=by
 unfold retX
 split
 ·exact xPz _ _
 ·exact ho
theorem xPO {p:Prg} {X Y:List SEnv} (h:XLe X Y) (s:Step) {o q:Int} (ho:sgOk o) (hq:sgOk q) (hoq:sgLe o q):sgLe (retX p X o s) (retX p Y q s):=by
 unfold retX
 split
 ·refine xRq ?_ ?_
  ·rw [xAw ho,xAw hq];exact hoq
  ·rw [xAw (SEnv.get_ok _ _),xAw (SEnv.get_ok _ _)]
   exact SEnv.get_mono (xE6 h _ _ _) _
 ·exact hoq
theorem xCD {p:Prg} {X Y:List SEnv} (h:XLe X Y):∀(l:List Step) {o q:Int},sgOk o->sgOk q->sgLe o q->sgLe (l.foldl (retX p X) o) (l.foldl (retX p Y) q)/\sgOk (l.foldl (retX p X) o)
 | [],_,_,ho,_,hoq=>⟨hoq,ho⟩
 | s :: l,_,_,ho,hq,hoq=>xCD h l (xPN ho s) (xPN hq s) (xPO h s ho hq hoq)
theorem XLe.refl (X:List SEnv):XLe X X:=fun k=>SEnv.le_refl _
theorem xMk (p:Prg) (X:List SEnv) (f:Nat):sgOk (answX p X f):=(xCD (p:=p) (XLe.refl X) _ xAv xAv (xAx xAv)).2
theorem xNC {p:Prg} {X Y:List SEnv} (h:XLe X Y) (f:Nat):sgLe (answX p X f) (answX p Y f):=(xCD h _ xAv xAv (xAx xAv)).1
theorem xLl {par vars:Int} {l m:List Int} (h:leS l m):leS (startS par vars l) (startS par vars m):=by
 refine ⟨by simp [startS],fun j=>?_⟩
 unfold startS
 rw [xEt,xEt]
 split
 ·split
  ·rw [xHJ,xHJ];exact h.2 _
  ·exact xAx (xBg _)
 ·exact xAx ⟨by omega,by omega⟩
theorem SEnv.start_mono {a b:SEnv} (h:a.le b) (par vars:Int):(a.start par vars).le (b.start par vars):=by
 cases a with
 | none=>exact SEnv.le_none _
 | some l =>
  obtain ⟨m,rfl,hlm⟩:=h l rfl
  exact fun l' hl'=>by cases hl';exact ⟨_,rfl,xLl hlm⟩
theorem xPP {p:Prg} {X Y:List SEnv} (h:XLe X Y) (f b:Nat) (m:List Int):(begXTo p X f b m).le (begXTo p Y f b m):=by
 unfold begXTo
 refine xE7 (fun j a b hab=>SEnv.join_mono hab (xE6 h f j.toNat (p.cd f j.toNat).length)) _ ?_
 unfold begX0
 split
 ·exact SEnv.start_mono (h _) _ _
 ·exact SEnv.le_refl _
theorem xMl {p:Prg} {X Y:List SEnv} (h:XLe X Y) (u:Unk):(evU p X u).le (evU p Y u):=by
 cases u with
 | par f=>exact xPM h f
 | ans f =>
  rintro l hl
  cases hl
  refine ⟨_,rfl,Nat.le_refl _,fun i=>?_⟩
  have e:∀v:Int,[sgS v]=(List.range 1).map fun _:Nat=>sgS v:=fun v=>rfl
  rw [e,e,xEt,xEt]
  split
  ·rw [xLi,xLi,xAw (xMk p X f),xAw (xMk p Y f)]
   exact xNC h f
  ·exact xAx xAv
 | blk f b=>exact xPP h f b _
theorem xPQ {n:Nat} {h:Nat->Int} (hn:n<=64) (hh:∀k,sgOk (h k)):okS ((List.range n).map h):=⟨by simpa using hn,fun v hv=>by
 simp only [List.mem_map] at hv
 obtain ⟨k,_,rfl⟩:=hv
 exact hh k⟩
theorem xIJ (n:Int):capN n<=64:=by unfold capN;omega
theorem xMm (i:Ins) (l:List Int):okS (handS i l):=xPQ (xIJ _) fun k=>xBO _ _
theorem xTn (n v:Int):okS (allS n v):=⟨by simpa [allS] using xIJ n,fun u hu=>by rw [(List.mem_replicate.1 hu).2];exact xBg _⟩
theorem xPR (par vars:Int) (l:List Int):okS (startS par vars l):=xPQ (xIJ _) fun k=>by
 split
 ·exact xBO _ _
 ·exact ⟨by omega,by omega⟩
def XOk (X:List SEnv):Prop:=∀k,SEnv.ok (X.getD k none)
theorem xMn {p:Prg} {X:List SEnv} (l:List Ins):∀{e:SEnv},e.ok->(pastX p X e l).ok:=by
 induction l with
 | nil=>intro e h;exact h
 | cons i l ih=>intro e h;exact ih (i.sign_ok h _)
theorem xCn {p:Prg} {X:List SEnv} (h:XOk X) (f b k:Nat):(hereX p X f b k).ok:=xMn _ (h _)
theorem xMo {p:Prg} {X:List SEnv} (s:Step) {e:SEnv} (he:e.ok):(callX p X e s).ok:=by
 unfold callX
 split
 ·exact he
 ·exact SEnv.join_ok he (SEnv.ok_some (xMm _ _))
theorem xFO {α:Type} {h:SEnv->α->SEnv} (hh:∀s e,SEnv.ok e->SEnv.ok (h e s)):∀(l:List α) {e:SEnv},e.ok->(l.foldl h e).ok
 | [],_,he=>he
 | s :: l,_,he=>xFO hh l (hh s _ he)
theorem xMp (p:Prg) (f:Nat):(parX0 p f).ok:=by
 unfold parX0
 split
 ·exact SEnv.ok_some (xTn _ _)
 ·exact SEnv.ok_none
theorem xTo (p:Prg) (X:List SEnv) (f:Nat):(parX p X f).ok:=xFO (fun s e he=>xMo s he) _ (xMp p f)
theorem xRA (p:Prg) (X:List SEnv) (f b:Nat):(begX0 p X f b).ok:=by
 unfold begX0
 split
 ·cases X.getD (p.at' (.par f)) none with
  | none=>exact SEnv.ok_none
  | some l=>exact SEnv.ok_some (xPR _ _ _)
 ·exact SEnv.ok_none
theorem xKd {p:Prg} {X:List SEnv} (h:XOk X) (f b:Nat) (m:List Int):(begXTo p X f b m).ok:=xFO (fun j e he=>SEnv.join_ok he (xCn h _ _ _)) _ (xRA p X f b)
theorem xV0 {p:Prg} {X:List SEnv} (h:XOk X) (u:Unk):(evU p X u).ok:=by
 cases u with
 | par f=>exact xTo p X f
 | ans f=>exact SEnv.ok_some ⟨by simp,fun v hv=>by rw [List.mem_singleton] at hv;rw [hv];exact xBg _⟩
 | blk f b=>exact xKd h f b _
def Agree (X Y:List SEnv) (l:List Int):Prop:=∀j ∈ l,X.getD j.toNat none=Y.getD j.toNat none
theorem xGO {p:Prg} {X Y:List SEnv}:∀(l:List Ins) (e:SEnv),(∀i ∈ l,i.kind=7->X.getD (p.at' (.ans i.f.toNat)) none=Y.getD (p.at' (.ans i.f.toNat)) none)->pastX p X e l=pastX p Y e l
 | [],_,_=>rfl
 | i :: l,e,h=>by
  have h1:ansX p X i=ansX p Y i:=by
   unfold ansX
   split
   ·rename_i hk;rw [h i (by simp) hk]
   ·rfl
  show pastX p X (i.sign e (ansX p X i)) l=pastX p Y (i.sign e (ansX p Y i)) l
  rw [h1]
  exact xGO l _ fun j hj=>h j (by simp [hj])
theorem xDX {p:Prg} {X Y:List SEnv} {f b:Nat} (h:Agree X Y (p.withinL f b)) (k:Nat):hereX p X f b k=hereX p Y f b k:=by
 unfold hereX
 have h1:=h _ (by rw [Prg.withinL];exact List.mem_cons_self)
 simp only [Int.toNat_natCast] at h1
 rw [h1]
 refine xGO _ _ fun i hi hk=>?_
 have h2:=h ((p.at' (.ans i.f.toNat):Nat):Int) (by
  rw [Prg.withinL]
  refine List.mem_cons_of_mem _ (List.mem_map.2 ⟨i,List.mem_filter.2 ⟨List.mem_of_mem_take hi,by simpa using hk⟩,rfl⟩))
 simpa using h2
theorem xDv {α β:Type} {h h':β->α->β}:∀(l:List α) (e:β),(∀s ∈ l,∀e,h e s=h' e s)->l.foldl h e=l.foldl h' e
 | [],_,_=>rfl
 | s :: l,e,hs=>by
  rw [List.foldl_cons,List.foldl_cons,hs s (by simp)]
  exact xDv l _ fun t ht=>hs t (by simp [ht])
theorem xPS {p:Prg} {X Y:List SEnv} {u:Unk} (h:Agree X Y (p.rdU u)):evU p X u=evU p Y u:=by
 cases u with
 | par f =>
  refine xDv _ _ fun s hs e=>?_
  unfold callX
  rw [xDX fun j hj=>h j (List.mem_flatMap.2 ⟨s,hs,hj⟩)]
 | ans f =>
  show some [sgS (answX p X f)]=some [sgS (answX p Y f)]
  rw [show answX p X f=answX p Y f from ?_]
  unfold answX Prg.posF
  cases hf:p.funs[f]? with
  | none=>rfl
  | some x =>
   refine xDv _ _ fun s hs e=>?_
   obtain ⟨h1,h2,y,h3,h4⟩:=Fun.posTo_mem.1 hs
   unfold retX
   rw [xDX fun j hj=>h j (by
    show j ∈ (match p.funs[f]? with
     | some x=>(List.range x.blks.length).flatMap fun b=>p.withinL f b
     | none=>[])
    rw [hf]
    rw [h1] at hj
    exact List.mem_flatMap.2 ⟨s.2.1,by simpa using h2,hj⟩)]
 | blk f b =>
  have h0:begX0 p X f b=begX0 p Y f b:=by
   unfold begX0
   split
   ·rename_i hb
    have:=h ((p.at' (.par f):Nat):Int) (by
     show _ ∈ (if b=0 then [((p.at' (.par f):Nat):Int)] else []) ++ _
     rw [if_pos hb];simp)
    rw [show X.getD (p.at' (.par f)) none=Y.getD (p.at' (.par f)) none by simpa using this]
   ·rfl
  show begXTo p X f b _=begXTo p Y f b _
  unfold begXTo
  rw [h0]
  refine xDv _ _ fun j hj e=>?_
  rw [xDX fun k hk=>h k (List.mem_append_right _ (List.mem_flatMap.2 ⟨j,hj,hk⟩))]
theorem getD_set_ne {X:List SEnv} {k j:Nat} {a:SEnv} (h:j ≠ k):(X.set k a).getD j none=X.getD j none:=by
 rw [List.getD_eq_getElem?_getD,List.getD_eq_getElem?_getD,List.getElem?_set_ne (Ne.symm h)]
theorem xPT {X:List SEnv} (h:∀e ∈ X,SEnv.ok e):XOk X:=fun k=>by
 rw [List.getD_eq_getElem?_getD]
 cases hx:X[k]? with
 | none=>exact SEnv.ok_none
 | some e=>exact h e (xmG hx)
theorem xV1 {X Y:List SEnv} (hl:X.length=Y.length) (h:∀(k:Nat) a b,X[k]?=some a->Y[k]?=some b->SEnv.le a b):XLe X Y:=fun k=>by
 rw [List.getD_eq_getElem?_getD,List.getD_eq_getElem?_getD]
 by_cases hk:k < X.length
 ·obtain ⟨a,ha⟩:∃ v,X[k]?=some v:=⟨_,xgG hk⟩
  obtain ⟨b,hb⟩:∃ v,Y[k]?=some v:=⟨_,xgG (by omega)⟩
  rw [ha,hb];exact h k a b ha hb
 ·rw [List.getElem?_eq_none (by omega)];exact SEnv.le_none _
theorem xR9 {p:Prg} {X:List SEnv} {u:Unk} (h:p.has u):evX p X (p.at' u)=evU p X u:=by unfold evX;rw [Prg.unks_at h]
theorem xHK {p:Prg} {f b:Nat}:∀j ∈ p.withinL f b,0<=j:=by
 intro j hj
 rw [Prg.withinL,List.mem_cons] at hj
 rcases hj with rfl | hj
 ·exact Int.natCast_nonneg _
 ·obtain ⟨i,_,rfl⟩:=List.mem_map.1 hj
  exact Int.natCast_nonneg _
theorem xND {p:Prg} {u:Unk} {j:Int} (hj:j ∈ p.rdU u):(∃ f,u=.blk f 0/\j=((p.at' (.par f):Nat):Int)) \/ ∃ f b,j ∈ p.withinL f b:=by
 cases u with
 | par f=>obtain ⟨s,_,h⟩:=List.mem_flatMap.1 hj;exact .inr ⟨_,_,h⟩
 | ans f =>
  simp only [Prg.rdU] at hj
  split at hj
  ·obtain ⟨s,_,h⟩:=List.mem_flatMap.1 hj;exact .inr ⟨_,_,h⟩
  ·cases hj
 | blk f b =>
  simp only [Prg.rdU,List.mem_append] at hj
  rcases hj with hj | hj
  ·split at hj
   ·rename_i hb;subst hb;rw [List.mem_singleton] at hj;exact .inl ⟨f,rfl,hj⟩
   ·cases hj
  ·obtain ⟨s,_,h⟩:=List.mem_flatMap.1 hj;exact .inr ⟨_,_,h⟩
def Prg.ssys (p:Prg):Sys SEnv where
 n:=p.unks.length
 ev:=evX p
 rd:=p.rdX
 ok:=SEnv.ok
 le:=SEnv.le
 bot:=none
 ht:=SEnv.ht
 top:=257
 refl a _:=SEnv.le_refl a
 trans a b c _ _ _ h1 h2:=SEnv.le_trans h1 h2
 anti a b ha hb h1 h2:=SEnv.le_anti ha hb h1 h2
 botOk:=SEnv.ok_none
 botLe a _:=SEnv.le_none a
 htop a ha:=SEnv.ht_top ha
 hlt a b ha hb hle hne:=SEnv.ht_lt ha hb hle hne
 evOk x i _ hx _:=by
  unfold evX
  split
  ·exact xV0 (xPT hx) _
  ·exact SEnv.ok_none
 mono x y i hx hy _ _ hle _:=by
  unfold evX
  split
  ·exact xMl (xV1 (by rw [hx,hy]) hle) _
  ·exact SEnv.le_none _
 dep x i k a hno:=by
  unfold evX
  cases hu:p.unks[i]? with
  | none=>rfl
  | some u =>
   refine xPS fun j hj=>getD_set_ne (hno j ?_)
   unfold Prg.rdX;rw [hu];exact hj
 nn i j hj:=by
  unfold Prg.rdX at hj
  split at hj
  ·rcases xND hj with ⟨f,_,rfl⟩ | ⟨f,b,h⟩
   ·exact Int.natCast_nonneg _
   ·exact xHK j h
  ·cases hj
noncomputable def Prg.ssol (p:Prg):List SEnv:=p.ssys.sol
theorem Prg.ssol_least (p:Prg):p.ssys.Least p.ssol:=p.ssys.least
theorem Prg.ssol_len (p:Prg):p.ssol.length=p.unks.length:=p.ssol_least.fit.len
theorem Prg.ssol_ok (p:Prg):XOk p.ssol:=xPT p.ssol_least.fit.ok
noncomputable def Prg.sAt (p:Prg) (u:Unk):SEnv:=p.ssol.getD (p.at' u) none
theorem Prg.sAt_get {p:Prg} {u:Unk} (h:p.has u):p.ssol[p.at' u]?=some (p.sAt u):=by
 have:=Prg.at_lt h
 rw [<- p.ssol_len] at this
 rw [Prg.sAt,List.getD_eq_getElem?_getD,xgG this];rfl
theorem Prg.sAt_fix {p:Prg} {u:Unk} (h:p.has u):p.sAt u=evU p p.ssol u:=by
 have:=p.ssol_least.fix _ _ (Prg.sAt_get h)
 rw [this]
 exact xR9 h
end Go.Proofs.YtnhfofmhkfdpgaaGreatDoor.Vm
namespace Go.Proofs.YtnhfofmhkfdpgaaGreatDoor.Vm
set_option maxRecDepth 100000
open Go Go.RowKit
variable {N:Nat} {g:Glob}
theorem xEx (xs ys:List Int) (hl:xs.length < 2 ^ 40) (v w:AV) (hv:FSl intc 1 v xs) (hw:FSl intc 1 w ys):Ret P g false 125 [v,w] (.bool (decide (xs=ys))):=by
 refine Ret.inF (by kernel_rfl) ?_
 conv=>arg 3;reduce
 simp [hv.len,hw.len]
 by_cases hlen:xs.length=ys.length
 ·simp [hlen,hv.len]
  refine W.whileI (fun (k:Nat) F S=>k<=ys.length/\xs.take k=ys.take k/\F 0=v/\F 1=w/\F 12=.int .i64 ys.length/\F 13=.int .i64 k) (fun k=>ys.length - k) ?_ 0 _ _ ?_
  ·rintro k F S ⟨hk,hp,h0,h1,h12,h13⟩
   by_cases hlt:k < ys.length
   ·simp [h12,h13,hlt]
    refine Dra.auto [] mix ?_ ?_
    ·kernel_rfl
    obtain ⟨y,hy⟩:∃ y,ys[k]?=some y:=⟨_,xgG (by omega)⟩
    obtain ⟨x,hx⟩:∃ x,xs[k]?=some x:=⟨_,xgG (by omega)⟩
    have e4:=wrapS k (by omega)
    simp [classes,h0,h1,h12,h13,hv.idx hx,hw.idx hy,intc]
    refine xFH (fun hxy=>?_) (fun hxy=>?_)
    ·simp [hxy]
     refine RK.eq ?_ rfl
     have:xs ≠ ys:=by rintro rfl;rw [hx] at hy;simp at hy;exact hxy hy
     simp [this]
    ·simp [hxy,e4,h13,h12,h0,h1]
     refine ⟨k + 1,by omega,by omega,?_,by omega⟩
     rw [List.take_add_one,List.take_add_one,hp,hx,hy]
     have:x=y:=hxy
     subst this;rfl
   ·have:k=ys.length:=by omega
    subst this
    simp [h12,h13]
    refine RK.eq ?_ rfl
    rw [List.take_length,<- hlen,List.take_length] at hp
    simp [hp]
  ·simp
 ·have hne:xs ≠ ys:=fun h=>hlen (by rw [h])
  have hlen':¬ ((xs.length:Int)=ys.length):=by omega
  simp [hlen']
  exact RK.eq (by simp [hne]) rfl
theorem xNE (a b:SEnv) (ha:a.ok):Ret P g false 82 [encES a,encES b] (.bool (decide (a=b))):=by
 refine Ret.inF (by kernel_rfl) ?_
 conv=>arg 3;reduce
 simp
 cases a with
 | none =>
  cases b with
  | none =>
   simp
   refine (xEx [] [] (by simp) .nilsl .nilsl .nil .nil).use (n:=9) ?_ rfl ?_ <;> simp
   exact RK.eq rfl rfl
  | some m =>
   simp
   exact RK.eq rfl rfl
 | some l =>
  have hl:=(ha l rfl).1
  cases b with
  | none =>
   simp
   exact RK.eq rfl rfl
  | some m =>
   simp
   refine (xEx l m (by omega) _ _ .mk .mk).use (n:=9) ?_ rfl ?_ <;> simp
   exact RK.eq rfl rfl
theorem Ins.sgn_ok (i:Ins) (e:SEnv) {ans:Int} (ha:sgOk ans):sgOk (i.sgn e ans):=by
 unfold Ins.sgn
 repeat' split
 all_goals first
  | exact xAX _
  | exact SEnv.get_ok _ _
  | exact xBC _
  | exact xBA _ _
  | exact xFM _ _
  | exact xBB _ _
  | exact ha
  | exact ⟨by omega,by omega⟩
theorem xLm (e:SEnv) (i:Ins) {ans:Int} (he:e.ok) (ha:sgOk ans):Ret P (gl N) false 91 [encES e,encI i,.int .i64 ans] (.int .i64 (i.sgn e ans)):=by
 refine Ret.in c91 (by simp) ?_
 simp [k91]
 refine Dra.auto [] mix ?_ ?_
 ·kernel_rfl
 simp [classes]
 refine (xAC e i.a he).b (n:=9) (by simp) (by simp [solids,AV.solid]) ?_
 simp
 refine (xAC e i.b he).b (n:=9) (by simp) (by simp [solids,AV.solid]) ?_
 simp
 have o1:=e.get_ok i.a
 have o2:=e.get_ok i.b
 refine (xDp i.kind).use (n:=9) ?_ rfl ?_ <;> simp
 by_cases hk:0<=i.kind/\i.kind < 10
 ·have:i.kind=0 \/ i.kind=1 \/ i.kind=2 \/ i.kind=3 \/ i.kind=4 \/ i.kind=5 \/ i.kind=6 \/ i.kind=7 \/ i.kind=8 \/ i.kind=9:=by omega
  rcases this with h | h | h | h | h | h | h | h | h | h <;> rw [h] <;> simp [kname,kindNames,xDF]
  ·refine (xLj i.c).use (n:=9) ?_ rfl ?_ <;> simp
   exact RK.eq (by simp [Ins.sgn,h]) rfl
  ·exact RK.eq (by simp [Ins.sgn,h]) rfl
  ·refine (xMh o1).use (n:=9) ?_ rfl ?_ <;> simp
   exact RK.eq (by simp [Ins.sgn,h]) rfl
  ·refine (xMf o1 o2).use (n:=9) ?_ rfl ?_ <;> simp
   exact RK.eq (by simp [Ins.sgn,h]) rfl
  ·refine (xRw o1 o2).use (n:=9) ?_ rfl ?_ <;> simp
   exact RK.eq (by simp [Ins.sgn,h]) rfl
  ·refine (xMg o1 o2).use (n:=9) ?_ rfl ?_ <;> simp
   exact RK.eq (by simp [Ins.sgn,h]) rfl
  all_goals exact RK.eq (by simp [Ins.sgn,h]) rfl
 ·have e1:kname i.kind=[]:=by rw [kname,if_neg hk]
  have e2:i.sgn e ans=7:=by simp only [Ins.sgn];repeat (rw [if_neg (by omega)])
  simp [e1,xDF]
  exact RK.eq (by simp [e2]) rfl
theorem xDw (e:SEnv) (i:Ins) {ans:Int} (he:e.ok) (ha:sgOk ans):Ret P (gl N) false 53 [encES e,encI i,.int .i64 ans] (encES (i.sign e ans)):=by
 refine Ret.inF (by kernel_rfl) ?_
 conv=>arg 3;reduce
 simp
 refine Dra.auto [] mix ?_ ?_
 ·kernel_rfl
 simp [classes]
 refine (xCw i).b (n:=9) (by simp [mapOpt]) rfl ?_
 simp
 refine (xLm e i he ha).b (n:=9) (by simp [mapOpt]) (by simp [solids,AV.solid]) ?_
 simp
 refine (xKc e i.def (i.sgn_ok e ha) he).b (n:=9) (by simp [mapOpt]) (by simp [solids,AV.solid]) ?_
 simp
 exact RK.envS rfl
theorem xKe (f:Fun) (e:SEnv) (he:e.ok):Ret P g false 18 [encFun f,encES e] (encES (e.start f.par f.vars)):=by
 refine Ret.inF (by kernel_rfl) ?_
 conv=>arg 3;reduce
 simp
 cases e with
 | none =>
  simp
  exact RK.envS (e:=none) rfl
 | some l =>
  have hc:capN f.vars<=64:=xIJ _
  have hsl:(startS f.par f.vars l).length=capN f.vars:=by simp [startS]
  have hget:∀k,k < capN f.vars->(startS f.par f.vars l)[k]?=some (if (k:Int) < f.par then gS l k else 2):=fun k hk=>by simp [startS,hk]
  simp
  refine (xE5 f.vars (v:=2) ⟨by omega,by omega⟩).use' (n:=9) ?_ ?_ ?_ <;> simp
  generalize hm:capN f.vars=m at *
  have e2:(if 0 < (if (m:Int) < f.par then (m:Int) else f.par) then (if (m:Int) < f.par then (m:Int) else f.par) else 0)=(((max 0 (min f.par m)).toNat:Nat):Int):=by split <;> split <;> omega
  simp [e2]
  generalize hq:(max 0 (min f.par m)).toNat=q at *
  have hqm:q<=m:=by omega
  refine W.whileI (fun (a:Nat) F S=>a<=q/\F 3=.ptr 1 0 0/\F 4=.ptr 2 0 0/\F 5=.ptr 4 0 0/\F 20=.int .i64 q/\F 21=.int .i64 a/\S.obj 1=some (.row 2 [envcS (some l)])/\S.obj 2=some (.row 2 [[.bool false,.nilsl]])/\S.obj 4=some (.row 2 [[.bool true,.sl 1 3 0 m]])/\4 < S.next /\
   ∃ o:List Int,o.length=m/\o.take a=(startS f.par f.vars l).take a/\(∀k,a<=k->k < m->o[k]?=some 2)/\S.obj 3=some (.row 1 (els intc o))) (fun a=>q - a) ?_ 0 _ _ ?_
  ·rintro a F S ⟨ha,h3,h4,h5,h20,h21,s1,s2,s4,hn,o,ho,hot,hod,s3⟩
   by_cases hlt:a < q
   ·have e4:=wrapS a (by omega)
    have ham:a < m:=by omega
    simp [h20,h21,hlt]
    refine Dra.auto [] mix ?_ ?_
    ·kernel_rfl
    simp only [xBh] at s1
    simp [classes,h3,h5,h20,h21,s1,s4]
    refine (xAC (some l) a he).b (n:=9) (by simp) (by simp [solids,AV.solid]) ?_
    simp [intc,xAd ham,s3,hod a (by omega) ham,h3,h4,h5,h20,h21,e4,SEnv.get]
    refine ⟨a + 1,by omega,by omega,by omega,by simpa using s1,by simpa using s2,by simpa using s4,by simpa using hn,o.set a (gS l a),by simp [ho],?_,fun k hk1 hk2=>?_,by rw [<- xAg];rfl⟩
    ·rw [xAo (by omega),hot,xAe (hget a ham),if_pos (by omega)]
    ·rw [List.getElem?_set_ne (by omega)];exact hod k (by omega) hk2
   ·have:a=q:=by omega
    subst this
    have hoR:o=startS f.par f.vars l:=by
     apply List.ext_getElem?
     intro k
     by_cases hk:k < a
     ·have h1:(o.take a)[k]?=((startS f.par f.vars l).take a)[k]?:=by rw [hot]
      rw [List.getElem?_take_of_lt hk,List.getElem?_take_of_lt hk] at h1
      exact h1
     ·by_cases hk2:k < m
      ·rw [hod k (by omega) hk2,hget k hk2,if_neg (by omega)]
      ·rw [List.getElem?_eq_none (by omega),List.getElem?_eq_none (by omega)]
    subst hoR
    simp [h20,h21,h4,h5,s2,s4]
    exact RK.rowES (by simp [s3]) hsl
  ·simp
   exact ⟨by omega,List.replicate m 2,by simp,fun k hk=>by simp [hk],rfl⟩
theorem rangeLen {α:Type} (h:Nat->List α) {m:Nat}:∀{n:Nat},m<=n->((List.range m).flatMap h).length<=((List.range n).flatMap h).length
 | 0,hm=>by rw [show m=0 by omega];exact Nat.le_refl _
 | n + 1,hm=>by
  by_cases he:m=n + 1
  ·rw [he];exact Nat.le_refl _
  ·have:=rangeLen h (n:=n) (m:=m) (by omega)
   rw [List.range_succ,List.flatMap_append]
   simp only [List.length_append];omega
theorem Blk.posTo_lenM {g b:Nat} {y:Blk} {c:Nat}:∀{n:Nat},c<=n->(y.posTo g b c).length<=(y.posTo g b n).length
 | 0,hm=>by rw [show c=0 by omega];exact Nat.le_refl _
 | n + 1,hm=>by
  by_cases he:c=n + 1
  ·rw [he];exact Nat.le_refl _
  ·have:=Blk.posTo_lenM (g:=g) (b:=b) (y:=y) (n:=n) (c:=c) (by omega)
   have e:y.posTo g b (n + 1)=y.posTo g b n ++ [n].filterMap fun k=>(y.ins[k]?).map fun x=>(g,b,k,x):=by
    unfold Blk.posTo
    rw [List.range_succ,List.filterMap_append]
   rw [e,List.length_append];omega
theorem xRB {p:Prg} {f:Fun} {y:Blk} {a b c:Nat} (hf:p.funs[a]?=some f) (hy:f.blks[b]?=some y) (hc:c < y.ins.length):(p.posTo a ++ (f.posTo a b ++ y.posTo a b (c + 1))).length<=p.pos.length:=by
 have h1:=Blk.posTo_lenM (g:=a) (b:=b) (y:=y) (c:=c + 1) (n:=y.ins.length) (by omega)
 have h2:(f.posTo a (b + 1)).length<=(f.posTo a f.blks.length).length:=rangeLen _ (by have:=(xgS hy).1;omega)
 have h3:(p.posTo (a + 1)).length<=p.pos.length:=rangeLen _ (by have:=(xgS hf).1;omega)
 rw [Fun.posTo_succ hy,List.length_append] at h2
 rw [Prg.posTo_succ hf,List.length_append] at h3
 simp only [List.length_append]
 omega
theorem xNF {p:Prg} (hp:p.Fit) {fv:AV} {S0:St} {K:AV->St->Prop} (Inv:List Step->St->Prop) (hup:∀L S S',Inv L S->Up S S'->Inv L S') (h0:Inv [] S0)
  (hst:∀(L:List Step) (a b c:Nat) (f:Fun) (y:Blk) (x:Ins) (S:St),p.funs[a]?=some f->f.blks[b]?=some y->y.ins[c]?=some x->(L ++ [(a,b,c,x)]).length<=p.pos.length->Inv L S->∀K':AV->St->Prop,(∀v S',Inv (L ++ [(a,b,c,x)]) S'->K' v S')->CalV P (gl N) fv [.int .i64 a,.int .i64 b,.int .i64 c,encI x] S K')
  (hk:∀S,Inv p.pos S->K (.tuple []) S):Cal P (gl N) 60 [encP p,fv] S0 K:=by
 refine Cal.inF (by kernel_rfl) ?_
 have hpl:=hp.funs
 conv=>arg 3;reduce
 simp
 refine W.whileI (fun (a:Nat) F S=>a<=p.funs.length/\F 1=fv/\F 11=p.funsV/\F 12=.int .i64 p.funs.length/\F 13=.int .i64 a/\Inv (p.posTo a) S) (fun a=>p.funs.length - a) ?_ 0 _ _ ?_
 ·rintro a F S ⟨ha,f1,f11,f12,f13,hI⟩
  by_cases hlt:a < p.funs.length
  ·have e4:=wrapS a (by omega)
   obtain ⟨f,hf⟩:∃ f,p.funs[a]?=some f:=⟨_,xgG hlt⟩
   have hfs:=hp.each f (xmG hf)
   have hbl:=hfs.blks
   simp [f12,f13,hlt]
   simp [f11,f13,p.funsS.idx hf]
   generalize hS1:(S.new (.row 3 [[.int .i64 0,.int .i64 0,.nilsl]])).set S.next (.row 3 [[.int .i64 f.par,.int .i64 f.vars,f.blksV]])=S1
   have hI1:Inv (p.posTo a ++ f.posTo a 0) S1:=by
    have:p.posTo a ++ f.posTo a 0=p.posTo a:=by simp [Fun.posTo]
    rw [this,<- hS1]
    exact hup _ _ _ hI ((Up.new _ _).put (Nat.le_refl _) _)
   clear hS1 hI
   refine W.whileI (fun (b:Nat) F S=>b<=f.blks.length/\F 1=fv/\F 11=p.funsV/\F 12=.int .i64 p.funs.length/\F 13=.int .i64 a/\F 4=.int .i64 a/\F 19=f.blksV/\F 20=.int .i64 f.blks.length/\F 21=.int .i64 b/\Inv (p.posTo a ++ f.posTo a b) S) (fun b=>f.blks.length - b) ?_ 0 _ _ ?_
   ·rintro b F S ⟨hb,f1,f11,f12,f13,f4,f19,f20,f21,hI⟩
    by_cases hltb:b < f.blks.length
    ·have e5:=wrapS b (by omega)
     obtain ⟨y,hy⟩:∃ f',f.blks[b]?=some f':=⟨_,xgG hltb⟩
     have hil:=hfs.ins y (xmG hy)
     simp [f20,f21,hltb]
     simp [f19,f21,f.blksS.idx hy]
     generalize hS1:(S.new (.row 3 [[.bool false,.nilsl,.nilsl]])).set S.next (.row 3 [[.bool y.on,y.insV,y.outV]])=S1
     have hI1:Inv (p.posTo a ++ (f.posTo a b ++ y.posTo a b 0)) S1:=by
      have:f.posTo a b ++ y.posTo a b 0=f.posTo a b:=by simp [Blk.posTo]
      rw [this,<- hS1]
      exact hup _ _ _ hI ((Up.new _ _).put (Nat.le_refl _) _)
     clear hS1 hI
     refine W.whileI (fun (c:Nat) F S=>c<=y.ins.length/\F 1=fv/\F 11=p.funsV/\F 12=.int .i64 p.funs.length/\F 13=.int .i64 a/\F 4=.int .i64 a/\F 19=f.blksV/\F 20=.int .i64 f.blks.length/\F 21=.int .i64 b/\F 6=.int .i64 b/\F 27=y.insV/\F 28=.int .i64 y.ins.length/\F 29=.int .i64 c/\Inv (p.posTo a ++ (f.posTo a b ++ y.posTo a b c)) S) (fun c=>y.ins.length - c) ?_ 0 _ _ ?_
     ·rintro c F S ⟨hc,f1,f11,f12,f13,f4,f19,f20,f21,f6,f27,f28,f29,hI⟩
      by_cases hltc:c < y.ins.length
      ·have e6:=wrapS c (by omega)
       obtain ⟨x,hx⟩:∃ x,y.ins[c]?=some x:=⟨_,xgG hltc⟩
       simp [f28,f29,hltc]
       simp [f27,f29,y.insS.idx hx,f1,f4,f6]
       have hL:(p.posTo a ++ (f.posTo a b ++ y.posTo a b c)) ++ [(a,b,c,x)]=p.posTo a ++ (f.posTo a b ++ y.posTo a b (c + 1)):=by
        rw [Blk.posTo_succ hx];simp
       refine hst (p.posTo a ++ (f.posTo a b ++ y.posTo a b c)) a b c f y x _ hf hy hx (by rw [hL];exact xRB hf hy hltc) (hup _ _ _ hI ((Up.new _ _).put (Nat.le_refl _) _)) _ fun v S' hI'=>?_
       rw [hL] at hI'
       simp [f1,f4,f6,f11,f12,f13,f19,f20,f21,f27,f28,f29,e6]
       exact ⟨c + 1,by omega,by omega,by omega,hI'⟩
      ·have:c=y.ins.length:=by omega
       subst this
       simp [f28,f29,f1,f4,f11,f12,f13,f19,f20,f21,e5]
       exact ⟨b + 1,by omega,by omega,by omega,by rw [Fun.posTo_succ hy];exact hI⟩
     ·simp [f1,f4,f11,f12,f13,f19,f20,f21]
      exact hI1
    ·have:b=f.blks.length:=by omega
     subst this
     simp [f20,f21,f1,f11,f12,f13,e4]
     exact ⟨a + 1,by omega,by omega,by omega,by rw [Prg.posTo_succ hf];exact hI⟩
   ·simp [f1,f11,f12,f13]
    exact hI1
  ·have:a=p.funs.length:=by omega
   subst this
   simp [f12,f13]
   exact hk S hI
 ·simp
  exact hup _ _ _ h0 (Up.new _ _)
@[simp] def trc (s:Step):List AV:=[.int .i64 s.1,.int .i64 s.2.1,.int .i64 s.2.2.1]
instance:PlainE trc:=⟨fun s=>by simp [trc,AV.stab]⟩
theorem Calls1 {f a b c:Nat} {x:Ins} {v:AV} {l:List Step} {S:St} {K:AV->St->Prop} (h1:S.obj 1=some (.row 1 [[.int .i64 f]])) (h3:S.obj 3=some (.row 1 [[v]])) (hv:Has trc 3 S v l) (hb:Bel S v) (hv4:∀sz q n,v=.sl sz q 0 n->4<=q) (hn:4<=S.next) (hl:l.length + 1<=room)
  (hk:∀S' w,S'.obj 1=S.obj 1->S'.obj 3=some (.row 1 [[w]])->Has trc 3 S' w (l ++ if isCall f (a,b,c,x)=true then [(a,b,c,x)] else [])->Bel S' w->(∀sz q n,w=.sl sz q 0 n->4<=q)->S.next<=S'.next->K (.tuple []) S') :
  Cal P g 61 [.int .i64 (a:Int),.int .i64 (b:Int),.int .i64 (c:Int),encI x,.ptr 1 0 0,.ptr 3 0 0] S K:=by
 refine Cal.inF (by kernel_rfl) ?_
 have n1:¬ 1=S.next:=by omega
 have n3:¬ 3=S.next:=by omega
 conv=>arg 3;reduce
 simp [h1,h3,n1,n3]
 have no:¬ (x.kind=7/\x.f=(f:Int))->isCall f (a,b,c,x)=false:=fun h=>by simpa [isCall] using h
 have hv':=fun (z:AObj)=>hv.new (x:=z) hb
 refine xCM (fun hk7=>?_) (fun hk7=>?_) <;> simp [hk7,h1,n1]
 ·refine xAj (fun hf=>?_) (fun hf=>?_) <;> simp [hf,h3,n3]
  ·have hyes:isCall f (a,b,c,x)=true:=by simp [isCall,hk7,hf]
   refine xA7 (e:=trc) (x:=(a,b,c,x)) ((hv' _).new (hb.mono (by simp))) rfl hl fun S' k1 k2 k3=>?_
   simp only [xCL] at k1 k2 k3
   have o:∀q,q < 4->S'.obj q=S.obj q:=fun q hq=>by
    rw [k3 q (by omega) fun len h=>by have:=hv4 _ _ _ h;omega]
    simp [show ¬ q=S.next by omega,show ¬ q=S.next + 1 by omega]
   simp [o 3 (by omega),h3]
   refine hk _ (.sl 3 (S.next + 1 + 1) 0 (l.length + 1)) (by simp [o 1 (by omega)]) (by simp) ?_ (Bel.sl (by simp;omega)) (fun sz q n h=>by cases h;omega) (by simp;omega)
   rw [if_pos hyes]
   exact k1.keep fun q ⟨len,hq⟩=>by cases hq;simp [show ¬ S.next + 1 + 1=3 by omega]
  ·refine hk _ v (by simp [n1]) (by simp [n3,h3]) ?_ (hb.mono (by simp)) hv4 (by simp)
   rw [no fun h=>hf h.2]
   simpa using hv' _
 ·refine hk _ v (by simp [n1]) (by simp [n3,h3]) ?_ (hb.mono (by simp)) hv4 (by simp)
  rw [no fun h=>hk7 h.1]
  simpa using hv' _
theorem xE8 {p:Prg} (hp:p.Fit) {f:Nat} {x:Fun} (hf:p.fn f=some x):OwnL P (gl N) trc 3 35 [encP p,.int .i64 (f:Int)] (p.callsTo f):=by
 refine OwnL.in (cF0 (by kernel_rfl)) (nF (by kernel_rfl)) (vO ?_)
 conv=>arg 3;reduce
 simp
 refine (xEf p f hp).use (n:=9) (by simp [mapOpt,xAc p.funsS.stab]) (by simp [solids,AV.solid,p.funsS.solid]) ?_
 simp [hf]
 have hpl:=(Prg.pos_len (xKV hf).1).1
 have hfl:∀L:List Step,(L.filter (isCall f)).length<=L.length:=fun L=>List.length_filter_le _ _
 refine xNF hp (fun L S=>4<=S.next/\S.obj 1=some (.row 1 [[.int .i64 f]])/\L.length<=p.pos.length/\∃ v,S.obj 3=some (.row 1 [[v]])/\Has trc 3 S v (L.filter (isCall f))/\Bel S v/\∀sz q n,v=.sl sz q 0 n->4<=q) ?_ ?_ ?_ ?_
 ·rintro L S S' ⟨h1,h2,hl,v,h3,h4,h5,h6⟩ hup
  exact ⟨by have:=hup.1;omega,by rw [hup.2 1 (by omega)];exact h2,hl,v,by rw [hup.2 3 (by omega)];exact h3,h4.keep fun q ⟨len,hq⟩=>hup.2 q (h5 _ _ _ hq),h5.mono hup.1,h6⟩
 ·simp
  exact ⟨.nil,Bel.nil⟩
 ·rintro L a b c f' y i S hf' hy hx hlen ⟨h1,h2,hl,v,h3,h4,h5,h6⟩ K' hK'
  have:=hfl L
  simp
  refine Calls1 h2 h3 h4 h5 h6 h1 (by simp [room];omega) fun S' w k1 k2 k3 k4 k5 k6=>?_
  refine hK' _ _ ⟨by omega,by rw [k1];exact h2,hlen,w,k2,?_,k4,k5⟩
  rw [List.filter_append]
  by_cases hc:isCall f (a,b,c,i)=true
  ·rw [if_pos hc] at k3;simpa [hc] using k3
  ·rw [if_neg hc] at k3;simpa [hc] using k3
 ·rintro S ⟨h1,h2,hl,v,h3,h4,h5,h6⟩
  simp [h3]
  exact h4
def unkV:Unk->AV
 | .par f=>.iface 108 (.agg [.int .i64 (f:Int)])
 | .ans f=>.iface 109 (.agg [.int .i64 (f:Int)])
 | .blk f b=>.iface 111 (.agg [.int .i64 (f:Int),.int .i64 (b:Int)])
def unkK:KK:=.iface [(108,[.int .i64]),(109,[.int .i64]),(111,[.int .i64,.int .i64])]
theorem xCR (u:Unk):unkK.fits (unkV u)=true:=by cases u <;> rfl
theorem xGP (u v:Unk):keyEq (unkV u) (unkV v)=some (decide (u=v)):=by
 cases u <;> cases v <;> simp [unkV,keyEq,sameKinds,kindOf,eqCells,valEq,scalarEq]
 all_goals (rw [Bool.eq_iff_iff];simp;try omega)
def unkE:List Unk->Nat->List (AV × AV)
 | [],_=>[]
 | u :: l,k=>(unkV u,.int .i64 (k:Int)) :: unkE l (k + 1)
theorem xKf {u:Unk}:∀{l:List Unk} {i:Nat} (k:Nat),l[i]?=some u->(∀j,j < i->l[j]? ≠ some u)->findV (unkV u) (unkE l k)=some (some (.int .i64 ((k + i:Nat):Int)))
 | [],i,k,h,_=>by simp at h
 | v :: l,0,k,h,_=>by
  simp at h;subst h
  simp [unkE,findV,xGP]
 | v :: l,i + 1,k,h,hn=>by
  have hv:v ≠ u:=fun e=>hn 0 (by omega) (by simp [e])
  have hv':¬ u=v:=fun e=>hv e.symm
  have ih:=xKf (l:=l) (i:=i) (k + 1) (by simpa using h) fun j hj=>by simpa using hn (j + 1) (by omega)
  simp [unkE,findV,xGP,hv',ih]
  omega
theorem xMq {u:Unk} {z:AV}:∀{l:List Unk} (k:Nat),u ∉ l->putV (unkV u) z (unkE l k)=some (unkE l k ++ [(unkV u,z)])
 | [],k,_=>by simp [unkE,putV]
 | v :: l,k,h=>by
  have hv':¬ u=v:=fun e=>h (by rw [e];exact List.mem_cons_self)
  have ih:=xMq (z:=z) (l:=l) (k + 1) fun hm=>h (List.mem_cons_of_mem _ hm)
  simp [unkE,putV,xGP,hv',ih]
theorem xKg {u:Unk}:∀{l:List Unk} (k:Nat),unkE (l ++ [u]) k=unkE l k ++ [(unkV u,.int .i64 ((k + l.length:Nat):Int))]
 | [],k=>by simp [unkE]
 | v :: l,k=>by
  have ih:=xKg (u:=u) (l:=l) (k + 1)
  simp only [List.cons_append,unkE,ih,List.length_cons]
  rw [show k + 1 + l.length=k + (l.length + 1) by omega]
theorem xBZ {p:Prg} {u:Unk} (h:p.has u):findV (unkV u) (unkE p.unks 0)=some (some (.int .i64 ((p.at' u:Nat):Int))):=by
 have:=xKf (u:=u) (l:=p.unks) (i:=p.at' u) 0 (Prg.unks_at h) fun j hj hh=>by
  have:=(Prg.unks_has hh).2
  omega
 rwa [Nat.zero_add] at this
@[simp] def unkc (u:Unk):List AV:=[unkV u]
@[simp] theorem xW0 {f:Nat}:AV.iface 108 (.agg [.int .i64 (f:Int)])=unkV (.par f):=rfl
@[simp] theorem xW1 {f:Nat}:AV.iface 109 (.agg [.int .i64 (f:Int)])=unkV (.ans f):=rfl
@[simp] theorem xW2 {f b:Nat}:AV.iface 111 (.agg [.int .i64 (f:Int),.int .i64 (b:Int)])=unkV (.blk f b):=rfl
theorem xDY:KK.iface [(108,[.int .i64]),(109,[.int .i64]),(111,[.int .i64,.int .i64])]=unkK:=rfl
@[simp] theorem xUg {f:Nat} {z:AV}:pk (.assert 108 true z) [unkV (.par f)]=some (.tuple [.agg [.int .i64 (f:Int)],.bool true]):=_root_.id rfl
@[simp] theorem xUj {f:Nat} {z:AV}:pk (.assert 108 true z) [unkV (.ans f)]=some (.tuple [z,.bool false]):=_root_.id rfl
@[simp] theorem xUk {f:Nat} {z:AV}:pk (.assert 109 true z) [unkV (.ans f)]=some (.tuple [.agg [.int .i64 (f:Int)],.bool true]):=_root_.id rfl
@[simp] theorem xUm {f b:Nat} {z:AV}:pk (.assert 108 true z) [unkV (.blk f b)]=some (.tuple [z,.bool false]):=_root_.id rfl
@[simp] theorem xUn {f b:Nat} {z:AV}:pk (.assert 109 true z) [unkV (.blk f b)]=some (.tuple [z,.bool false]):=_root_.id rfl
@[simp] theorem xUo {f b:Nat} {z:AV}:pk (.assert 111 true z) [unkV (.blk f b)]=some (.tuple [.agg [.int .i64 (f:Int),.int .i64 (b:Int)],.bool true]):=_root_.id rfl
structure SysO (S:St) (p:Prg) (ps:Nat) (av:AV) (qm:Nat):Prop where
 box:S.obj ps=some (.row 3 [[p.funsV,av,.map qm]])
 map:S.obj qm=some (.map (unkE p.unks 0))
 all:Has unkc 1 S av p.unks
 bel:Bel S av
 lt:ps < S.next
 lm:qm < S.next
theorem SysO.up {S S':St} {p:Prg} {ps qm:Nat} {av:AV} (h:SysO S p ps av qm) (hu:Up S S'):SysO S' p ps av qm :=
 ⟨by rw [hu.2 ps h.lt];exact h.box,by rw [hu.2 qm h.lm];exact h.map,h.all.keep fun q ⟨len,hq⟩=>hu.2 q (h.bel _ _ _ hq),h.bel.mono hu.1,Nat.lt_of_lt_of_le h.lt hu.1,Nat.lt_of_lt_of_le h.lm hu.1⟩
theorem xGQ {R:St} {p:Prg} {ps f b:Nat} {av mv:AV} {x:Fun} {y:Blk} (h:R.obj ps=some (.row 3 [[p.funsV,av,mv]])) (hf:p.funs[f]?=some x) (hy:x.blks[b]?=some y):Looks P g 78 [.ptr ps 0 0,.int .i64 (f:Int),.int .i64 (b:Int)] R y.insV:=by
 refine Looks.in c78 (by simp) ?_
 simp only [k78]
 refine LC.seq (LC.region (LO.step ?_))
 simp
 refine LO.nil (LC.seq (LC.region ?_))
 repeat (refine LO.step ?_;simp [h,p.funsS.idx hf,x.blksS.idx hy])
 refine LO.nil (LC.ret ?_)
 simp [resV,mapOpt,res1]
theorem xMr {S:St} {p:Prg} {ps f b:Nat} {av mv:AV} {x:Fun} {y:Blk} {K:AV->St->Prop} (h:S.obj ps=some (.row 3 [[p.funsV,av,mv]])) (hf:p.funs[f]?=some x) (hy:x.blks[b]?=some y) (hk:K y.insV S):Cal P g 78 [.ptr ps 0 0,.int .i64 (f:Int),.int .i64 (b:Int)] S K:=by
 refine Cal.inF (by kernel_rfl) ?_
 conv=>arg 3;reduce
 simp [h,p.funsS.idx hf,x.blksS.idx hy]
 exact hk
def St.grow (S:St) (k:Nat):St:=⟨S.next + k,fun q=>if q < S.next then S.obj q else Option.none⟩
theorem Up.grow {S S':St} {k:Nat} (h:Up S S') (hn:S'.next=S.next + k):Wk S' (S.grow k):=⟨hn.symm,fun q=>by
 by_cases hq:q < S.next
 ·right;left
  show (if q < S.next then S.obj q else none)=_
  rw [if_pos hq,h.2 q hq]
 ·left
  show (if q < S.next then S.obj q else none)=_
  rw [if_neg hq]⟩
theorem xBt (S:St) (k:Nat):Up S (S.grow k):=⟨Nat.le_add_right _ _,fun q hq=>by show (if q < S.next then S.obj q else none)=_;rw [if_pos hq]⟩
@[simp] theorem xV2 {S:St} {k:Nat}:(S.grow k).next=S.next + k:=_root_.id rfl
structure XRow (S:St) (o:Nat) (p:Prg) (X:List SEnv):Prop where
 obj:S.obj o=some (.row 2 (els envcS X))
 lt:o < S.next
 len:X.length=p.unks.length
 ok:XOk X
theorem XRow.up {S S':St} {o:Nat} {p:Prg} {X:List SEnv} (h:XRow S o p X) (hu:Up S S'):XRow S' o p X:=⟨by rw [hu.2 o h.lt];exact h.obj,Nat.lt_of_lt_of_le h.lt hu.1,h.len,h.ok⟩
theorem XRow.get {S:St} {o:Nat} {p:Prg} {X:List SEnv} (h:XRow S o p X) {u:Unk} (hu:p.has u):X[p.at' u]?=some (X.getD (p.at' u) none)/\p.at' u < p.unks.length:=by
 have h1:=Prg.at_lt hu
 refine ⟨?_,h1⟩
 rw [<- h.len] at h1
 rw [List.getD_eq_getElem?_getD,xgG h1];rfl
theorem xPU (p:Prg) (X:List SEnv) (i:Ins):sgOk (ansX p X i):=by
 unfold ansX
 split
 ·exact SEnv.get_ok _ _
 ·exact xAv
def callsOk (p:Prg) (l:List Ins):Prop:=∀i ∈ l,i.kind=7->0<=i.f/\i.f.toNat < p.funs.length
theorem xRC {S:St} {p:Prg} {ps qm o:Nat} {av v:AV} {X:List SEnv} {e:SEnv} {l:List Ins} {K:AV->St->Prop} (hS:SysO S p ps av qm) (hx:XRow S o p X) (he:e.ok) (hv:FSl insc 11 v l) (hl:l.length < 2 ^ 40) (hc:callsOk p l)
  (hk:K (.agg (envcS (pastX p X e l))) (S.grow (2 + l.length))):Cal P (gl N) 77 [.ptr ps 0 0,.agg (envcS e),v,.sl 2 o 0 p.unks.length] S K:=by
 refine Cal.less ?_
 refine c77.in (by simp) ?_
 simp [k77,hv.len]
 refine W.whileI (fun (k:Nat) F S2=>k<=l.length/\F 0=.ptr ps 0 0/\F 3=.sl 2 o 0 p.unks.length/\F 5=.ptr S.next 0 0/\F 8=.ptr (S.next + 1) 0 0/\F 12=v/\F 13=.int .i64 l.length/\F 14=.int .i64 k/\Up S S2/\S2.next=S.next + 2 + k /\
  S2.obj S.next=some (.row 2 [envcS (pastX p X e (l.take k))])/\S2.obj (S.next + 1)=some (.row 2 [[.bool false,.nilsl]])) (fun k=>l.length - k) ?_ 0 _ _ ?_
 ·rintro k F S2 ⟨hk',f0,f3,f5,f8,f12,f13,f14,hu,hn,s5,s8⟩
  by_cases hlt:k < l.length
  ·obtain ⟨i,hi⟩:∃ i,l[k]?=some i:=⟨_,xgG hlt⟩
   have e4:=wrapS k (by omega)
   have hst:pastX p X e (l.take (k + 1))=i.sign (pastX p X e (l.take k)) (ansX p X i):=by unfold pastX;rw [xAi _ _ _ _ _ hi]
   have hok:(pastX p X e (l.take k)).ok:=xMn _ he
   have hao:=xPU p X i
   have hS2:=hS.up hu
   have hx2:=hx.up hu
   generalize pastX p X e (l.take k)=ee at *
   have nA:¬ S.next=S2.next:=by omega
   have nB:¬ S.next + 1=S2.next:=by omega
   have npq:¬ ps=S2.next:=by have:=hS2.lt;omega
   have nmq:¬ qm=S2.next:=by have:=hS2.lm;omega
   have noq:¬ o=S2.next:=by have:=hx2.lt;omega
   simp [f13,f14,hlt]
   simp [f12,f14,hv.idx hi]
   by_cases h7:i.kind=7
   ·obtain ⟨hf0,hfl⟩:=hc i (xmG hi) h7
    obtain ⟨m,hm⟩:∃ m:Nat,i.f=(m:Int):=⟨i.f.toNat,by omega⟩
    have hml:m < p.funs.length:=by omega
    have hhas:p.has (.ans m):=hml
    have hfp:=xBZ hhas
    obtain ⟨hg1,hg2⟩:=hx2.get hhas
    have ha:ansX p X i=(X.getD (p.at' (.ans m)) none).get 0:=by unfold ansX;rw [if_pos h7,hm];rfl
    have hxo:=hx2.ok (p.at' (.ans m))
    generalize X.getD (p.at' (.ans m)) none=ea at *
    simp [h7]
    refine Dra.auto [] mix ?_ ?_
    ·kernel_rfl
    simp [classes,f0,f3,hm,hS2.box,hS2.map,npq,nmq,noq,xDY,-KK.fits,xCR,hfp,xAd hg2,hx2.obj,hg1]
    refine (xAC ea 0 hxo).b (n:=9) (by simp) (by simp [solids,AV.solid]) ?_
    simp [f5,s5,nA]
    refine (xDw ee i (ans:=SEnv.get ea 0) hok (SEnv.get_ok _ _)).use (n:=9) (by simp [mapOpt,h7,hm]) (by simp [solids,AV.solid]) ?_
    simp [f0,f3,f5,f8,f12,f13,f14,e4,s5,nA]
    exact ⟨k + 1,by omega,by omega,by omega,⟨by simp;have:=hu.1;omega,fun q hq=>by simp [show ¬ q=S.next by omega,show ¬ q=S2.next by omega];exact hu.2 q hq⟩,by omega,by rw [hst,ha],by simp [nB,s8]⟩
   ·have ha:ansX p X i=0:=by unfold ansX;rw [if_neg h7]
    simp [h7,f5,s5,nA]
    refine (xDw ee i (ans:=0) hok xAv).use (n:=9) (by simp [mapOpt]) (by simp [solids,AV.solid]) ?_
    simp [f0,f3,f5,f8,f12,f13,f14,e4,s5,nA]
    exact ⟨k + 1,by omega,by omega,by omega,⟨by simp;have:=hu.1;omega,fun q hq=>by simp [show ¬ q=S.next by omega,show ¬ q=S2.next by omega];exact hu.2 q hq⟩,by omega,by rw [hst,ha],by simp [nB,s8]⟩
  ·have:k=l.length:=by omega
   subst this
   rw [List.take_length] at s5
   simp [f13,f14,f5,f8,s5,s8]
   refine ⟨_,Up.grow (hu.put (by omega) _) (k:=2 + l.length) (by simp;omega),hk⟩
 ·simp [pastX]
  exact ⟨by simp;omega,fun q hq=>by simp [show ¬ q=S.next by omega,show ¬ q=S.next + 1 by omega]⟩
end Go.Proofs.YtnhfofmhkfdpgaaGreatDoor.Vm
