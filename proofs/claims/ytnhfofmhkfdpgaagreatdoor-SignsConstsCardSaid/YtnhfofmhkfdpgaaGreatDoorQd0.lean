/- A part of the proof: Rv Ro Rq Sd Rt Dc Ct Cu Cy Dd. -/
import Derived.KernelRfl
import Derived.Test.YtnhfofmhkfdpgaaGreatDoorQ39
set_option linter.unusedVariables false
set_option linter.unusedSimpArgs false
set_option linter.constructorNameAsVariable false
namespace Go.Proofs.YtnhfofmhkfdpgaaGreatDoor.Vm
open Go Go.RowKit
variable {N:Nat} {g:Glob}
def Fun.Way (f:Fun) (b:Nat):Prop:=Rch (cleanG (cleanG f.gout)) 0 b
theorem xQ3 (f:Fun):(cleanG f.gout).length=f.blks.length:=by simp [cleanG,Fun.gout]
theorem xO5 {f:Fun} {a:Nat} {x:Blk} (hx:f.blks[a]?=some x):(cleanG (cleanG f.gout))[a]?=some (cleanL (cleanG f.gout).length (cleanL f.gout.length x.gout)):=by
 have h1:f.gout[a]?=some x.gout:=by unfold Fun.gout;rw [List.getElem?_map,hx];rfl
 have h2:(cleanG f.gout)[a]?=some (cleanL f.gout.length x.gout):=by unfold cleanG;rw [List.getElem?_map,h1];rfl
 generalize cleanG f.gout=C at h2 ⊢
 unfold cleanG;rw [List.getElem?_map,h2];rfl
theorem xL0 {f:Fun} {b:Nat} {x:Blk}:(b:Int) ∈ cleanL (cleanG f.gout).length (cleanL f.gout.length x.gout) ↔ (b:Int) ∈ x.gout/\b < f.blks.length:=by
 have h:f.gout.length=f.blks.length:=by simp [Fun.gout]
 rw [xAq,xAq,xQ3,h]
 constructor
 ·rintro ⟨⟨h1,_,h2⟩,_⟩;exact ⟨h1,by omega⟩
 ·rintro ⟨h1,h2⟩;exact ⟨⟨h1,by omega,by omega⟩,by omega,by omega⟩
theorem xEp {f:Fun} {a b:Nat} {l:List Int} (hl:(cleanG (cleanG f.gout))[a]?=some l) (hb:(b:Int) ∈ l):∃ x,f.blks[a]?=some x/\(b:Int) ∈ x.out/\b < f.blks.length:=by
 cases hx:f.blks[a]? with
 | none =>
  have h1:a < (cleanG (cleanG f.gout)).length:=(xgS hl).1
  have h2:(cleanG (cleanG f.gout)).length=f.blks.length:=by simp [cleanG,Fun.gout]
  rw [List.getElem?_eq_none_iff] at hx
  omega
 | some x =>
  rw [xO5 hx] at hl
  cases hl
  obtain ⟨h1,h2⟩:=xL0.1 hb
  refine ⟨x,rfl,?_,h2⟩
  unfold Blk.gout at h1
  split at h1
  ·exact h1
  ·cases h1
theorem xJO {f:Fun} {a b:Nat} {x:Blk} (hx:f.blks[a]?=some x) (hon:x.on=true) (hb:(b:Int) ∈ x.out) (hbl:b < f.blks.length):∃ l,(cleanG (cleanG f.gout))[a]?=some l/\(b:Int) ∈ l :=
 ⟨_,xO5 hx,xL0.2 ⟨by unfold Blk.gout;rw [if_pos hon];exact hb,hbl⟩⟩
end Go.Proofs.YtnhfofmhkfdpgaaGreatDoor.Vm
namespace Go.Proofs.YtnhfofmhkfdpgaaGreatDoor.Vm
set_option maxRecDepth 100000
open Go Go.RowKit
variable {N:Nat} {g:Glob}
theorem xJS (n:Int):wrap32 n=(n + 2147483648) % 4294967296 - 2147483648:=by unfold wrap32;rw [IntKind.wrap_i32]
theorem xEq {n:Int} (h:-2147483648<=n/\n<=2147483647):wrap32 n=n:=by rw [xJS];omega
def stepV (l:List Int) (x:Ins) (w:Int):Int :=
 if x.kind=0 then x.c else if x.kind=1 then l.getD x.a.toNat 0 else if x.kind=2 then wrap32 (IntKind.i64.wrap (0 - l.getD x.a.toNat 0)) else if x.kind=3 then wrap32 (i64add (l.getD x.a.toNat 0) (l.getD x.b.toNat 0)) else
 if x.kind=4 then wrap32 (i64sub (l.getD x.a.toNat 0) (l.getD x.b.toNat 0)) else if x.kind=5 then wrap32 (i64mul (l.getD x.a.toNat 0) (l.getD x.b.toNat 0)) else wrap32 w
def stepL (l:List Int) (x:Ins) (w:Int):List Int:=if x.def < 0 then l else l.set x.def.toNat (stepV l x w)
end Go.Proofs.YtnhfofmhkfdpgaaGreatDoor.Vm
namespace Go.Proofs.YtnhfofmhkfdpgaaGreatDoor.Vm
open Go Go.RowKit
variable {N:Nat} {g:Glob}
def Tells (n:Nat) (l:List Int) (e:Env):Prop:=l.length=n/\∃ m,e=some m/\m.length=n/\okL m/\∀(k:Nat) u v,l[k]?=some u->m[k]?=some v->(-2147483648<=u/\u<=2147483647)/\(⟨1,u⟩:Val).le v
theorem Tells.le {n:Nat} {l:List Int} {e e':Env} (h:Tells n l e) (he:e'.fit n) (hle:e.le e'):Tells n l e':=by
 obtain ⟨h1,m,rfl,h2,h3,h4⟩:=h
 obtain ⟨m',rfl,h5⟩:=hle m rfl
 obtain ⟨g1,g2⟩:=he m' rfl
 refine ⟨h1,m',rfl,g1,g2,fun k u v hu hv=>?_⟩
 have hk:=(xgS hu).1
 obtain ⟨z,hz⟩:∃ z,m[k]?=some z:=⟨_,xgG (by omega)⟩
 obtain ⟨q1,q2⟩:=h4 k u z hu hz
 exact ⟨q1,Val.le_trans (h3 z (xmG hz)) q2 (h5 k z v hz hv)⟩
theorem one_ok {u:Int} (h:-2147483648<=u/\u<=2147483647):(⟨1,u⟩:Val).ok=true:=by simp [Val.ok,h]
theorem Tells.leq {n:Nat} {l:List Int} {e:Env} (h:Tells n l e) (k:Nat) (u:Int) (hu:l[k]?=some u):(⟨1,wrap32 u⟩:Val).leq (e.get k)=true:=by
 obtain ⟨h1,m,rfl,h2,h3,h4⟩:=h
 have hk:=(xgS hu).1
 obtain ⟨z,hz⟩:∃ z,m[k]?=some z:=⟨_,xgG (by omega)⟩
 obtain ⟨q1,q2⟩:=h4 k u z hu hz
 have:Env.get (some m) k=z:=xCp h3 hz
 rw [this,xEq q1,Val.leq_iff (one_ok q1) (h3 z (xmG hz))]
 exact q2
theorem Tells.isSome {n:Nat} {l:List Int} {e:Env} (h:Tells n l e):e.isSome=true:=by
 obtain ⟨_,m,rfl,_⟩:=h;rfl
theorem Tells.get {n:Nat} {l:List Int} {e:Env} (h:Tells n l e) {a:Int} (ha:0<=a/\a < n):∃ u,l.getD a.toNat 0=u/\(-2147483648<=u/\u<=2147483647)/\(⟨1,u⟩:Val).le (e.get a)/\(e.get a).ok=true:=by
 obtain ⟨h1,m,rfl,h2,h3,h4⟩:=h
 obtain ⟨k,rfl⟩:∃ k:Nat,a=(k:Int):=⟨a.toNat,by omega⟩
 obtain ⟨u,hu⟩:∃ z,l[k]?=some z:=⟨_,xgG (by omega)⟩
 obtain ⟨z,hz⟩:∃ z,m[k]?=some z:=⟨_,xgG (by omega)⟩
 obtain ⟨q1,q2⟩:=h4 k u z hu hz
 refine ⟨u,by simp [List.getD_eq_getElem?_getD,hu],q1,?_,Env.get_ok _ _⟩
 have:Env.get (some m) k=z:=xCp h3 hz
 rw [this];exact q2
theorem xGB {u:Int} {v:Val} (hv:v.ok=true) (h:(⟨1,u⟩:Val).le v):v=⟨2,0⟩ \/ v=⟨1,u⟩:=by
 rcases h with h | h | h
 ·cases h
 ·exact .inl (Val.ok_top hv h)
 ·exact .inr h.symm
theorem xDs {op:Int->Int->Int} {u v:Int} {a b:Val} (hu:-2147483648<=u/\u<=2147483647) (hv:-2147483648<=v/\v<=2147483647) (ha:a.ok=true) (hb:b.ok=true) (h1:(⟨1,u⟩:Val).le a) (h2:(⟨1,v⟩:Val).le b):(⟨1,wrap32 (op u v)⟩:Val).le (a.each op b):=by
 rw [Val.each_of ha hb]
 rcases xGB ha h1 with rfl | rfl <;> rcases xGB hb h2 with rfl | rfl <;> simp
 all_goals first | exact .inr (.inl rfl) | exact Val.le_refl _
theorem Tells.step {n:Nat} {l:List Int} {e:Env} (h:Tells n l e) {x:Ins} {w:Int} (hc:-2147483648<=x.c/\x.c<=2147483647) (hd:x.def < 0 \/ (0<=x.def/\x.def < n/\0<=x.a/\x.a < n/\0<=x.b/\x.b < n)):Tells n (stepL l x w) (x.flat e):=by
 have hfit:e.fit n:=by
  obtain ⟨_,m,rfl,h2,h3,_⟩:=h
  exact Env.fit_some h2 h3
 rcases hd with hd | ⟨hd0,hdl,ha0,hal,hb0,hbl⟩
 ·rw [xPe hfit hd]
  unfold stepL
  rw [if_pos hd];exact h
 ·have hval:(-2147483648<=stepV l x w/\stepV l x w<=2147483647)/\(⟨1,stepV l x w⟩:Val).le (x.number e):=by
   obtain ⟨ua,ga,ra,la,oa⟩:=h.get ⟨ha0,hal⟩
   obtain ⟨ub,gb,rb,lb,ob⟩:=h.get ⟨hb0,hbl⟩
   unfold stepV Ins.number
   rw [ga,gb]
   by_cases k0:x.kind=0
   ·simp only [k0,if_true]
    exact ⟨hc,by rw [xEq hc];exact Val.le_refl _⟩
   by_cases k1:x.kind=1
   ·simp only [k0,k1,if_true,if_false]
    exact ⟨ra,la⟩
   by_cases k2:x.kind=2
   ·simp only [k0,k1,k2,if_true,if_false]
    refine ⟨xBJ _,?_⟩
    have z:wrap32 0=0:=rfl
    rw [z]
    exact xDs (op:=i64sub) (u:=0) (by omega) ra rfl oa (Val.le_refl _) la
   by_cases k3:x.kind=3
   ·simp only [k0,k1,k2,k3,if_true,if_false]
    exact ⟨xBJ _,xDs ra rb oa ob la lb⟩
   by_cases k4:x.kind=4
   ·simp only [k0,k1,k2,k3,k4,if_true,if_false]
    exact ⟨xBJ _,xDs ra rb oa ob la lb⟩
   by_cases k5:x.kind=5
   ·simp only [k0,k1,k2,k3,k4,k5,if_true,if_false]
    exact ⟨xBJ _,xDs ra rb oa ob la lb⟩
   simp only [k0,k1,k2,k3,k4,k5,if_false]
   exact ⟨xBJ _,.inr (.inl rfl)⟩
  obtain ⟨h1,m,rfl,h2,h3,h4⟩:=h
  have hnum:=x.number_ok (some m)
  unfold Ins.flat
  rw [Env.set_of hfit _ hnum,if_pos ⟨hd0,hdl⟩]
  unfold stepL
  rw [if_neg (by omega)]
  refine ⟨by simp [h1],_,rfl,by simp [h2],fun v hv=>?_,fun k u v hu hv=>?_⟩
  ·rcases List.mem_or_eq_of_mem_set hv with hv | rfl
   ·exact h3 v hv
   ·exact hnum
  ·by_cases hk:k=x.def.toNat
   ·subst hk
    rw [List.getElem?_set_self (by omega)] at hu hv
    cases hu;cases hv
    exact hval
   ·rw [List.getElem?_set_ne (Ne.symm hk)] at hu hv
    exact h4 k u v hu hv
theorem xPn {n:Nat} {h:Int->Env} (hh:∀j,(h j).fit n) (m:List Int):∀{e:Env},e.fit n->e.le (m.foldl (fun e j=>e.join (h j)) e)/\∀j ∈ m,(h j).le (m.foldl (fun e j=>e.join (h j)) e):=by
 induction m with
 | nil=>intro e he;exact ⟨Env.le_refl e,fun j hj=>by cases hj⟩
 | cons j m ih =>
  intro e he
  have hj:=Env.join_fit he (hh j)
  obtain ⟨h1,h2⟩:=ih hj
  have hf:=xLZ hh m hj
  refine ⟨Env.le_trans hj hf (Env.le_join_l he (hh j)) h1 he,fun k hk=>?_⟩
  rcases List.mem_cons.1 hk with rfl | hk
  ·exact Env.le_trans hj hf (Env.le_join_r he (hh k)) h1 (hh k)
  ·exact h2 k hk
theorem xPo {f:Fun} {b j:Nat} {B:Blk} (hB:f.blks[b]?=some B) (hj:(j:Int) ∈ B.out) (hjl:j < f.blks.length):(f.cat b B.ins.length).le (f.cin.getD j Option.none):=by
 rw [xLa hjl,xLb hB]
 have hm:(b:Int) ∈ f.preds j:=Fun.preds_mem.2 ⟨b,B,rfl,hB,hj⟩
 have:=(xPn (n:=f.wid) (h:=fun j=>pastL (f.cin.getD j.toNat Option.none) (f.code j.toNat)) (fun j=>xBN (f.cin_fit _)) (f.preds j) (f.cev_first j)).2 _ hm
 exact this
theorem xL2 {f:Fun} (h:0 < f.blks.length):f.start.le (f.cin.getD 0 Option.none):=by
 rw [xLa h]
 have:=(xPn (n:=f.wid) (h:=fun j=>pastL (f.cin.getD j.toNat Option.none) (f.code j.toNat)) (fun j=>xBN (f.cin_fit _)) (f.preds (0:Nat)) (f.cev_first 0)).1
 exact this
theorem xL3 {v:Int}:∀(l out:List Int),v ∈ out \/ v ∈ l->v ∈ l.foldl addOnce out
 | [],out,h=>by simpa using h
 | x :: l,out,h=>by
  refine xL3 l (addOnce out x) ?_
  rcases h with h | h
  ·left;unfold addOnce;split
   ·exact h
   ·exact List.mem_append_left _ h
  ·rcases List.mem_cons.1 h with rfl | h
   ·left;unfold addOnce;split
    ·assumption
    ·simp
   ·exact .inr h
theorem xPp {p:Prg} {f:Fun} {x:Ins} (hok:FunOK p f) (h:p.insOK f x=true):(-2147483648<=x.c/\x.c<=2147483647)/\(x.def < 0 \/ (0<=x.def/\x.def < (f.wid:Int)/\0<=x.a/\x.a < (f.wid:Int)/\0<=x.b/\x.b < (f.wid:Int))):=by
 obtain ⟨hu,hd⟩:=xIu h
 have h':=h
 simp only [Prg.insOK,Bool.and_eq_true] at h'
 have hox:=h'.1.1
 have hp:x.okP:=by simpa [Ins.ok] using hox
 obtain ⟨_,_,_,_,_,hc1,hc2,_,ha,hb,_,_,_,_,hbare⟩:=hp
 refine ⟨⟨hc1,hc2⟩,?_⟩
 rw [hok.wid]
 rcases hd with hd | ⟨hd0,hdl⟩
 ·left;omega
 ·right
  have all:∀v ∈ x.all,v < f.vars:=fun v hv=>(hu v (by unfold Ins.uses;rw [if_pos hox];exact xL3 _ _ (.inr hv))).2
  have ha':x.a < f.vars:=by
   cases hk:khas x.kind 97
   ·have:x.bare.a=0:=by rw [hbare];rfl
    simp [Ins.bare,hk] at this
    omega
   ·exact all _ (by unfold Ins.all;rw [hk];simp)
  have hb':x.b < f.vars:=by
   cases hk:khas x.kind 98
   ·have:x.bare.b=0:=by rw [hbare];rfl
    simp [Ins.bare,hk] at this
    omega
   ·exact all _ (by unfold Ins.all;rw [hk];simp)
  exact ⟨hd0,hdl,ha,ha',hb,hb'⟩
def IV (S:St) (v:AV) (l:List Int):Prop:=FSl intc 1 v l \/ (Has intc 1 S v l/\Bel S v)
theorem IV.pict {S:St} {v:AV} {l:List Int} (h:IV S v l):∃ w,FSl intc 1 w l/\∀n,Vm.pict S [] (n + 2) v=some w:=by
 rcases h with h | ⟨h,_⟩
 ·exact ⟨v,h,fun n=>xAc h.stab⟩
 ·exact ⟨_,xAl,fun n=>h.pict⟩
theorem IV.keep {S S':St} {v:AV} {l:List Int} (h:IV S v l) (hn:S.next<=S'.next) (hk:∀q,q < S.next->S'.obj q=S.obj q):IV S' v l:=by
 rcases h with h | ⟨h,hb⟩
 ·exact .inl h
 ·exact .inr ⟨h.keep fun q ⟨len,hq⟩=>hk q (hb _ _ _ hq),hb.mono hn⟩
def beginL (par:Int) (w:List Int) (n:Nat):List Int:=(List.range n).map fun v:Nat=>if (v:Int) < par/\v < w.length then wrap32 (w.getD v 0) else 0
theorem xGC (f:Fun) (w:List Int):Tells f.wid (beginL f.par w f.wid) f.start:=by
 refine ⟨by simp [beginL],startL f.par f.vars,rfl,xES _ _,xJL _ _,fun k u v hu hv=>?_⟩
 have hk:k < f.wid:=by have:=(xgS hu).1;simpa [beginL] using this
 have hv':v=if (k:Int) < f.par then ⟨2,0⟩ else ⟨1,0⟩:=by
  simp [startL,show k < capN f.vars from hk] at hv
  exact hv.symm
 have hu':u=if (k:Int) < f.par/\k < w.length then wrap32 (w.getD k 0) else 0:=by
  simp [beginL,hk] at hu
  rw [<- hu];simp
 by_cases hp:(k:Int) < f.par
 ·rw [if_pos hp] at hv'
  subst hv'
  refine ⟨?_,.inr (.inl rfl)⟩
  rw [hu']
  split
  ·exact xBJ _
  ·omega
 ·rw [if_neg hp] at hv'
  rw [if_neg fun h=>hp h.1] at hu'
  subst hv';subst hu'
  exact ⟨by omega,Val.le_refl _⟩
theorem xEY {p:Prg} {f:Fun} (hok:FunOK p f):∀(c:List Ins) {l:List Int} {e:Env},(∀x ∈ c,p.insOK f x=true)->Tells f.wid l e->∃ l',Tells f.wid l' (pastL e c)
 | [],l,e,_,h=>⟨l,h⟩
 | x :: c,l,e,hc,h=>by
  obtain ⟨h1,h2⟩:=xPp hok (hc x (by simp))
  exact xEY hok c (fun y hy=>hc y (by simp [hy])) (h.step (w:=0) h1 h2)
theorem xJV {p:Prg} {f:Fun} (hok:FunOK p f) {b:Nat} (h:f.Way b):∃ l,Tells f.wid l (f.cin.getD b Option.none):=by
 unfold Fun.Way at h
 induction h with
 | base=>exact ⟨_,(xGC f []).le (f.cin_fit 0) (xL2 hok.len.1)⟩
 | step _ hl hb ih =>
  obtain ⟨l,hl'⟩:=ih
  obtain ⟨x,hx,hbx,hbl⟩:=xEp hl hb
  obtain ⟨l',h'⟩:=xEY hok x.ins (hok.blk (xmG hx)).2.2.2.2 hl'
  refine ⟨l',h'.le (f.cin_fit _) ?_⟩
  have:=xPo hx hbx hbl
  rw [xLb hx,xDe hx] at this
  exact this
theorem xJW:∀l:List Ins,pastL Option.none l=Option.none
 | []=>rfl
 | x :: l=>by
  show pastL (x.flat Option.none) l=Option.none
  rw [show x.flat Option.none=Option.none from rfl]
  exact xJW l
theorem xJX:∀m:List Int,m.foldl (fun (e:Env) (_:Int)=>e.join Option.none) (Option.none:Env)=Option.none
 | []=>rfl
 | _ :: m=>by
  rw [List.foldl_cons]
  exact xJX m
noncomputable def Fun.onY (f:Fun):List Env:=open Classical in (List.range f.blks.length).map fun i=>if f.Way i then f.cin.getD i Option.none else Option.none
theorem Fun.onY_at {f:Fun} {i:Nat} (h:i < f.blks.length):(open Classical in f.onY.getD i Option.none=if f.Way i then f.cin.getD i Option.none else Option.none):=by
 rw [List.getD_eq_getElem?_getD,Fun.onY,List.getElem?_map,List.getElem?_range h]
 rfl
theorem xIB {p:Prg} {f:Fun} (hok:FunOK p f) {b:Nat} (hb:b < f.blks.length) (h:¬ f.Way b):f.cin.getD b Option.none=Option.none:=by
 have hl:f.onY.length=f.blks.length:=by simp [Fun.onY]
 have hfit:∀e ∈ f.onY,Env.fit f.wid e:=fun e he=>by
  unfold Fun.onY at he
  obtain ⟨i,_,rfl⟩:=List.mem_map.1 he
  split
  ·exact f.cin_fit i
  ·exact Env.fit_none _
 have hle:∀(k:Nat) a b,f.onY[k]?=some a->f.cin[k]?=some b->Env.le a b:=fun k a b ha hb=>by
  have hk:k < f.blks.length:=by rw [<- hl];exact (xgS ha).1
  have h1:=Fun.onY_at hk
  rw [List.getD_eq_getElem?_getD,ha,List.getD_eq_getElem?_getD,hb] at h1
  simp only [Option.getD_some] at h1
  rw [h1]
  split
  ·exact Env.le_refl _
  ·exact Env.le_none _
 have post:f.csys.Post f.onY:=by
  refine ⟨⟨hl,hfit⟩,fun i a ha=>?_⟩
  have hi:i < f.blks.length:=by rw [<- hl];exact (xgS ha).1
  have h1:=Fun.onY_at hi
  rw [List.getD_eq_getElem?_getD,ha] at h1
  simp only [Option.getD_some] at h1
  rw [h1]
  by_cases hw:f.Way i
  ·rw [if_pos hw]
   have:=f.csys.mono f.onY f.cin i hl f.cin_len hfit f.cin_least.fit.ok hle hi
   have e:f.csys.ev f.cin i=f.cin.getD i Option.none:=(xLa hi).symm
   rw [e] at this
   exact this
  ·rw [if_neg hw]
   have e:f.csys.ev f.onY i=Option.none:=by
    show f.cev f.onY i=Option.none
    unfold Fun.cev Fun.cevTo
    have hi0:¬ i=0:=fun e=>hw (e ▸ Rch.base)
    rw [if_neg hi0,xGz (h':=fun _=>Option.none) _ _ fun j hj=>?_]
    ·exact xJX _
    ·obtain ⟨k,x,rfl,hx,hxi⟩:=Fun.preds_mem.1 hj
     have hk:k < f.blks.length:=(xgS hx).1
     have hon:x.on=true:=by
      cases hon:x.on
      ·have:=((hok.blk (xmG hx)).1 hon).2
       rw [this] at hxi;cases hxi
      ·rfl
     have hnk:¬ f.Way k:=fun hk'=>by
      obtain ⟨l,hl1,hl2⟩:=xJO hx hon hxi hi
      exact hw (Rch.step hk' hl1 hl2)
     rw [Int.toNat_natCast,Fun.onY_at hk,if_neg hnk]
     exact xJW _
   rw [e]
   exact Env.le_none _
 have hcl:b < f.cin.length:=by rw [f.cin_len];exact hb
 have h2:=f.cin_least.low f.onY post b f.cin[b] (f.onY[b]'(by omega)) (xgG _) (xgG _)
 have h1:=Fun.onY_at hb
 rw [if_neg h,List.getD_eq_getElem?_getD,xgG (by omega)] at h1
 simp only [Option.getD_some] at h1
 rw [h1] at h2
 rw [List.getD_eq_getElem?_getD,xgG hcl]
 show f.cin[b]=Option.none
 cases hc:f.cin[b] with
 | none=>rfl
 | some l =>
  rw [hc] at h2
  obtain ⟨m,hm,_⟩:=h2 l rfl
  cases hm
end Go.Proofs.YtnhfofmhkfdpgaaGreatDoor.Vm
namespace Go.Proofs.YtnhfofmhkfdpgaaGreatDoor.Vm
set_option maxRecDepth 100000
open Go Go.RowKit
variable {N:Nat} {g:Glob}
instance:PlainE insc:=⟨fun x=>by simp [insc,AV.stab]⟩
theorem xP3 {α:Type} {e:α->List AV} {sz:Nat} {S:St} {v:AV} {l m:List α} {K:AV × St->Prop} (h:Has e sz S v l) (hb:Bel S v) (hok:okAll sz (els e m)) (hr:l.length + m.length<=room)
  (hk:∀v' S',Has e sz S' v' (l ++ m)->Bel S' v'->S.next<=S'.next->(∀q,q < S.next->(∀c,v ≠ .sl sz q 0 c)->S'.obj q=S.obj q)->(v'=v \/ ∀q c,v'=.sl sz q 0 c->S.next<=q)->K (v',S')):Ok (appV sz v S (els e m)) K:=by
 by_cases hm:m=[]
 ·subst hm
  have hl:(lenV v).isSome=true:=by rw [h.len];rfl
  have:appV sz v S (els e ([]:List α))=some (v,S):=by
   unfold appV
   rw [if_pos (by simp [els]),if_pos hl]
  rw [this,ok_some]
  exact hk v S (by rw [List.append_nil];exact h) hb (Nat.le_refl _) (fun _ _ _=>rfl) (.inl rfl)
 ·have h0:¬ (els e m).length=0:=by rw [xBf];simpa using hm
  have h1:¬ ((els e m).length > room \/ ¬ okAll sz (els e m)):=by
   rw [xBf]
   rintro (h | h)
   ·omega
   ·exact h hok
  rcases h with ⟨rfl,rfl⟩ | ⟨o,rfl,ho,hne⟩
  ·rw [xFG,if_neg h0,if_neg h1,ok_some]
   refine hk _ _ (.inr ⟨S.next,by simp,?_,by simpa using hm⟩) (Bel.sl (by simp)) (by simp) (fun q hq _=>xA5 (by omega)) (.inr fun q c e=>by cases e;exact Nat.le_refl _)
   rw [xCg];simp
  ·rw [xH8,if_neg h0,if_neg h1,ho,xGd,Option.bind_some,if_pos ⟨rfl,rfl,by simp,by simpa using hr⟩,ok_some]
   refine hk _ _ (.inr ⟨S.next,by simp,?_,by simp [hm]⟩) (Bel.sl (by simp)) (by simp) (fun q hq hv=>?_) (.inr fun q c e=>by cases e;exact Nat.le_refl _)
   ·have:(S.drop o).next=S.next:=rfl
    rw [<- this,xCg];simp [xAu,xA2]
   ·rw [xA5 (by show q ≠ S.next;omega)]
    simp only [xH7]
    rw [if_neg (by rintro rfl;exact hv _ rfl)]
theorem xP4 (m:List Ins):okAll 11 (els insc m):=by
 unfold okAll
 simp only [els,List.all_map,List.all_eq_true,Function.comp]
 intro x _;rfl
def Fun.insQ (f:Fun) (j:Nat):List Ins:=((f.blks.map Blk.ins).take j).flatten
def Fun.insA (f:Fun):List Ins:=(f.blks.map Blk.ins).flatten
def Prg.insQ (p:Prg) (i:Nat):List Ins:=((p.funs.map Fun.insA).take i).flatten
def Prg.insA (p:Prg):List Ins:=(p.funs.map Fun.insA).flatten
theorem Fun.insQ_succ {f:Fun} {j:Nat} {b:Blk} (h:f.blks[j]?=some b):f.insQ (j + 1)=f.insQ j ++ b.ins:=by
 have h':(f.blks.map Blk.ins)[j]?=some b.ins:=by rw [List.getElem?_map,h];rfl
 unfold Fun.insQ
 rw [xAe h'];simp
theorem Prg.insQ_succ {p:Prg} {j:Nat} {f:Fun} (h:p.funs[j]?=some f):p.insQ (j + 1)=p.insQ j ++ f.insA:=by
 have h':(p.funs.map Fun.insA)[j]?=some f.insA:=by rw [List.getElem?_map,h];rfl
 unfold Prg.insQ
 rw [xAe h'];simp
theorem Fun.insQ_all (f:Fun):f.insQ f.blks.length=f.insA:=by
 unfold Fun.insQ;rw [List.take_of_length_le (by simp)];rfl
theorem Prg.insQ_all (p:Prg):p.insQ p.funs.length=p.insA:=by
 unfold Prg.insQ;rw [List.take_of_length_le (by simp)];rfl
theorem xKn {l:List (List Ins)} (k:Nat):(l.take k).flatten.Sublist l.flatten:=by
 have h:l.flatten=(l.take k).flatten ++ (l.drop k).flatten:=by rw [<- List.flatten_append,List.take_append_drop]
 rw [h];exact List.sublist_append_left _ _
theorem xRF {p:Prg} {f:Fun} {b:Blk} {k j:Nat} (hf:p.funs[k]?=some f) (hb:f.blks[j]?=some b):(p.insQ k).length + (f.insQ j).length + b.ins.length<=p.insA.length:=by
 have h1:(f.insQ (j + 1)).Sublist f.insA:=xKn (j + 1)
 have h2:(p.insQ (k + 1)).Sublist p.insA:=xKn (k + 1)
 rw [Fun.insQ_succ hb] at h1
 rw [Prg.insQ_succ hf] at h2
 have h3:=h1.length_le
 have h4:=h2.length_le
 simp only [List.length_append] at h3 h4
 omega
theorem xKo (p:Prg) (hl:p.insA.length < 2 ^ 30) (hf:p.funs.length < 2 ^ 30) (hb:∀f ∈ p.funs,f.blks.length < 2 ^ 30):OwnL P (gl N) insc 11 57 [encP p] p.insA:=by
 refine OwnL.in (cF0 (by kernel_rfl)) (nF (by kernel_rfl)) (vO ?_)
 conv=>arg 3;reduce
 simp
 refine W.whileI (fun (i:Nat) F S=>i<=p.funs.length/\F 1=.ptr 0 0 0/\F 4=.int .i64 i/\S.obj 0=some (.row 1 [[p.funsV]])/\0 < S.next/\Has insc 11 S (F 3) (p.insQ i)/\Bel S (F 3)/\∀q c,F 3=.sl 11 q 0 c->0 < q) (fun i=>p.funs.length - i) ?_ 0 _ _ ?_
 ·rintro i F S ⟨hi,f1,f4,s0,hn,h3,b3,y3⟩
  simp [f1,f4,s0,p.funsS.len]
  by_cases hlt:i < p.funs.length
  ·have e4:=wrapS i (by omega)
   obtain ⟨f,hfi⟩:∃ f,p.funs[i]?=some f:=⟨_,xgG hlt⟩
   have hbl:=hb f (xmG hfi)
   simp [hlt]
   refine W.whileI (fun (j:Nat) F S=>j<=f.blks.length/\F 1=.ptr 0 0 0/\F 4=.int .i64 i/\F 5=.int .i64 j/\S.obj 0=some (.row 1 [[p.funsV]])/\0 < S.next/\Has insc 11 S (F 3) (p.insQ i ++ f.insQ j)/\Bel S (F 3)/\∀q c,F 3=.sl 11 q 0 c->0 < q) (fun j=>f.blks.length - j) ?_ 0 _ _ ?_
   ·clear f1 f4 s0 hn h3 b3 y3
    rintro j F S ⟨hj,f1,f4,f5,s0,hn,h3,b3,y3⟩
    simp [f1,f4,f5,s0,p.funsS.idx hfi,f.blksS.len]
    by_cases hltj:j < f.blks.length
    ·have e5:=wrapS j (by omega)
     obtain ⟨b,hbj⟩:∃ b,f.blks[j]?=some b:=⟨_,xgG hltj⟩
     have hpt:=xRF hfi hbj
     simp [hltj,f1,f4,f5,s0,p.funsS.idx hfi,f.blksS.idx hbj,b.insS.elems]
     refine xP3 h3 b3 (xP4 b.ins) (by simp [room];omega) fun v' S' a1 a2 a3 a4 a5=>?_
     simp [f1,f4,f5,e5]
     refine ⟨j + 1,by omega,by omega,by omega,by rw [a4 0 hn fun c e=>absurd (y3 0 c e) (by omega)];exact s0,by omega,by rw [Fun.insQ_succ hbj,<- List.append_assoc];exact a1,a2,fun q c e=>?_⟩
     rcases a5 with a5 | a5
     ·rw [a5] at e;exact y3 q c e
     ·have:=a5 q c e;omega
    ·have:j=f.blks.length:=by omega
     subst this
     simp [f1,f4,e4]
     exact ⟨i + 1,by omega,by omega,by omega,s0,hn,by rw [Prg.insQ_succ hfi,<- f.insQ_all];exact h3,b3,y3⟩
   ·simp [f1,f4]
    exact ⟨s0,hn,by simpa [Fun.insQ] using h3,b3,y3⟩
  ·have:i=p.funs.length:=by omega
   subst this
   rw [p.insQ_all] at h3
   simp
   exact h3
 ·simp [Prg.insQ]
  exact ⟨Has.nil,Bel.nil⟩
theorem xRG {p:Prg} {x:Ins}:x ∈ p.insA ↔ ∃ f ∈ p.funs,∃ b ∈ f.blks,x ∈ b.ins:=by
 unfold Prg.insA Fun.insA
 simp only [List.mem_flatten,List.mem_map]
 constructor
 ·rintro ⟨l,⟨f,hf,rfl⟩,h⟩
  rw [List.mem_flatten] at h
  obtain ⟨m,hm,hx⟩:=h
  obtain ⟨b,hb,rfl⟩:=List.mem_map.1 hm
  exact ⟨f,hf,b,hb,hx⟩
 ·rintro ⟨f,hf,b,hb,hx⟩
  exact ⟨_,⟨f,hf,rfl⟩,List.mem_flatten.2 ⟨_,List.mem_map.2 ⟨b,hb,rfl⟩,hx⟩⟩
theorem xP5 {p:Prg} (hs:p.sane=true):p.insA.length<=1152:=by
 have hz:∀{α β:Type} {g:α->List β} {m:Nat} (l:List α),(∀a ∈ l,(g a).length<=m)->(l.map g).flatten.length<=l.length * m:=by
  intro α β g m l
  induction l with
  | nil=>intro _;simp
  | cons a l ih =>
   intro h
   have h1:=h a (by simp)
   have h2:=ih fun x hx=>h x (by simp [hx])
   simp only [List.map_cons,List.flatten_cons,List.length_append,List.length_cons,Nat.add_mul,Nat.one_mul]
   omega
 have h1:=hz (g:=Fun.insA) (m:=192) p.funs fun f hf=>by
  have hok:=sane_ok hs hf
  have h2:=hz (g:=Blk.ins) (m:=16) f.blks fun b hb=>(hok.blk hb).2.2.2.1
  have h3:=hok.len.2
  have h4:f.blks.length * 16<=12 * 16:=Nat.mul_le_mul_right _ h3
  unfold Fun.insA
  omega
 have h2:=(Prg.sane_iff.1 hs).1
 have h4:p.funs.length * 192<=6 * 192:=Nat.mul_le_mul_right _ h2
 unfold Prg.insA
 omega
def Prg.far (p:Prg):Bool:=p.insA.any fun i=>decide (2<=i.kind/\i.kind<=5)
theorem xWa {p:Prg} (h:∀i ∈ p.insA,¬ (2<=i.kind/\i.kind<=5)):p.far=false:=by
 unfold Prg.far;rw [List.any_eq_false];intro i hi;simpa using h i hi
theorem xP6 {p:Prg} {i:Ins} (hi:i ∈ p.insA) (h:2<=i.kind/\i.kind<=5):p.far=true:=List.any_eq_true.2 ⟨i,hi,by simpa using h⟩
theorem xTv {p:Prg} (h:p.far=false):∀i ∈ p.insA,¬ (2<=i.kind/\i.kind<=5):=fun i hi hk=>by rw [xP6 hi hk] at h;cases h
theorem xLn {p:Prg} (hs:p.sane=true):Ret P (gl N) false 31 [encP p] (.bool p.far):=by
 refine Ret.inF (by kernel_rfl) ?_
 have hl:=xP5 hs
 have hfl:=(Prg.sane_iff.1 hs).1
 conv=>arg 3;reduce
 simp
 refine (xKo p (by omega) (by omega) fun f hf=>by have:=(sane_ok hs hf).len.2;omega).ret.use (n:=9) (by simp [mapOpt,xAc p.funsS.stab]) (by simp [solids,AV.solid,p.funsS.solid]) ?_
 have hf:FSl insc 11 (encF insc 11 p.insA) p.insA:=xAl
 generalize encF insc 11 p.insA=v at *
 simp
 refine W.whileI (fun (k:Nat) F S=>k<=p.insA.length/\(∀i ∈ p.insA.take k,¬ (2<=i.kind/\i.kind<=5))/\F 3=v/\F 4=.int .i64 k) (fun k=>p.insA.length - k) ?_ 0 _ _ ?_
 ·rintro k F S ⟨hk,hno,f3,f4⟩
  simp [f3,f4,hf.len]
  by_cases hlt:k < p.insA.length
  ·obtain ⟨i,hi⟩:∃ i,p.insA[k]?=some i:=⟨_,xgG hlt⟩
   have e4:=wrapS k (by omega)
   simp [hlt,f3,f4,hf.idx hi]
   have hadd:¬ (2<=i.kind/\i.kind<=5)->∀z ∈ p.insA.take (k + 1),¬ (2<=z.kind/\z.kind<=5):=fun h z hz=>by
    rw [xAe hi] at hz
    rcases List.mem_append.1 hz with hz | hz
    ·exact hno z hz
    ·rw [List.mem_singleton] at hz;subst hz;exact h
   by_cases h2:2<=i.kind
   ·by_cases h5:i.kind<=5
    ·simp [h2,h5,f3,f4,hf.idx hi]
     rw [xP6 (xmG hi) ⟨h2,h5⟩]
     exact RK.stab rfl
    ·simp [h2,h5,f3,f4,hf.idx hi,e4]
     exact ⟨k + 1,by omega,by omega,fun z hz q=>by have:=hadd (fun h=>h5 h.2) z hz;omega,by omega⟩
   ·simp [h2,f3,f4,e4]
    exact ⟨k + 1,by omega,by omega,fun z hz q=>by have:=hadd (fun h=>h2 h.1) z hz;omega,by omega⟩
  ·have:k=p.insA.length:=by omega
   subst this
   rw [List.take_length] at hno
   simp
   rw [xWa hno]
   exact RK.stab rfl
 ·simp
def stepSV (l:List Int) (x:Ins) (w:Int):Int :=
 if x.kind=0 then wrap32 x.c else if x.kind=1 then l.getD x.a.toNat 0 else if x.kind=2 then IntKind.i64.wrap (-(l.getD x.a.toNat 0)) else if x.kind=3 then IntKind.i64.wrap (l.getD x.a.toNat 0 + l.getD x.b.toNat 0) else
 if x.kind=4 then IntKind.i64.wrap (l.getD x.a.toNat 0 - l.getD x.b.toNat 0) else if x.kind=5 then IntKind.i64.wrap (l.getD x.a.toNat 0 * l.getD x.b.toNat 0) else w
def stepSL (l:List Int) (x:Ins) (w:Int):List Int:=if x.def < 0 then l else l.set x.def.toNat (stepSV l x w)
def SgT (l:List Int) (e:SEnv):Prop:=e.isSome=true/\∀(k:Nat) u,l[k]?=some u->sgLe (sgOf u) (e.get k)
theorem SgT.le {l:List Int} {e e':SEnv} (h:SgT l e) (hle:e.le e'):SgT l e':=by
 obtain ⟨h1,h2⟩:=h
 refine ⟨?_,fun k u hu=>xAU (xAX _) (SEnv.get_ok _ _) (SEnv.get_ok _ _) (h2 k u hu) (SEnv.get_mono hle k)⟩
 cases e with
 | none=>cases h1
 | some m=>obtain ⟨m',hm',_⟩:=hle m rfl;rw [hm'];rfl
theorem SgT.getD {l:List Int} {e:SEnv} (h:SgT l e) {a:Int} (ha:0<=a/\a < l.length):sgLe (sgOf (l.getD a.toNat 0)) (e.get a):=by
 obtain ⟨k,rfl⟩:∃ k:Nat,a=(k:Int):=⟨a.toNat,by omega⟩
 obtain ⟨u,hu⟩:∃ u,l[k]?=some u:=⟨_,xgG (by omega)⟩
 have:=h.2 k u hu
 simpa [List.getD_eq_getElem?_getD,hu] using this
theorem xTw (u:Int):¬ sgLe (sgOf u) 0:=by
 rcases xBs u with ⟨_,e⟩ | ⟨_,e⟩ | ⟨_,e⟩ <;> rw [e] <;> decide +kernel
theorem xHN {l:List Int} (h:∀u ∈ l,-1073741824<=u/\u<=1073741824) (k:Nat):-1073741824<=l.getD k 0/\l.getD k 0<=1073741824:=by
 rw [List.getD_eq_getElem?_getD]
 cases hk:l[k]? with
 | none=>simp
 | some u=>exact h u (xmG hk)
theorem xEy {a b:Int} (ha:-1073741824<=a/\a<=1073741824) (hb:-1073741824<=b/\b<=1073741824):-1152921504606846976<=a * b/\a * b<=1152921504606846976:=by
 have h1:(a * b).natAbs<=1073741824 * 1073741824:=by
  rw [Int.natAbs_mul]
  exact Nat.mul_le_mul (by omega) (by omega)
 omega
theorem SgT.step {l:List Int} {e:SEnv} (h:SgT l e) {x:Ins} {w ans:Int} (hk7:x.kind ≠ 7) (hs:2<=x.kind/\x.kind<=5->∀u ∈ l,-1073741824<=u/\u<=1073741824) (hc:-2147483648<=x.c/\x.c<=2147483647) (hd:x.def < 0 \/ (0<=x.def/\x.def < l.length/\0<=x.a/\x.a < l.length/\0<=x.b/\x.b < l.length)):SgT (stepSL l x w) (x.sign e ans):=by
 refine ⟨by rw [Ins.sign_on];exact h.1,?_⟩
 have hon:=h.1
 cases e with
 | none=>cases hon
 | some m =>
 intro k u hu
 unfold Ins.sign
 rw [SEnv.set_get]
 rcases hd with hd | ⟨hd0,hdl,ha0,hal,hb0,hbl⟩
 ·rw [if_neg (by omega)]
  unfold stepSL at hu
  rw [if_pos hd] at hu
  exact h.2 k u hu
 ·unfold stepSL at hu
  rw [if_neg (by omega)] at hu
  by_cases hkd:k=x.def.toNat
  ·subst hkd
   rw [List.getElem?_set_self (by omega)] at hu
   cases hu
   obtain ⟨u0,hu0⟩:∃ u,l[x.def.toNat]?=some u:=⟨_,xgG (by omega)⟩
   have h0:=h.2 _ _ hu0
   have hml:x.def < m.length:=by
    refine Decidable.byContradiction fun hn=>xTw u0 ?_
    have:gS m ((x.def.toNat:Nat):Int)=0:=xDh (by omega)
    rw [<- this];exact h0
   rw [if_pos ⟨hd0,hml,by omega⟩]
   have ga:=h.getD ⟨ha0,hal⟩
   have gb:=h.getD ⟨hb0,hbl⟩
   have oa:=SEnv.get_ok (some m) x.a
   have ob:=SEnv.get_ok (some m) x.b
   have sa:=fun h=>xHN (hs h) x.a.toNat
   have sb:=fun h=>xHN (hs h) x.b.toNat
   unfold stepSV Ins.sgn
   generalize l.getD x.a.toNat 0=ua at *
   generalize l.getD x.b.toNat 0=ub at *
   by_cases k0:x.kind=0
   ·simp only [k0,if_true,reduceIte]
    rw [xEq hc,xAw (xAX _)];exact xAx (xAX _)
   by_cases k1:x.kind=1
   ·simp only [k0,k1,if_true,if_false,Int.reduceEq,reduceIte]
    rw [xAw oa];exact ga
   by_cases k2:x.kind=2
   ·have sa:=sa (by omega)
    have sb:=sb (by omega)
    have hmul:=xEy sa sb
    simp only [k0,k1,k2,if_true,if_false,Int.reduceEq,reduceIte]
    rw [xAa (by omega),xAw (xBC _)];exact xJ9 oa ga
   by_cases k3:x.kind=3
   ·have sa:=sa (by omega)
    have sb:=sb (by omega)
    have hmul:=xEy sa sb
    simp only [k0,k1,k2,k3,if_true,if_false,Int.reduceEq,reduceIte]
    rw [xAa (by omega),xAw (xBA _ _)];exact xJ8 oa ob ga gb
   by_cases k4:x.kind=4
   ·have sa:=sa (by omega)
    have sb:=sb (by omega)
    have hmul:=xEy sa sb
    simp only [k0,k1,k2,k3,k4,if_true,if_false,Int.reduceEq,reduceIte]
    rw [xAa (by omega),xAw (xFM _ _)];exact xPF oa ob ga gb
   by_cases k5:x.kind=5
   ·have sa:=sa (by omega)
    have sb:=sb (by omega)
    have hmul:=xEy sa sb
    simp only [k0,k1,k2,k3,k4,k5,if_true,if_false,Int.reduceEq,reduceIte]
    rw [xAa (by omega),xAw (xBB _ _)];exact xPE oa ob ga gb
   simp only [k0,k1,k2,k3,k4,k5,hk7,if_false]
   exact xR8 (xAX _)
  ·rw [List.getElem?_set_ne (Ne.symm hkd)] at hu
   rw [if_neg (by omega)]
   exact h.2 k u hu
def beginS (n k:Nat) (w:List Int):List Int:=(List.range n).map fun v:Nat=>if v < k then (w.getD v 0).tmod 100 else 0
theorem xBu (n k:Nat) (w:List Int):(beginS n k w).length=n:=by simp [beginS]
theorem xFA {p:Prg} {x:Fun} {k:Nat} {w:List Int} (hx:p.funs[0]?=some x) (h0:0 < x.blks.length) (hk:(k:Int)<=x.par) (hv:(x.wid:Int)=x.vars):SgT (beginS x.wid k w) (p.sAt (.blk 0 0)):=by
 refine SgT.le (e:=(p.sAt (.par 0)).start x.par x.vars) ?_ (xKp hx h0)
 obtain ⟨m,hm,hle⟩:=xP7 hx _ rfl
 rw [hm]
 refine ⟨rfl,fun j u hu=>?_⟩
 have hj:j < x.wid:=by have:=(xgS hu).1;rwa [xBu] at this
 have hu':u=if j < k then (w.getD j 0).tmod 100 else 0:=by
  simp only [beginS,List.getElem?_map,List.getElem?_range hj,Option.map_some,xoI] at hu
  exact hu.symm
 show sgLe (sgOf u) (gS (startS x.par x.vars m) j)
 unfold startS
 rw [xEt,if_pos ⟨by omega,by have:x.wid=capN x.vars:=rfl;omega⟩,Int.toNat_natCast]
 by_cases hp:(j:Int) < x.par
 ·rw [if_pos hp]
  have h7:gS (allS x.par 7) j=7:=by
   rw [allS,xNv (v:=sgS 7)]
   ·decide +kernel
   ·rw [List.getElem?_replicate,if_pos]
    unfold capN
    have:x.wid<=64:=by have:x.wid=capN x.vars:=rfl;rw [this];unfold capN;omega
    omega
  have h8:=hle.2 j
  rw [h7] at h8
  rw [xHJ]
  exact xAU (xAX _) ⟨by omega,by omega⟩ (xBO _ _) (xR8 (xAX _)) h8
 ·rw [if_neg hp]
  rw [hu',if_neg (by omega)]
  decide +kernel
def IVS (S:St) (v:AV) (l:List Int):Prop:=FSl intc 1 v l \/ ∃ o,v=.sl 1 o 0 l.length/\o < S.next/\S.obj o=some (.row 1 (els intc l))
theorem IVS.pict {S:St} {v:AV} {l:List Int} (h:IVS S v l):∃ w,FSl intc 1 w l/\∀n,Vm.pict S [] (n + 2) v=some w:=by
 rcases h with h | ⟨o,rfl,_,h⟩
 ·exact ⟨v,h,fun n=>xAc h.stab⟩
 ·exact ⟨_,FSl.mk,fun n=>xBM h⟩
theorem IVS.keep {S S':St} {v:AV} {l:List Int} (h:IVS S v l) (hu:Up S S'):IVS S' v l:=by
 rcases h with h | ⟨o,rfl,ho,h⟩
 ·exact .inl h
 ·exact .inr ⟨o,rfl,Nat.lt_of_lt_of_le ho hu.1,by rw [hu.2 o ho];exact h⟩
theorem IVS.len {S:St} {v:AV} {l:List Int} (h:IVS S v l):lenV v=some l.length:=by
 rcases h with h | ⟨o,rfl,_,_⟩
 ·exact h.len
 ·simp
end Go.Proofs.YtnhfofmhkfdpgaaGreatDoor.Vm
namespace Go.Proofs.YtnhfofmhkfdpgaaGreatDoor.Vm
open Go Go.RowKit
variable {N:Nat} {g:Glob}
open Classical in
noncomputable def Fun.cRow (x:Fun) (f:Nat):List Int:=((x.posTo f x.blks.length).filter fun s=>decide (s.2.2.2.kind=7/\x.Way s.2.1)).map fun s=>s.2.2.2.f
noncomputable def Prg.cG (p:Prg):List (List Int):=(List.range p.funs.length).map fun f=>match p.funs[f]? with
 | some x=>x.cRow f
 | none=>[]
theorem xP8 (p:Prg):p.cG.length=p.funs.length:=by simp [Prg.cG]
theorem xSd {p:Prg} {f:Nat} {x:Fun} (hx:p.funs[f]?=some x):p.cG[f]?=some (x.cRow f):=by
 have:=(xgS hx).1
 simp only [Prg.cG,List.getElem?_map,List.getElem?_range this,Option.map_some,hx]
def Prg.Cld (p:Prg) (f:Nat):Prop:=Rch (cleanG p.cG) 0 f
theorem xRH {p:Prg} {f h:Nat} {x:Fun} (hx:p.funs[f]?=some x) (hh:h < p.funs.length) (hm:(h:Int) ∈ x.cRow f) (hc:p.Cld f):p.Cld h:=by
 refine Rch.step hc (l:=cleanL p.cG.length (x.cRow f)) ?_ ?_
 ·unfold cleanG;rw [List.getElem?_map,xSd hx];rfl
 ·rw [xAq,xP8];exact ⟨hm,by omega,by omega⟩
theorem xMv {x:Fun} {f:Nat} {h:Int}:h ∈ x.cRow f ↔ ∃ (b k:Nat) (y:Blk) (i:Ins),x.blks[b]?=some y/\y.ins[k]?=some i/\i.kind=7/\x.Way b/\i.f=h:=by
 unfold Fun.cRow
 simp only [List.mem_map,List.mem_filter,decide_eq_true_eq]
 constructor
 ·rintro ⟨s,⟨hs,h7,hw⟩,rfl⟩
  obtain ⟨_,_,y,q1,q2⟩:=Fun.posTo_mem.1 hs
  exact ⟨_,_,y,_,q1,q2,h7,hw,rfl⟩
 ·rintro ⟨b,k,y,i,q1,q2,h7,hw,rfl⟩
  exact ⟨(f,b,k,i),⟨Fun.posTo_mem.2 ⟨rfl,(xgS q1).1,y,q1,q2⟩,h7,hw⟩,rfl⟩
theorem SEnv.le_on {a b:SEnv} (h:a.le b) (ha:a.isSome=true):b.isSome=true:=by
 cases a with
 | none=>cases ha
 | some l=>obtain ⟨m,hm,_⟩:=h l rfl;rw [hm];rfl
theorem xLq (p:Prg) (X:List SEnv):∀(l:List Ins) (e:SEnv),(pastX p X e l).isSome=e.isSome
 | [],e=>rfl
 | i :: l,e=>by
  show (pastX p X (i.sign e _) l).isSome=_
  rw [xLq p X l,Ins.sign_on]
theorem xLr (p:Prg) (f b k:Nat):(hereX p p.ssol f b k).isSome=(p.sAt (.blk f b)).isSome:=xLq _ _ _ _
theorem xKq {p:Prg} {X:List SEnv}:∀(l:List Step) (e:SEnv) (s:Step),s ∈ l->(hereX p X s.1 s.2.1 s.2.2.1).isSome=true->(l.foldl (callX p X) e).isSome=true
 | [],_,_,hs,_=>by cases hs
 | t :: l,e,s,hs,hh=>by
  rcases List.mem_cons.1 hs with rfl | hs
  ·refine SEnv.le_on (xIP l _) ?_
   unfold callX
   cases hx:hereX p X s.1 s.2.1 s.2.2.1 with
   | none=>rw [hx] at hh;cases hh
   | some m=>rw [SEnv.join_on];simp
  ·exact xKq l _ s hs hh
theorem xSe {p:Prg} (hp:p.OK) (hn:0 < p.funs.length) {f:Nat} (h:p.Cld f):(p.sAt (.par f)).isSome=true/\∀x b,p.funs[f]?=some x->x.Way b->(p.sAt (.blk f b)).isSome=true:=by
 have blk:∀f,(p.sAt (.par f)).isSome=true->∀x b,p.funs[f]?=some x->x.Way b->(p.sAt (.blk f b)).isSome=true:=by
  intro f hf x b hx hw
  unfold Fun.Way at hw
  induction hw with
  | base =>
   refine SEnv.le_on (xKp hx (hp.fun hx).len.1) ?_
   cases hs:p.sAt (.par f) with
   | none=>rw [hs] at hf;cases hf
   | some l=>rfl
  | step _ hl hb ih =>
   obtain ⟨y,hy,hby,hbl⟩:=xEp hl hb
   refine SEnv.le_on (xIO hp hx hy hby hbl) ?_
   rw [xLr];exact ih
 have par:(p.sAt (.par f)).isSome=true:=by
  unfold Prg.Cld at h
  induction h with
  | base =>
   obtain ⟨x,hx⟩:∃ x,p.funs[0]?=some x:=⟨_,xgG hn⟩
   exact SEnv.le_on (xP7 hx) rfl
  | @step a c l _ hl hb ih =>
   have ha:=(xgS hl).1
   have hcl:(cleanG p.cG).length=p.funs.length:=by simp [cleanG,xP8]
   obtain ⟨x,hx⟩:∃ x,p.funs[a]?=some x:=⟨_,xgG (by omega)⟩
   unfold cleanG at hl
   rw [List.getElem?_map,xSd hx] at hl
   cases hl
   rw [xAq,xP8] at hb
   obtain ⟨b,k,y,i,hy,hi,h7,hw,hf⟩:=xMv.1 hb.1
   have hfl:c < p.funs.length:=by omega
   rw [Prg.sAt_fix (u:=.par c) hfl]
   refine xKq (p.callsTo c) _ (a,b,k,i) (List.mem_filter.2 ⟨Prg.pos_mem.2 ⟨x,y,hx,hy,hi⟩,by simp [isCall,h7,hf]⟩) ?_
   rw [xLr]
   exact blk a ih x b hx hw
 exact ⟨par,fun x b hx hw=>blk f par x b hx hw⟩
def Prg.Rcd (p:Prg):Unk->Prop
 | .par f=>p.Cld f
 | .ans _=>True
 | .blk f b=>p.Cld f/\∃ x,p.funs[f]?=some x/\x.Way b
open Classical in
noncomputable def Prg.onY (p:Prg):List SEnv:=p.unks.map fun u=>if p.Rcd u then p.sAt u else none
theorem xLs (p:Prg):p.onY.length=p.unks.length:=by simp [Prg.onY]
open Classical in
theorem onY_at {p:Prg} {u:Unk} (h:p.has u):p.onY.getD (p.at' u) none=if p.Rcd u then p.sAt u else none:=by
 rw [List.getD_eq_getElem?_getD,Prg.onY,List.getElem?_map,Prg.unks_at h];rfl
theorem xHO (p:Prg) (X:List SEnv) (l:List Ins):pastX p X none l=none:=by
 have:=xLq p X l none
 cases h:pastX p X none l with
 | none=>rfl
 | some m=>rw [h] at this;cases this
theorem xWb (p:Prg):XLe p.onY p.ssol:=fun k=>by
 rw [List.getD_eq_getElem?_getD,Prg.onY,List.getElem?_map]
 cases hu:p.unks[k]? with
 | none=>exact SEnv.le_none _
 | some u =>
  have hk:=(Prg.unks_has hu).2
  simp only [Option.map_some,Option.getD_some]
  split
  ·unfold Prg.sAt;rw [hk];exact SEnv.le_refl _
  ·exact SEnv.le_none _
theorem xRI {p:Prg} (hp:p.OK):p.ssys.Post p.onY:=by
 classical
 refine ⟨⟨xLs p,fun e he=>?_⟩,fun k a ha=>?_⟩
 ·unfold Prg.onY at he
  obtain ⟨u,_,rfl⟩:=List.mem_map.1 he
  split
  ·exact p.ssol_ok _
  ·exact SEnv.ok_none
 ·have hk:k < p.unks.length:=by rw [<- xLs];exact (xgS ha).1
  obtain ⟨u,hu⟩:∃ u,p.unks[k]?=some u:=⟨_,xgG hk⟩
  obtain ⟨hh,rfl⟩:=Prg.unks_has hu
  have h1:=onY_at hh
  rw [List.getD_eq_getElem?_getD,ha] at h1
  simp only [Option.getD_some] at h1
  show SEnv.le (evX p p.onY (p.at' u)) a
  rw [xR9 hh,h1]
  by_cases hr:p.Rcd u
  ·rw [if_pos hr,Prg.sAt_fix hh]
   exact xMl (xWb p) u
  ·rw [if_neg hr]
   have hnone:evU p p.onY u=none:=by
    cases u with
    | ans f=>exact absurd trivial hr
    | par f =>
     have hf0:f ≠ 0:=fun e=>hr (e ▸ Rch.base)
     show (p.callsTo f).foldl (callX p p.onY) (parX0 p f)=none
     have h0:parX0 p f=none:=by simp [parX0,hf0]
     rw [h0]
     have all:∀l:List Step,(∀s ∈ l,s ∈ p.callsTo f)->l.foldl (callX p p.onY) none=none:=by
      intro l hl
      induction l with
      | nil=>rfl
      | cons s l ih =>
       rw [List.foldl_cons]
       have hs:=hl s (by simp)
       have hx:callX p p.onY none s=none:=by
        obtain ⟨hs1,hs2⟩:=List.mem_filter.1 hs
        obtain ⟨x,y,hx,hy,hi⟩:=Prg.pos_mem.1 hs1
        have hbk:p.has (.blk s.1 s.2.1):=⟨x,hx,(xgS hy).1⟩
        have hno:¬ p.Rcd (.blk s.1 s.2.1):=fun ⟨hc,x',hx',hw⟩=>by
         rw [hx] at hx';cases hx'
         simp only [isCall,decide_eq_true_eq] at hs2
         exact hr (xRH hx hh (xMv.2 ⟨_,_,y,_,hy,hi,hs2.1,hw,hs2.2⟩) hc)
        have:hereX p p.onY s.1 s.2.1 s.2.2.1=none:=by
         unfold hereX;rw [onY_at hbk,if_neg hno];exact xHO _ _ _
        unfold callX;rw [this]
       rw [hx];exact ih fun t ht=>hl t (by simp [ht])
     exact all _ fun s hs=>hs
    | blk f b =>
     obtain ⟨x,hx,hb⟩:=hh
     have hfl:p.has (.par f):=(xgS hx).1
     have hnr:¬ (p.Cld f/\x.Way b):=fun ⟨h1,h2⟩=>hr ⟨h1,x,hx,h2⟩
     show begXTo p p.onY f b (p.predsN f b)=none
     rw [(Prg.predsN_of hp hx).2]
     have h0:begX0 p p.onY f b=none:=by
      unfold begX0
      by_cases hb0:b=0
      ·subst hb0
       have h1:p.onY.getD (p.at' (.par f)) none=none:=(onY_at hfl).trans (if_neg fun h=>hnr ⟨h,Rch.base⟩)
       show SEnv.start (p.parOf f) (p.varsOf f) (p.onY.getD (p.at' (.par f)) none)=none
       rw [h1];rfl
      ·rw [if_neg hb0]
     unfold begXTo
     rw [h0]
     have all:∀l:List Int,(∀j ∈ l,j ∈ x.preds b)->l.foldl (fun (e:SEnv) j=>e.join (hereX p p.onY f j.toNat (p.cd f j.toNat).length)) (none:SEnv)=none:=by
      intro l hl
      induction l with
      | nil=>rfl
      | cons j l ih =>
       rw [List.foldl_cons]
       obtain ⟨m,z,rfl,hz,hzb⟩:=Fun.preds_mem.1 (hl j (by simp))
       have hm:=(xgS hz).1
       have hon:z.on=true:=by
        cases hon:z.on
        ·have:=(((hp.fun hx).blk (xmG hz)).1 hon).2
         rw [this] at hzb;cases hzb
        ·rfl
       have hno:¬ p.Rcd (.blk f m):=fun ⟨hc,x',hx',hw⟩=>by
        rw [hx] at hx';cases hx'
        obtain ⟨l,hl1,hl2⟩:=xJO hz hon hzb hb
        exact hnr ⟨hc,Rch.step hw hl1 hl2⟩
       have hn:hereX p p.onY f ((m:Int).toNat) (p.cd f (m:Int).toNat).length=none:=by
        rw [Int.toNat_natCast]
        unfold hereX;rw [onY_at (u:=.blk f m) ⟨x,hx,hm⟩,if_neg hno];exact xHO _ _ _
       rw [hn]
       exact ih fun t ht=>hl t (by simp [ht])
     exact all _ fun j hj=>hj
   rw [hnone];exact SEnv.le_none _
theorem xSf {p:Prg} (hp:p.OK) {u:Unk} (h:p.has u) (hon:(p.sAt u).isSome=true):p.Rcd u:=by
 classical
 refine Decidable.byContradiction fun hn=>?_
 have h1:=onY_at h
 rw [if_neg hn] at h1
 have hl:p.at' u < p.onY.length:=by rw [xLs];exact Prg.at_lt h
 have h2:=p.ssol_least.low p.onY (xRI hp) (p.at' u) (p.sAt u) (p.onY[p.at' u]'hl) (Prg.sAt_get h) (xgG _)
 rw [List.getD_eq_getElem?_getD,xgG hl] at h1
 simp only [Option.getD_some] at h1
 rw [h1] at h2
 have:=SEnv.le_on h2 hon
 cases this
theorem xTx {p:Prg} (hp:p.OK) {f b:Nat} {x:Fun} (hx:p.funs[f]?=some x) (hb:b < x.blks.length):(p.sAt (.blk f b)).isSome=true ↔ p.Cld f/\x.Way b:=by
 have hf:=(xgS hx).1
 constructor
 ·intro h
  obtain ⟨h1,x',hx',h2⟩:=xSf hp (u:=.blk f b) ⟨x,hx,hb⟩ h
  rw [hx] at hx';cases hx'
  exact ⟨h1,h2⟩
 ·rintro ⟨h1,h2⟩
  exact (xSe hp (by omega) h1).2 x b hx h2
end Go.Proofs.YtnhfofmhkfdpgaaGreatDoor.Vm
namespace Go.Proofs.YtnhfofmhkfdpgaaGreatDoor.Vm
open Go Go.RowKit
variable {N:Nat} {g:Glob}
theorem xP9 {l:List Int} {x:Ins} (hc:-2147483648<=x.c/\x.c<=2147483647) (hk:¬ (2<=x.kind/\x.kind<=5)):stepSL l x 0=stepL l x 0:=by
 have hv:stepSV l x 0=stepV l x 0:=by
  unfold stepSV stepV
  have k2:¬ x.kind=2:=by omega
  have k3:¬ x.kind=3:=by omega
  have k4:¬ x.kind=4:=by omega
  have k5:¬ x.kind=5:=by omega
  have z:wrap32 0=0:=rfl
  rw [xEq hc,if_neg k2,if_neg k3,if_neg k4,if_neg k5,if_neg k2,if_neg k3,if_neg k4,if_neg k5,z]
 unfold stepSL stepL
 rw [hv]
def Fun.Bare (f:Fun):Prop:=∀(b:Nat) (y:Blk),f.blks[b]?=some y->∀i ∈ y.ins,¬ (2<=i.kind/\i.kind<=5)/\i.kind ≠ 7
theorem xFb {p:Prg} (hp:p.OK) {f:Fun} (hf:p.funs[0]?=some f) (hb:f.Bare) {b:Nat} {y:Blk} (hy:f.blks[b]?=some y) {l:List Int} (h1:Tells f.wid l (f.cin.getD b Option.none)) (h2:SgT l (p.sAt (.blk 0 b))):∀k,k<=y.ins.length->∃ l,Tells f.wid l (f.cat b k)/\SgT l (hereX p p.ssol 0 b k)
 | 0,_=>⟨l,by rw [xRb];exact h1,by rw [xGU];exact h2⟩
 | k + 1,hk=>by
  obtain ⟨l,q1,q2⟩:=xFb hp hf hb hy h1 h2 k (by omega)
  obtain ⟨x,hx⟩:∃ x,y.ins[k]?=some x:=⟨_,xgG (by omega)⟩
  have hok:=hp.fun hf
  obtain ⟨hxc,hxd⟩:=xPp hok ((hok.blk (xmG hy)).2.2.2.2 x (xmG hx))
  obtain ⟨ha,h7⟩:=hb b y hy x (xmG hx)
  refine ⟨stepL l x 0,?_,?_⟩
  ·rw [xRa hy hx];exact q1.step hxc hxd
  ·rw [xGV (by rw [Prg.cd_of hf hy];exact hx),<- xP9 hxc ha]
   exact q2.step h7 (fun h=>absurd h ha) hxc (by rw [q1.1];exact hxd)
theorem xRJ {p:Prg} (hp:p.OK) {f:Fun} (hf:p.funs[0]?=some f) (hb:f.Bare) {b:Nat} (h:f.Way b):∃ l,Tells f.wid l (f.cin.getD b Option.none)/\SgT l (p.sAt (.blk 0 b)):=by
 have hok:=hp.fun hf
 have hv6:=hok.vars
 unfold Fun.varsOK at hv6
 unfold Fun.Way at h
 induction h with
 | base =>
  refine ⟨beginS f.wid 0 [],?_,xFA hf hok.len.1 (by omega) hok.wid⟩
  have h1:=(xGC f []).le (f.cin_fit 0) (xL2 hok.len.1)
  have h2:beginL f.par [] f.wid=beginS f.wid 0 []:=by simp [beginL,beginS]
  rw [h2] at h1;exact h1
 | step _ hl hbm ih =>
  obtain ⟨l,q1,q2⟩:=ih
  obtain ⟨y,hy,hby,hbl⟩:=xEp hl hbm
  obtain ⟨l',r1,r2⟩:=xFb hp hf hb hy q1 q2 y.ins.length (Nat.le_refl _)
  exact ⟨l',r1.le (f.cin_fit _) (xPo hy hby hbl),r2.le (xIO hp hf hy hby hbl)⟩
theorem xIQ:∀(l:List Ins) (e:Env),(pastL e l).isSome=e.isSome
 | [],e=>rfl
 | i :: l,e=>by
  show (pastL (i.flat e) l).isSome=_
  rw [xIQ l]
  cases e <;> rfl
theorem xTy {p:Prg} (hp:p.OK) {f:Fun} (hf:p.funs[0]?=some f) {b k:Nat} {y:Blk} (hy:f.blks[b]?=some y):(hereX p p.ssol 0 b k).isSome=(f.cat b k).isSome:=by
 have hbl:=(xgS hy).1
 rw [xLr]
 have h1:(f.cat b k).isSome=(f.cin.getD b Option.none).isSome:=by unfold Fun.cat;exact xIQ _ _
 rw [h1]
 have h2:=xTx hp hf hbl
 have h3:p.Cld 0:=Rch.base
 by_cases hw:f.Way b
 ·rw [h2.2 ⟨h3,hw⟩]
  obtain ⟨l,hl⟩:=xJV (hp.fun hf) hw
  exact hl.isSome.symm
 ·rw [xIB (hp.fun hf) hbl hw]
  cases h:(p.sAt (.blk 0 b)).isSome
  ·rfl
  ·exact absurd (h2.1 h).2 hw
theorem xNM {p:Prg} (hp:p.OK) {f:Fun} (hf:p.funs[0]?=some f) (hb:f.Bare) {b k:Nat} {y:Blk} (hy:f.blks[b]?=some y) (hk:k<=y.ins.length) (v:Int) (h1:((f.cat b k).get v).k=1):sgLe (sgOf ((f.cat b k).get v).c) ((hereX p p.ssol 0 b k).get v):=by
 have hbl:=(xgS hy).1
 by_cases hw:f.Way b
 ·obtain ⟨l,q1,q2⟩:=xRJ hp hf hb hw
  obtain ⟨l,r1,r2⟩:=xFb hp hf hb hy q1 q2 k hk
  by_cases hv:0<=v/\v < f.wid
  ·obtain ⟨u,hu,_,hle,hok⟩:=r1.get hv
   rcases xGB hok hle with h | h
   ·rw [h] at h1;cases h1
   ·rw [h]
    have:=r2.getD (a:=v) (by rw [r1.1];exact hv)
    rw [hu] at this
    exact this
  ·exfalso
   obtain ⟨_,m,hm,hml,_⟩:=r1
   rw [hm] at h1
   have:Env.get (some m) v=⟨0,0⟩:=by
    simp only [Env.get,getL]
    rw [if_neg (by omega)];rfl
   rw [this] at h1;cases h1
 ·exfalso
  have:f.cat b k=Option.none:=by
   have h:=xIQ ((f.code b).take k) (f.cin.getD b Option.none)
   rw [xIB (hp.fun hf) hbl hw] at h
   unfold Fun.cat
   rw [xIB (hp.fun hf) hbl hw]
   cases hq:pastL Option.none ((f.code b).take k) with
   | none=>rfl
   | some m=>rw [hq] at h;cases h
  rw [this] at h1;cases h1
end Go.Proofs.YtnhfofmhkfdpgaaGreatDoor.Vm
