/- A part of the proof: Rd Re Rf Rb Rg. -/
import Derived.Test.YtnhfofmhkfdpgaaGreatDoorQ23
set_option linter.unusedVariables false
set_option linter.unusedSimpArgs false
set_option linter.constructorNameAsVariable false
namespace Go.Proofs.YtnhfofmhkfdpgaaGreatDoor.Vm
open Go Go.RowKit
variable {N:Nat} {g:Glob}
@[simp] theorem xMa {S:St} {n:Nat} (e:Env):mapOpt (pict S [] (n + 1)) (envc e)=some (envc e):=by cases e <;> simp [mapOpt]
theorem RK.rowE {S:St} {o k:Nat} {l:List Val} (h:S.obj o=some (.row 2 (els valc l))) (hk:l.length=k):RK (.agg (envc (some l))) (.agg [.bool true,.sl 2 o 0 k]) S:=by
 refine ⟨8,?_⟩
 have:=xA4 (e:=valc) (S:=S) (n:=5) h hk
 simp only [xB0,mapOpt,xCq,this]
 rfl
@[simp] theorem xSp (e:Env):solids (envc e)=true:=by cases e <;> simp
@[simp] theorem xVb (e:Env):(envc e).length=2:=by cases e <;> rfl
theorem RK.env {e e':Env} {S:St} (h:e=e'):RK (.agg (envc e')) (.agg (envc e)) S:=by subst h;exact ⟨9,by simp⟩
@[simp] theorem xT0 (e:Env):(∀x,x ∈ envc e→x.one=true)=True:=by cases e <;> simp
@[simp] theorem xT1 (e:Env):(envc e).take 2=envc e:=by cases e <;> rfl
@[simp] theorem xT2 (u v:AV) (e:Env):over [u,v] 0 (envc e)=envc e:=by cases e <;> rfl
@[simp] theorem xSq (e' e:Env):over (envc e') 0 (envc e)=envc e:=by cases e <;> cases e' <;> rfl
def Env.small (e:Env):Prop:=∀l,e=some l→l.length < 2 ^ 20
def joinL (l m:List Val):List Val:=(List.range (max m.length l.length)).map fun k:Nat=>(getL l k).join (getL m k)
def Env.join (a b:Env):Env:=match a,b with
 | none,b=>b.own
 | a,none=>a.own
 | some l,some m=>some (joinL l m)
theorem xI2 (l:List Val) (n:Nat) {k:Nat} (hk:k < max n l.length):(ownL l n)[k]?=some (getL l k):=by simp [ownL,hk]
theorem xMb (a b:Env) (ha:a.small) (hb:b.small):Ret P g false 209 [opsV,encE a,encE b] (encE (a.join b)):=by
 refine Ret.in c209 (by simp) ?_
 simp [k209]
 cases a with
 | none =>
  simp
  cases b with
  | none =>
   simp
   refine (xHV (none:Env) ha).use (n:=9) ?_ rfl ?_ <;> simp [xB3]
   exact RK.env rfl
  | some m =>
   simp
   refine (xHV (some m) hb).use (n:=9) ?_ rfl ?_ <;> simp [xB3]
   exact RK.env rfl
 | some l =>
  simp
  cases b with
  | none =>
   simp
   refine (xHV (some l) ha).use (n:=9) ?_ rfl ?_ <;> simp [xB3]
   exact RK.env rfl
  | some m =>
   have hl:=ha l rfl
   have hm:=hb m rfl
   simp
   refine (xKc l m.length hl hm).use' (n:=9) ?_ ?_ ?_ <;> simp [xB3]
   have hn:max m.length l.length < 2 ^ 20:=Nat.max_lt.2 ⟨hm,hl⟩
   have hol:=xDh l m.length
   have hcast:(max (m.length:Int) l.length)=((max m.length l.length:Nat):Int):=by omega
   try simp only [hcast]
   have hJ:(joinL l m).length=max m.length l.length:=by simp [joinL]
   have hget:∀k,k < max m.length l.length→(ownL l m.length)[k]?=some (getL l k):=fun k hk=>xI2 l _ hk
   have hjg:∀k,k < max m.length l.length→(joinL l m)[k]?=some ((getL l k).join (getL m k)):=fun k hk=>by simp [joinL,hk]
   generalize max m.length l.length=n at *
   refine W.whileI (fun (a:Nat) F S=>a≤n∧F 3=.ptr 0 0 0∧F 5=.ptr 2 0 0∧F 6=.ptr 3 0 0∧F 7=.ptr 5 0 0∧F 28=.int .i64 n∧F 29=.int .i64 a∧S.obj 0=some (.row 2 [opsV.cells])∧S.obj 2=some (.row 2 [envc (some m)]) ∧
    S.obj 3=some (.row 2 [[.bool false,.nilsl]])∧S.obj 5=some (.row 2 [[.bool true,.sl 2 4 0 n]])∧∃ o:List Val,o.length=n∧o.take a=(joinL l m).take a∧o.drop a=(ownL l m.length).drop a∧S.obj 4=some (.row 2 (els valc o))) (fun a=>n - a) ?_ 0 _ _ ?_
   ·rintro a F S ⟨ha,h3,h5,h6,h7,h28,h29,s0,s2,s3,s5,o,ho,hot,hod,s4⟩
    by_cases hlt:a < n
    ·have e4:=wrapS a (by omega)
     have hoa:o[a]?=some (getL l a):=by
      have h1:=hget a hlt
      have h2:(o.drop a)[0]?=((ownL l m.length).drop a)[0]?:=by rw [hod]
      simp only [yBB,yBG] at h2
      rw [h2,h1]
     simp [h28,h29,hlt]
     refine Dra.auto [] mix ?_ ?_
     ·kernel_rfl
     simp only [xG0,xI0] at s0 s2
     simp [classes,h3,h5,h6,h7,h28,h29,s0,s2,s5,xAd hlt,s4,hoa]
     refine (xKb (some m) a).b (n:=9) ?_ rfl ?_ <;> simp [xB3]
     refine (xFQ (getL l a) (Env.get (some m) a)).b (n:=9) ?_ rfl ?_ <;> simp
     simp [xAd hlt,s4,hoa,h3,h5,h6,h7,h28,h29,e4]
     refine ⟨a + 1,by omega,by omega,by omega,by simpa using s0,by simpa using s2,by simpa using s3,by simpa using s5,o.set a ((getL l a).join (getL m a)),by simp [ho],?_,?_,by rw [← xAg];rfl⟩
     ·rw [xAn (by omega),hot,xAe (hjg a hlt)]
     ·rw [List.drop_set_of_lt (by omega)]
      have h2:(o.drop a).drop 1=((ownL l m.length).drop a).drop 1:=by rw [hod]
      simpa [yAt,Nat.add_comm] using h2
    ·have:a=n:=by omega
     subst this
     have hoR:o=joinL l m:=by rw [yAI (by omega),yAI (by omega)] at hot;exact hot
     subst hoR
     simp [h28,h29,h7,h6,s5,s3]
     exact RK.rowE (by simp [s4]) hJ
   ·simp
    exact ⟨ownL l m.length,by simp [hol],rfl,rfl⟩
def Env.set (e:Env) (i:Int) (v:Val):Env:=e.own.map fun l=>if 0≤i∧i < l.length then l.set i.toNat v.sane else l
theorem xRq (e:Env) (i:Int) (v:Val) (he:e.small):Ret P g false 202 [opsV,encE e,.int .i64 i,encV v] (encE (e.set i v)):=by
 refine Ret.in c202 (by simp) ?_
 simp [k202]
 cases e with
 | none =>
  refine (xI1 0).use (n:=9) ?_ rfl ?_ <;> simp [xB3]
  refine xCD (fun h1=>?_) (fun h1=>?_) <;> simp [h1]
  ·refine xAj (fun h2=>?_) (fun h2=>?_) <;> simp [h2]
   ·omega
   ·exact RK.env (e:=none) (e':=Env.set none i v) rfl
  ·exact RK.env (e:=none) (e':=Env.set none i v) rfl
 | some l =>
  have hl:=he l rfl
  refine (xKc l 0 hl (by omega)).use' (n:=9) ?_ ?_ ?_ <;> simp [xB3]
  have hol:=xDh l 0
  have hse:Env.set (some l) i v=some (if 0≤i∧i < (ownL l 0).length then (ownL l 0).set i.toNat v.sane else ownL l 0):=rfl
  simp only [Nat.zero_max] at hol
  rw [hol] at hse
  have hra:=readAll (e:=valc) hol
  refine xCD (fun h1=>?_) (fun h1=>?_) <;> simp [h1]
  ·refine xAj (fun h2=>?_) (fun h2=>?_) <;> simp [h2]
   ·obtain ⟨k,rfl⟩:∃ k:Nat,i=(k:Int):=⟨i.toNat,by omega⟩
    have hk:k < l.length:=by omega
    obtain ⟨u,hu⟩:∃ u,(ownL l 0)[k]?=some u:=⟨_,xgG (by omega)⟩
    refine Dra.auto [] mix ?_ ?_
    ·kernel_rfl
    simp [classes]
    refine (xHU v).b (n:=9) ?_ rfl ?_ <;> simp [xB3]
    simp [xAd hk,hu]
    have e3:(els valc (ownL l 0)).set k [.int .i64 v.sane.k,.int .i64 v.sane.c]=els valc ((ownL l 0).set k v.sane):=xAg (e:=valc)
    simp only [e3]
    rw [if_pos (by omega)] at hse
    rw [hse]
    exact RK.rowE (by simp) (by simp [hol])
   ·rw [if_neg (by omega)] at hse
    rw [hse]
    exact RK.rowE (by simp) hol
  ·rw [if_neg (by omega)] at hse
   rw [hse]
   exact RK.rowE (by simp) hol
theorem xI3 (a b:Env) (ha:a.small) (hb:b.small):Ret P g false 146 [encE a,encE b] (encE (a.join b)):=by
 refine Ret.in c146 (by simp) ?_
 simp [k146]
 refine Dra.auto [] mix ?_ ?_
 ·kernel_rfl
 simp [classes]
 refine xD9.b (n:=9) ?_ rfl ?_ <;> simp
 refine (xMb a b ha hb).b (n:=9) (by simp) (by simp [solids,AV.solid]) ?_
 simp
 exact RK.env rfl
theorem xDG (e:Env) (i:Int):Ret P g false 58 [encE e,.int .i64 i] (encV (e.get i)):=by
 refine Ret.in c58 (by simp) ?_
 simp [k58]
 refine Dra.auto [] mix ?_ ?_
 ·kernel_rfl
 simp [classes]
 refine xD9.b (n:=9) ?_ rfl ?_ <;> simp
 refine (xKb e i).b (n:=9) (by simp) rfl ?_
 simp
 exact RK.agg (by simp [AV.stab])
theorem xKd (e:Env) (i:Int) (v:Val) (he:e.small):Ret P g false 143 [encE e,.int .i64 i,encV v] (encE (e.set i v)):=by
 refine Ret.in c143 (by simp) ?_
 simp [k143]
 refine Dra.auto [] mix ?_ ?_
 ·kernel_rfl
 simp [classes]
 refine xD9.b (n:=9) ?_ rfl ?_ <;> simp
 refine (xRq e i v he).b (n:=9) (by simp) (by simp [solids,AV.solid]) ?_
 simp
 exact RK.env rfl
def leqL (l m:List Val) (k:Nat):Prop:=∀j,j < k→(getL l (j:Nat)).leq (getL m (j:Nat))=true
noncomputable instance (l m:List Val) (k:Nat):Decidable (leqL l m k):=Classical.propDecidable _
theorem xNS {l:List Val}:okAll 2 (els valc l):=by
 unfold okAll
 simp only [els,List.all_map,yAa,Function.comp]
 intro x _;rfl
theorem xEB (x:Val) (n:Nat) (hn:n < 2 ^ 30):Own P g 267 [.fsl 2 [valc x],.int .i64 (n:Int)] (.sl 2 0 0 n) (St.ofL [.row 2 (els valc (List.replicate n x))]):=by
 refine Own.in [0] c267 (by simp) (by simp) ?_
 have hroom:n≤room:=by simp [room];omega
 have e1:IntKind.u64.wrap (1:Int)=((1:Nat):Int):=rfl
 have e2:IntKind.u64.wrap (n:Int)=n:=xCd (by omega)
 have e3:n % 18446744073709551616=n:=by omega
 have e4:n / 18446744073709551616=0:=by omega
 have e5:IntKind.i64.wrap (n:Int)=n:=xAa (by omega)
 simp [k267,e1,e2]
 refine (bits_Mul 1 n (by omega) (by omega)).use (n:=9) ?_ rfl ?_ <;> simp [e3,e4]
 refine xAj (fun h=>absurd h (by omega)) (fun h=>?_)
 simp [e5,hroom]
 refine W.whileI (fun (m:Nat) F S=>m≤n∧(m=0→n=0)∧F 7=.sl 2 0 0 n∧F 8=.int .i64 m∧S.obj 0=some (.row 2 (els valc (List.replicate m x ++ List.replicate (n - m) Val.zero)))) (fun m=>n - m) ?_ (min 1 n) _ _ ?_
 ·rintro m F S ⟨hm,hm0,h7,h8,ho⟩
  by_cases hlt:m < n
  ·have hmp:0 < m:=by omega
   simp [h7,h8,hlt]
   refine Dra.auto [] mix ?_ ?_
   ·kernel_rfl
   have hys:List.take m (els valc (List.replicate m x ++ List.replicate (n - m) Val.zero))=els valc (List.replicate m x):=by rw [xAs,List.take_left' (by simp)]
   have hok:okAll 2 (els valc (List.replicate m x)):=xNS
   have e6:IntKind.i64.wrap ((m:Int) + (min m (n - m):Nat))=((m + min m (n - m):Nat):Int):=by rw [xAa (by omega)];omega
   simp [classes,h7,h8,hlt,xEy hm,xII hm,ho,show ¬ m=0 by omega,hys,hok]
   refine ⟨m + min m (n - m),by omega,by omega,by omega,e6,?_⟩
   rw [xAs,xKT,xBd,xBd,List.take_replicate,List.drop_append,List.drop_of_length_le (by simp),List.drop_replicate,List.nil_append,← yAr,List.replicate_append_replicate]
   congr 3
   ·omega
   ·simp;omega
  ·have:m=n:=by omega
   subst this
   simp [h7,h8]
   refine ⟨by simp,?_⟩
   simp [ho]
 ·simp
  refine ⟨by omega,?_⟩
  rcases n with _ | n
  ·simp [els]
  ·simp [els,Val.zero]
def capN (n:Int):Nat:=(max 0 (min n 64)).toNat
theorem xRr (n:Int) (v:Val):Own P g 250 [opsV,.int .i64 n,encV v] (.agg [.bool true,.sl 2 0 0 (capN n)]) (St.ofL [.row 2 (els valc (List.replicate (capN n) v.sane))]):=by
 have e1:(if 0 < (if 64 < n then 64 else n) then (if 64 < n then 64 else n) else 0)=((capN n:Nat):Int):=by
  unfold capN;split <;> split <;> omega
 have hc:capN n < 2 ^ 30:=by unfold capN;omega
 have hra:=readAll (e:=valc) (l:=List.replicate (capN n) v.sane) (k:=capN n) (by simp)
 refine Own.in [4] c250 (by simp) (by simp) ?_
 simp [k250]
 refine (xHU v).use (n:=9) ?_ rfl ?_ <;> simp [xB3]
 simp [e1]
 refine (xEB v.sane (capN n) hc).use' (n:=9) ?_ ?_ ?_ <;> simp
 simp [RO]
theorem xNT (n:Int) (v:Val):Own P g 208 [.int .i64 n,encV v] (.agg [.bool true,.sl 2 0 0 (capN n)]) (St.ofL [.row 2 (els valc (List.replicate (capN n) v.sane))]):=by
 refine Own.in [2] c208 (by simp) (by simp) ?_
 simp [k208]
 refine Dra.auto [] mix ?_ ?_
 ·kernel_rfl
 simp [classes]
 refine xD9.b (n:=9) ?_ rfl ?_ <;> simp
 refine (xRr n v).b' (n:=9) ?_ ?_ ?_ <;> simp
 simp [RO]
def startL (par vars:Int):List Val:=(List.range (capN vars)).map fun k:Nat=>if (k:Int) < par then ⟨2,0⟩ else ⟨1,0⟩
theorem xEC (par vars:Int):(startL par vars).length=capN vars:=by simp [startL]
theorem xI4 (f:Fun):Ret P g false 145 [encFun f] (encE (some (startL f.par f.vars))):=by
 have hc:capN f.vars≤64:=by unfold capN;omega
 have hsl:=xEC f.par f.vars
 have hget:∀k,k < capN f.vars→(startL f.par f.vars)[k]?=some (if (k:Int) < f.par then ⟨2,0⟩ else ⟨1,0⟩):=fun k hk=>by simp [startL,hk]
 refine Ret.in c145 (by simp) ?_
 simp [k145]
 refine Dra.auto [] mix ?_ ?_
 ·kernel_rfl
 simp [classes]
 refine (xHA 0).b (n:=9) ?_ rfl ?_ <;> simp
 refine (xNT f.vars ⟨1,wrap32 0⟩).b' (n:=9) ?_ ?_ ?_ <;> simp
 have hw:Val.sane ⟨1,wrap32 0⟩=⟨1,0⟩:=rfl
 rw [hw]
 generalize hm:capN f.vars=m at *
 have e2:(if 0 < (if (m:Int) < f.par then (m:Int) else f.par) then (if (m:Int) < f.par then (m:Int) else f.par) else 0)=(((max 0 (min f.par m)).toNat:Nat):Int):=by split <;> split <;> omega
 simp [e2]
 generalize hq:(max 0 (min f.par m)).toNat=q at *
 have hqm:q≤m:=by omega
 refine W.whileI (fun (a:Nat) F S=>a≤q∧F 2=.ptr 1 0 0∧F 3=.ptr 3 0 0∧F 15=.int .i64 q∧F 16=.int .i64 a∧S.obj 1=some (.row 2 [[.bool false,.nilsl]])∧S.obj 3=some (.row 2 [[.bool true,.sl 2 2 0 m]])∧3 < S.next ∧
  ∃ o:List Val,o.length=m∧o.take a=(startL f.par f.vars).take a∧(∀k,a≤k→k < m→o[k]?=some ⟨1,0⟩)∧S.obj 2=some (.row 2 (els valc o))) (fun a=>q - a) ?_ 0 _ _ ?_
 ·rintro a F S ⟨ha,h2,h3,h15,h16,s1,s3,hn,o,ho,hot,hod,s2⟩
  by_cases hlt:a < q
  ·have e4:=wrapS a (by omega)
   have ham:a < m:=by omega
   simp [h15,h16,hlt]
   simp [h2,h3,h15,h16,s3,xAd ham,s2,hod a (by omega) ham,e4]
   refine ⟨a + 1,by omega,by omega,by omega,by simpa using s1,hn,o.set a ⟨2,0⟩,by simp [ho],?_,fun k hk1 hk2=>?_,by rw [← xAg];rfl⟩
   ·rw [xAn (by omega),hot,xAe (hget a ham),if_pos (by omega)]
   ·rw [yAH (by omega)];exact hod k (by omega) hk2
  ·have:a=q:=by omega
   subst this
   have hoR:o=startL f.par f.vars:=by
    apply yAY
    intro k
    by_cases hk:k < a
    ·have h1:(o.take a)[k]?=((startL f.par f.vars).take a)[k]?:=by rw [hot]
     rw [List.getElem?_take_of_lt hk,List.getElem?_take_of_lt hk] at h1
     exact h1
    ·by_cases hk2:k < m
     ·rw [hod k (by omega) hk2,hget k hk2,if_neg (by omega)]
     ·rw [yAG (by omega),yAG (by omega)]
   subst hoR
   have hra:=readAll (e:=valc) hsl
   simp [h15,h16,h2,h3,s1,s3]
   exact ⟨9,by simp [mapOpt,s2,hra,show ¬ 2=1 from by omega]⟩
 ·simp
  exact ⟨by omega,List.replicate m ⟨1,0⟩,by simp,fun k hk=>by simp [hk],rfl⟩
def Ins.number (i:Ins) (e:Env):Val :=
 if i.kind=0 then ⟨1,wrap32 i.c⟩ else if i.kind=1 then e.get i.a else if i.kind=2 then Val.each i64sub ⟨1,wrap32 0⟩ (e.get i.a) else if i.kind=3 then (e.get i.a).each i64add (e.get i.b) else
 if i.kind=4 then (e.get i.a).each i64sub (e.get i.b) else if i.kind=5 then (e.get i.a).each i64mul (e.get i.b) else ⟨2,0⟩
theorem xI5 (e:Env) (i:Ins):Ret P (gl N) false 144 [encE e,encI i] (encV (i.number e)):=by
 refine Ret.in c144 (by simp) ?_
 simp [k144]
 refine Dra.auto [] mix ?_ ?_
 ·kernel_rfl
 simp [classes]
 refine (xDG e i.a).b (n:=9) (by simp) rfl ?_
 simp
 refine (xDG e i.b).b (n:=9) (by simp) rfl ?_
 simp
 refine (xDf i.kind).use (n:=9) ?_ rfl ?_ <;> simp
 by_cases hk:0≤i.kind∧i.kind < 10
 ·have:i.kind=0 ∨ i.kind=1 ∨ i.kind=2 ∨ i.kind=3 ∨ i.kind=4 ∨ i.kind=5 ∨ i.kind=6 ∨ i.kind=7 ∨ i.kind=8 ∨ i.kind=9:=by omega
  rcases this with h | h | h | h | h | h | h | h | h | h <;> rw [h] <;> simp [kname,kindNames,xDU]
  ·refine (xHA i.c).use (n:=9) ?_ rfl ?_ <;> simp
   exact RK.aggEq (by simp [Ins.number,h]) (by simp [AV.stab])
  ·exact RK.aggEq (by simp [Ins.number,h]) (by simp [AV.stab])
  ·refine (xPp (e.get i.a)).use (n:=9) ?_ rfl ?_ <;> simp
   exact RK.aggEq (by simp [Ins.number,h]) (by simp [AV.stab])
  ·refine (xPn (e.get i.a) (e.get i.b)).use (n:=9) ?_ rfl ?_ <;> simp
   exact RK.aggEq (by simp [Ins.number,h]) (by simp [AV.stab])
  ·refine (xKV (e.get i.a) (e.get i.b)).use (n:=9) ?_ rfl ?_ <;> simp
   exact RK.aggEq (by simp [Ins.number,h]) (by simp [AV.stab])
  ·refine (xPo (e.get i.a) (e.get i.b)).use (n:=9) ?_ rfl ?_ <;> simp
   exact RK.aggEq (by simp [Ins.number,h]) (by simp [AV.stab])
  all_goals exact RK.aggEq (by simp [Ins.number,h]) (by simp [AV.stab])
 ·have e1:kname i.kind=[]:=by rw [kname,if_neg hk]
  have e2:i.number e=⟨2,0⟩:=by simp only [Ins.number];repeat (rw [if_neg (by omega)])
  simp [e1,xDU]
  exact RK.aggEq (by simp [e2]) (by simp [AV.stab])
def Ins.flat (i:Ins) (e:Env):Env:=e.set i.def (i.number e)
theorem xMc (e:Env) (i:Ins) (he:e.small):Ret P (gl N) false 100 [encE e,encI i] (encE (i.flat e)):=by
 refine Ret.in c100 (by simp) ?_
 simp [k100]
 refine Dra.auto [] mix ?_ ?_
 ·kernel_rfl
 simp [classes]
 refine (xCr i).b (n:=9) (by simp [mapOpt]) rfl ?_
 simp
 refine (xI5 e i).b (n:=9) (by simp [mapOpt]) rfl ?_
 simp
 refine (xKd e i.def (i.number e) he).b (n:=9) (by simp [mapOpt]) (by simp [solids,AV.solid]) ?_
 simp
 exact RK.env rfl
theorem Env.set_small {e:Env} (h:e.small) (i:Int) (v:Val):(e.set i v).small:=by
 intro l hl
 cases e with
 | none=>simp [Env.set,Env.own] at hl
 | some m =>
  simp [Env.set,Env.own] at hl
  have:=h m rfl
  have h2:=xDh m 0
  subst hl
  split <;> simp <;> omega
def pastL (e:Env) (l:List Ins):Env:=l.foldl (fun e i=>i.flat e) e
theorem xKe {l:List Ins}:∀{e:Env},e.small→(pastL e l).small:=by
 induction l with
 | nil=>intro e h;exact h
 | cons i l ih=>intro e h;exact ih (Env.set_small h _ _)
theorem xF4 (e:Env) (l:List Ins) (v:AV) (hv:FSl insc 11 v l) (hl:l.length < 2 ^ 40) (he:e.small):Ret P (gl N) false 62 [encE e,v] (encE (pastL e l)):=by
 refine Ret.in c62 (by simp) ?_
 simp [k62,hv.len]
 refine W.whileI (fun (k:Nat) F S=>k≤l.length∧F 2=.ptr 0 0 0∧F 4=.ptr 1 0 0∧F 7=v∧F 8=.int .i64 l.length∧F 9=.int .i64 k∧S.obj 0=some (.row 2 [envc (pastL e (l.take k))])∧S.obj 1=some (.row 2 [[.bool false,.nilsl]])∧1 < S.next) (fun k=>l.length - k) ?_ 0 _ _ ?_
 ·rintro k F S ⟨hk,h2,h4,h7,h8,h9,s0,s1,hn⟩
  by_cases hlt:k < l.length
  ·obtain ⟨x,hx⟩:∃ x,l[k]?=some x:=⟨_,xgG hlt⟩
   have e4:=wrapS k (by omega)
   have hst:pastL e (l.take (k + 1))=x.flat (pastL e (l.take k)):=by unfold pastL;rw [xAi _ _ _ _ _ hx]
   simp [h8,h9,hlt]
   simp [h7,h9,hv.idx hx,h2,s0,show ¬ 0=S.next by omega]
   refine (xMc (pastL e (l.take k)) x (xKe he)).use (n:=9) (by simp [mapOpt]) (by simp [solids,AV.solid]) ?_
   simp [h2,s0,show ¬ 0=S.next by omega,h4,h7,h8,h9,e4]
   exact ⟨k + 1,by omega,by omega,by omega,by rw [hst],by simp [show ¬ 1=S.next by omega,s1],by omega⟩
  ·have:k=l.length:=by omega
   subst this
   simp [h8,h9,h2,s0,h4,s1]
   exact RK.env rfl
 ·simp [pastL]
theorem xI6 (x y:Val):eqCells (valc x) (valc y)=decide (x=y):=by
 cases x;cases y
 rw [yBU];simp
theorem xEa (xs ys:List Val) (hl:xs.length < 2 ^ 40) (v w:AV) (hv:FSl valc 2 v xs) (hw:FSl valc 2 w ys):Ret P g false 147 [v,w] (.bool (decide (xs=ys))):=by
 refine Ret.in c147 (by simp) ?_
 simp [k147,hv.len,hw.len]
 by_cases hlen:xs.length=ys.length
 ·simp [hlen,hv.len]
  refine W.whileI (fun (k:Nat) F S=>k≤ys.length∧xs.take k=ys.take k∧F 0=v∧F 1=w∧F 12=.int .i64 ys.length∧F 13=.int .i64 k) (fun k=>ys.length - k) ?_ 0 _ _ ?_
  ·rintro k F S ⟨hk,hp,h0,h1,h12,h13⟩
   by_cases hlt:k < ys.length
   ·simp [h12,h13,hlt]
    refine Dra.auto [] mix ?_ ?_
    ·kernel_rfl
    obtain ⟨y,hy⟩:∃ y,ys[k]?=some y:=⟨_,xgG (by omega)⟩
    obtain ⟨x,hx⟩:∃ x,xs[k]?=some x:=⟨_,xgG (by omega)⟩
    have e4:=wrapS k (by omega)
    have hc:=xI6 x y
    simp at hc
    simp [classes,h0,h1,h12,h13,hv.idx hx,hw.idx hy,hc]
    refine xFh (fun hxy=>?_) (fun hxy=>?_)
    ·simp [hxy]
     refine RK.eq ?_ rfl
     have:xs ≠ ys:=by rintro rfl;rw [hx] at hy;simp at hy;exact hxy hy
     simp [this]
    ·simp [hxy,e4,h13,h12,h0,h1]
     refine ⟨k + 1,by omega,by omega,?_,by omega⟩
     rw [yBV,yBV,hp,hx,hy]
     have:x=y:=hxy
     subst this;rfl
   ·have:k=ys.length:=by omega
    subst this
    simp [h12,h13]
    refine RK.eq ?_ rfl
    rw [yAV,← hlen,yAV] at hp
    simp [hp]
  ·simp
 ·have hne:xs ≠ ys:=fun h=>hlen (by rw [h])
  have hlen':¬ ((xs.length:Int)=ys.length):=by omega
  simp [hlen']
  exact RK.eq (by simp [hne]) rfl
theorem xKf (a b:Env) (ha:a.small):Ret P g false 103 [encE a,encE b] (.bool (decide (a=b))):=by
 refine Ret.in c103 (by simp) ?_
 simp [k103]
 cases a with
 | none =>
  cases b with
  | none =>
   simp
   refine (xEa [] [] (by simp) .nilsl .nilsl .nil .nil).use (n:=9) ?_ rfl ?_ <;> simp
   exact RK.eq rfl rfl
  | some m =>
   simp
   exact RK.eq rfl rfl
 | some l =>
  have hl:=ha l rfl
  cases b with
  | none =>
   simp
   exact RK.eq rfl rfl
  | some m =>
   simp
   refine (xEa l m (by omega) _ _ .mk .mk).use (n:=9) ?_ rfl ?_ <;> simp
   exact RK.eq rfl rfl
end Go.Proofs.YtnhfofmhkfdpgaaGreatDoor.Vm
namespace Go.Proofs.YtnhfofmhkfdpgaaGreatDoor.Vm
open Go Go.RowKit
theorem Val.cases {v:Val} (h:v.ok=true):v=⟨0,0⟩ ∨ v=⟨2,0⟩ ∨ ∃ c,v=⟨1,c⟩:=by
 obtain ⟨k,c⟩:=v
 unfold Val.ok at h
 simp only at h
 split at h
 ·rename_i hk;subst hk;exact .inr (.inr ⟨c,rfl⟩)
 ·split at h
  ·rename_i h1 hk
   simp only [decide_eq_true_eq] at h
   subst h
   rcases hk with rfl | rfl
   ·exact .inl rfl
   ·exact .inr (.inl rfl)
  ·cases h
theorem Val.join_of {a b:Val} (ha:a.ok=true) (hb:b.ok=true):a.join b=if a.k=0 ∨ a=b then b else if b.k=0 then a else ⟨2,0⟩:=by
 unfold Val.join;rw [Val.sane_of ha,Val.sane_of hb]
def Val.le (a b:Val):Prop:=a.k=0 ∨ b.k=2 ∨ a=b
theorem Val.le_refl (a:Val):a.le a:=.inr (.inr rfl)
theorem Val.ok_top {v:Val} (h:v.ok=true) (hk:v.k=2):v=⟨2,0⟩:=by
 rcases Val.cases h with rfl | rfl | ⟨c,rfl⟩
 ·cases hk
 ·rfl
 ·cases hk
theorem Val.le_trans {a b c:Val} (hb:b.ok=true) (h1:a.le b) (h2:b.le c):a.le c:=by
 rcases h1 with h1 | h1 | h1
 ·exact .inl h1
 ·rcases h2 with h2 | h2 | h2
  ·rw [h1] at h2;cases h2
  ·exact .inr (.inl h2)
  ·rw [← h2];exact .inr (.inl h1)
 ·rw [h1];exact h2
theorem Val.le_anti {a b:Val} (ha:a.ok=true) (hb:b.ok=true) (h1:a.le b) (h2:b.le a):a=b:=by
 rcases h1 with h1 | h1 | h1
 ·rcases h2 with h2 | h2 | h2
  ·rw [Val.ok_bot ha h1,Val.ok_bot hb h2]
  ·rw [h1] at h2;cases h2
  ·exact h2.symm
 ·rcases h2 with h2 | h2 | h2
  ·rw [h1] at h2;cases h2
  ·rw [Val.ok_top ha h2,Val.ok_top hb h1]
  ·exact h2.symm
 ·exact h1
theorem Val.join_ok' (a b:Val):(a.join b).ok=true:=by
 unfold Val.join
 split
 ·exact b.sane_ok
 ·split
  ·exact a.sane_ok
  ·rfl
theorem Val.le_join_l {a b:Val} (ha:a.ok=true) (hb:b.ok=true):a.le (a.join b):=by
 rw [Val.join_of ha hb]
 split
 ·rename_i h
  rcases h with h | h
  ·exact .inl h
  ·exact .inr (.inr h)
 ·split
  ·exact Val.le_refl a
  ·exact .inr (.inl rfl)
theorem Val.le_join_r {a b:Val} (ha:a.ok=true) (hb:b.ok=true):b.le (a.join b):=by
 rw [Val.join_of ha hb]
 split
 ·exact Val.le_refl b
 ·split
  ·rename_i h;exact .inl h
  ·exact .inr (.inl rfl)
theorem Val.join_le {a b c:Val} (ha:a.ok=true) (hb:b.ok=true) (hc:c.ok=true) (h1:a.le c) (h2:b.le c):(a.join b).le c:=by
 rw [Val.join_of ha hb]
 split
 ·exact h2
 ·split
  ·exact h1
  ·rename_i h3 h4
   rcases h1 with h1 | h1 | h1
   ·exact absurd (.inl h1) h3
   ·exact .inr (.inl h1)
   ·rcases h2 with h2 | h2 | h2
    ·exact absurd h2 h4
    ·exact .inr (.inl h2)
    ·exact absurd (.inr (h1.trans h2.symm)) h3
theorem Val.each_of {op:Int→Int→Int} {a b:Val} (ha:a.ok=true) (hb:b.ok=true):a.each op b=if a.k=0 ∨ b.k=0 then ⟨0,0⟩ else if a.k=2 ∨ b.k=2 then ⟨2,0⟩ else ⟨1,wrap32 (op a.c b.c)⟩:=by
 unfold Val.each;rw [Val.sane_of ha,Val.sane_of hb]
theorem Val.one_ok (n:Int):(⟨1,wrap32 n⟩:Val).ok=true:=by
 have:=xBG n
 simp [Val.ok,this]
theorem Val.each_ok (op:Int→Int→Int) (a b:Val):(a.each op b).ok=true:=by
 unfold Val.each
 split
 ·rfl
 ·split
  ·rfl
  ·exact Val.one_ok _
theorem Val.each_mono {op:Int→Int→Int} {a b a' b':Val} (ha:a.ok=true) (hb:b.ok=true) (ha':a'.ok=true) (hb':b'.ok=true) (h1:a.le a') (h2:b.le b'):(a.each op b).le (a'.each op b'):=by
 have e3:=Val.each_of (op:=op) ha' hb'
 rw [Val.each_of ha hb]
 by_cases h0:a.k=0 ∨ b.k=0
 ·rw [if_pos h0];exact .inl rfl
 ·rw [if_neg h0]
  have n1:a'.k ≠ 0:=by
   intro h
   rcases h1 with h1 | h1 | h1
   ·exact h0 (.inl h1)
   ·rw [h] at h1;cases h1
   ·rw [← h1] at h;exact h0 (.inl h)
  have n2:b'.k ≠ 0:=by
   intro h
   rcases h2 with h2 | h2 | h2
   ·exact h0 (.inr h2)
   ·rw [h] at h2;cases h2
   ·rw [← h2] at h;exact h0 (.inr h)
  rw [if_neg (fun h=>h.elim n1 n2)] at e3
  by_cases h3:a'.k=2 ∨ b'.k=2
  ·rw [if_pos h3] at e3
   rw [e3];exact .inr (.inl rfl)
  ·rw [if_neg h3] at e3
   rw [e3]
   have e1:a=a':=by
    rcases h1 with h1 | h1 | h1
    ·exact absurd (.inl h1) h0
    ·exact absurd (.inl h1) h3
    ·exact h1
   have e2:b=b':=by
    rcases h2 with h2 | h2 | h2
    ·exact absurd (.inr h2) h0
    ·exact absurd (.inr h2) h3
    ·exact h2
   subst e1;subst e2
   rw [if_neg h3]
   exact Val.le_refl _
theorem Val.le_k {a b:Val} (ha:a.ok=true) (hb:b.ok=true) (h:a.le b):a.k.toNat≤b.k.toNat∧(a ≠ b→a.k.toNat < b.k.toNat)∧b.k.toNat≤2:=by
 rcases Val.cases ha with rfl | rfl | ⟨c,rfl⟩ <;> rcases Val.cases hb with rfl | rfl | ⟨d,rfl⟩ <;> simp [Val.le] at h ⊢
 exact h
def okL (l:List Val):Prop:=∀v ∈ l,v.ok=true
theorem xCk {l:List Val} (h:okL l) {k:Nat} {v:Val} (hv:l[k]?=some v):getL l (k:Int)=v:=by
 have hk:=(xgS hv).1
 unfold getL
 rw [if_pos (by omega)]
 simp only [yAs,yAA,hv,Option.getD_some]
 exact Val.sane_of (h v (xmG hv))
theorem xKg (l:List Val) (i:Int):(getL l i).ok=true:=by
 unfold getL
 split
 ·exact Val.sane_ok _
 ·rfl
theorem xRs {l:List Val} (h:okL l):ownL l 0=l:=by
 apply yAY
 intro k
 by_cases hk:k < l.length
 ·obtain ⟨v,hv⟩:∃ v,l[k]?=some v:=⟨_,xgG hk⟩
  rw [xI2 l 0 (by omega),xCk h hv,hv]
 ·rw [yAG (by rw [xDh];omega),yAG (by omega)]
def leL (l m:List Val):Prop:=∀(k:Nat) (a b:Val),l[k]?=some a→m[k]?=some b→a.le b
theorem xNU {l m:List Val} (hl:okL l) (hm:okL m) (hn:l.length=m.length) (h:leL l m) (i:Int):(getL l i).le (getL m i):=by
 by_cases hi:0≤i∧i < l.length
 ·obtain ⟨k,rfl⟩:∃ k:Nat,i=(k:Int):=⟨i.toNat,by omega⟩
  obtain ⟨a,ha⟩:∃ v,l[k]?=some v:=⟨_,xgG (by omega)⟩
  obtain ⟨b,hb⟩:∃ v,m[k]?=some v:=⟨_,xgG (by omega)⟩
  rw [xCk hl ha,xCk hm hb]
  exact h k a b ha hb
 ·have e:getL l i=Val.zero:=by unfold getL;rw [if_neg hi]
  rw [e];exact .inl rfl
def Env.fit (n:Nat) (e:Env):Prop:=∀l,e=some l→l.length=n∧okL l
def Env.le (a b:Env):Prop:=∀l,a=some l→∃ m,b=some m∧leL l m
theorem Env.fit_none (n:Nat):Env.fit n none:=fun l h=>by cases h
theorem Env.fit_some {n:Nat} {l:List Val} (h1:l.length=n) (h2:okL l):Env.fit n (some l):=fun m h=>by cases h;exact ⟨h1,h2⟩
theorem Env.fit.small {n:Nat} {e:Env} (h:e.fit n) (hn:n < 2 ^ 20):e.small:=fun l hl=>by have:=(h l hl).1;omega
theorem Env.own_of {n:Nat} {e:Env} (h:e.fit n):e.own=e:=by
 cases e with
 | none=>rfl
 | some l=>simp [Env.own,xRs (h l rfl).2]
theorem Env.le_refl (e:Env):e.le e:=fun l h=>⟨l,h,fun k a b ha hb=>by rw [ha] at hb;cases hb;exact Val.le_refl a⟩
theorem Env.le_none (e:Env):Env.le none e:=fun l h=>by cases h
theorem Env.le_trans {n:Nat} {a b c:Env} (hb:b.fit n) (hc:c.fit n) (h1:a.le b) (h2:b.le c) (ha:a.fit n):a.le c:=by
 intro l hl
 obtain ⟨m,hm,h3⟩:=h1 l hl
 obtain ⟨q,hq,h4⟩:=h2 m hm
 refine ⟨q,hq,fun k x z hx hz=>?_⟩
 have hk:=(xgS hx).1
 have e1:=(ha l hl).1
 have e2:=(hb m hm).1
 obtain ⟨y,hy⟩:∃ v,m[k]?=some v:=⟨_,xgG (by omega)⟩
 exact Val.le_trans ((hb m hm).2 y (xmG hy)) (h3 k x y hx hy) (h4 k y z hy hz)
theorem Env.le_anti {n:Nat} {a b:Env} (ha:a.fit n) (hb:b.fit n) (h1:a.le b) (h2:b.le a):a=b:=by
 cases a with
 | none =>
  cases b with
  | none=>rfl
  | some m=>obtain ⟨l,hl,_⟩:=h2 m rfl;cases hl
 | some l =>
  obtain ⟨m,hm,h3⟩:=h1 l rfl
  subst hm
  obtain ⟨l',hl',h4⟩:=h2 m rfl
  cases hl'
  congr 1
  have e1:=(ha l rfl).1
  have e2:=(hb m rfl).1
  apply yAY
  intro k
  by_cases hk:k < n
  ·obtain ⟨x,hx⟩:∃ v,l[k]?=some v:=⟨_,xgG (by omega)⟩
   obtain ⟨y,hy⟩:∃ v,m[k]?=some v:=⟨_,xgG (by omega)⟩
   rw [hx,hy,Val.le_anti ((ha l rfl).2 x (xmG hx)) ((hb m rfl).2 y (xmG hy)) (h3 k x y hx hy) (h4 k y x hy hx)]
  ·rw [yAG (by omega),yAG (by omega)]
theorem xF5 {l m:List Val} {n:Nat} (hl:l.length=n) (hm:m.length=n) {k:Nat} (hk:k < n):(joinL l m)[k]?=some ((getL l k).join (getL m k)):=by
 simp [joinL,hl,hm,hk]
theorem Env.join_fit {n:Nat} {a b:Env} (ha:a.fit n) (hb:b.fit n):(a.join b).fit n:=by
 cases a with
 | none=>show Env.fit n b.own;rw [Env.own_of hb];exact hb
 | some l =>
  cases b with
  | none=>show Env.fit n (Env.own (some l));rw [Env.own_of ha];exact ha
  | some m =>
   refine Env.fit_some ?_ fun v hv=>?_
   ·simp [joinL,(ha l rfl).1,(hb m rfl).1]
   ·simp only [joinL,yAU] at hv
    obtain ⟨k,_,rfl⟩:=hv
    exact Val.join_ok' _ _
theorem Env.le_join_l {n:Nat} {a b:Env} (ha:a.fit n) (hb:b.fit n):a.le (a.join b):=by
 cases a with
 | none=>exact Env.le_none _
 | some l =>
  cases b with
  | none=>show Env.le (some l) (Env.own (some l));rw [Env.own_of ha];exact Env.le_refl _
  | some m =>
   intro l' hl'
   cases hl'
   refine ⟨joinL l m,rfl,fun k x z hx hz=>?_⟩
   have hk:=(xgS hx).1
   rw [xF5 (ha l rfl).1 (hb m rfl).1 (by have:=(ha l rfl).1;omega),xCk (ha l rfl).2 hx] at hz
   cases hz
   exact Val.le_join_l ((ha l rfl).2 x (xmG hx)) (xKg _ _)
theorem Env.le_join_r {n:Nat} {a b:Env} (ha:a.fit n) (hb:b.fit n):b.le (a.join b):=by
 cases a with
 | none=>show Env.le b b.own;rw [Env.own_of hb];exact Env.le_refl _
 | some l =>
  cases b with
  | none=>exact Env.le_none _
  | some m =>
   intro l' hl'
   cases hl'
   refine ⟨joinL l m,rfl,fun k x z hx hz=>?_⟩
   have hk:=(xgS hx).1
   rw [xF5 (ha l rfl).1 (hb m rfl).1 (by have:=(hb m rfl).1;omega),xCk (hb m rfl).2 hx] at hz
   cases hz
   exact Val.le_join_r (xKg _ _) ((hb m rfl).2 x (xmG hx))
theorem Env.join_le {n:Nat} {a b c:Env} (ha:a.fit n) (hb:b.fit n) (hc:c.fit n) (h1:a.le c) (h2:b.le c):(a.join b).le c:=by
 cases a with
 | none=>show Env.le b.own c;rw [Env.own_of hb];exact h2
 | some l =>
  cases b with
  | none=>show Env.le (Env.own (some l)) c;rw [Env.own_of ha];exact h1
  | some m =>
   intro l' hl'
   cases hl'
   obtain ⟨q,hq,h3⟩:=h1 l rfl
   obtain ⟨q',hq',h4⟩:=h2 m rfl
   rw [hq] at hq';cases hq'
   refine ⟨q,hq,fun k x z hx hz=>?_⟩
   have hk:=(xgS hz).1
   have e1:=(ha l rfl).1
   have e2:=(hb m rfl).1
   have e3:=(hc q hq).1
   obtain ⟨u,hu⟩:∃ v,l[k]?=some v:=⟨_,xgG (by omega)⟩
   obtain ⟨v,hv⟩:∃ v,m[k]?=some v:=⟨_,xgG (by omega)⟩
   rw [xF5 e1 e2 (by omega),xCk (ha l rfl).2 hu,xCk (hb m rfl).2 hv] at hx
   cases hx
   exact Val.join_le ((ha l rfl).2 u (xmG hu)) ((hb m rfl).2 v (xmG hv)) ((hc q hq).2 z (xmG hz)) (h3 k u z hu hz) (h4 k v z hv hz)
theorem Env.join_mono {n:Nat} {a b a' b':Env} (ha:a.fit n) (hb:b.fit n) (ha':a'.fit n) (hb':b'.fit n) (h1:a.le a') (h2:b.le b'):(a.join b).le (a'.join b') :=
 Env.join_le ha hb (Env.join_fit ha' hb') (Env.le_trans ha' (Env.join_fit ha' hb') h1 (Env.le_join_l ha' hb') ha) (Env.le_trans hb' (Env.join_fit ha' hb') h2 (Env.le_join_r ha' hb') hb)
theorem Env.get_ok (e:Env) (i:Int):(e.get i).ok=true:=by
 cases e with
 | none=>rfl
 | some l=>exact xKg l i
theorem Env.get_mono {n:Nat} {a b:Env} (ha:a.fit n) (hb:b.fit n) (h:a.le b) (i:Int):(a.get i).le (b.get i):=by
 cases a with
 | none=>exact .inl rfl
 | some l =>
  obtain ⟨m,hm,h3⟩:=h l rfl
  subst hm
  exact xNU (ha l rfl).2 (hb m rfl).2 (by rw [(ha l rfl).1,(hb m rfl).1]) h3 i
theorem Env.set_of {n:Nat} {l:List Val} (h:Env.fit n (some l)) (i:Int) {v:Val} (hv:v.ok=true):Env.set (some l) i v=some (if 0≤i∧i < n then l.set i.toNat v else l):=by
 show Option.map _ (Env.own (some l))=_
 rw [Env.own_of h]
 simp [Val.sane_of hv,(h l rfl).1]
theorem Env.set_fit {n:Nat} {e:Env} (h:e.fit n) (i:Int) {v:Val} (hv:v.ok=true):(e.set i v).fit n:=by
 cases e with
 | none=>exact Env.fit_none n
 | some l =>
  rw [Env.set_of h i hv]
  refine Env.fit_some ?_ fun u hu=>?_
  ·split <;> simp [(h l rfl).1]
  ·split at hu
   ·rcases yAP hu with h1 | h1
    ·exact (h l rfl).2 u h1
    ·rw [h1];exact hv
   ·exact (h l rfl).2 u hu
theorem Env.set_mono {n:Nat} {a b:Env} (ha:a.fit n) (hb:b.fit n) (h:a.le b) (i:Int) {u v:Val} (hu:u.ok=true) (hv:v.ok=true) (huv:u.le v):(a.set i u).le (b.set i v):=by
 cases a with
 | none=>exact Env.le_none _
 | some l =>
  obtain ⟨m,hm,h3⟩:=h l rfl
  subst hm
  rw [Env.set_of ha i hu,Env.set_of hb i hv]
  intro l' hl'
  cases hl'
  refine ⟨_,rfl,fun k x y hx hy=>?_⟩
  by_cases hi:0≤i∧i < n
  ·rw [if_pos hi] at hx hy
   by_cases hk:k=i.toNat
   ·subst hk
    rw [yAF (by rw [(ha l rfl).1];omega)] at hx
    rw [yAF (by rw [(hb m rfl).1];omega)] at hy
    cases hx;cases hy;exact huv
   ·rw [yAH (Ne.symm hk)] at hx hy
    exact h3 k x y hx hy
  ·rw [if_neg hi] at hx hy
   exact h3 k x y hx hy
theorem Ins.number_ok (i:Ins) (e:Env):(i.number e).ok=true:=by
 unfold Ins.number
 repeat' split
 all_goals first | exact Val.one_ok _ | exact Env.get_ok _ _ | exact Val.each_ok _ _ _ | rfl
theorem Ins.number_mono {n:Nat} {a b:Env} (ha:a.fit n) (hb:b.fit n) (h:a.le b) (i:Ins):(i.number a).le (i.number b):=by
 have g1:=Env.get_mono ha hb h i.a
 have g2:=Env.get_mono ha hb h i.b
 have o1:=Env.get_ok a i.a
 have o2:=Env.get_ok a i.b
 have o3:=Env.get_ok b i.a
 have o4:=Env.get_ok b i.b
 unfold Ins.number
 repeat' split
 all_goals first | exact Val.le_refl _ | exact g1 | exact Val.each_mono (Val.one_ok _) o1 (Val.one_ok _) o3 (Val.le_refl _) g1 | exact Val.each_mono o1 o2 o3 o4 g1 g2
theorem Ins.flat_fit {n:Nat} {e:Env} (h:e.fit n) (i:Ins):(i.flat e).fit n:=Env.set_fit h _ (i.number_ok e)
theorem Ins.flat_mono {n:Nat} {a b:Env} (ha:a.fit n) (hb:b.fit n) (h:a.le b) (i:Ins):(i.flat a).le (i.flat b):=Env.set_mono ha hb h _ (i.number_ok a) (i.number_ok b) (i.number_mono ha hb h)
theorem xB4 {n:Nat} {l:List Ins}:∀{e:Env},e.fit n→(pastL e l).fit n:=by
 induction l with
 | nil=>intro e h;exact h
 | cons i l ih=>intro e h;exact ih (i.flat_fit h)
theorem xMd {n:Nat} {l:List Ins}:∀{a b:Env},a.fit n→b.fit n→a.le b→(pastL a l).le (pastL b l):=by
 induction l with
 | nil=>intro a b _ _ h;exact h
 | cons i l ih=>intro a b ha hb h;exact ih (i.flat_fit ha) (i.flat_fit hb) (i.flat_mono ha hb h)
theorem xI7 (par vars:Int):okL (startL par vars):=by
 intro v hv
 simp only [startL,yAU] at hv
 obtain ⟨k,_,rfl⟩:=hv
 split <;> rfl
def Env.ht:Env→Nat
 | none=>0
 | some l=>1 + (l.map fun v:Val=>v.k.toNat).sum
theorem htL {l m:List Val} (hl:okL l) (hm:okL m) (hn:l.length=m.length) (h:leL l m):(l.map fun v:Val=>v.k.toNat).sum≤(m.map fun v:Val=>v.k.toNat).sum∧(l ≠ m→(l.map fun v:Val=>v.k.toNat).sum < (m.map fun v:Val=>v.k.toNat).sum)∧(m.map fun v:Val=>v.k.toNat).sum≤2 * m.length:=by
 induction l generalizing m with
 | nil =>
  cases m with
  | nil=>simp
  | cons b m=>simp at hn
 | cons a l ih =>
  cases m with
  | nil=>simp at hn
  | cons b m =>
   obtain ⟨h1,h2,h3⟩:=ih (m:=m) (fun v hv=>hl v (by simp [hv])) (fun v hv=>hm v (by simp [hv])) (by simpa using hn) fun k x y hx hy=>h (k + 1) x y (by simpa using hx) (by simpa using hy)
   obtain ⟨g1,g2,g3⟩:=Val.le_k (hl a (by simp)) (hm b (by simp)) (h 0 a b rfl rfl)
   simp only [yAu,List.sum_cons,yAh]
   refine ⟨by omega,fun hne=>?_,by omega⟩
   by_cases hab:a=b
   ·have:l ≠ m:=fun e=>hne (by rw [hab,e])
    have:=h2 this
    omega
   ·have:=g2 hab
    omega
end Go.Proofs.YtnhfofmhkfdpgaaGreatDoor.Vm
namespace Go.Proofs.YtnhfofmhkfdpgaaGreatDoor.Vm
open Go Go.RowKit
set_option maxRecDepth 100000
variable {N:Nat} {g:Glob}
noncomputable def runCode (z:AV):VCode:=zs (zr [zk 10 0]) (zs (zr [zm 24 0,zc1 25 118 24,zm 11 25]) (zs (zr [zm 26 0,zn 27 26,⟨some 28,.sk (.makeSlice [.bool false] 1 1) [.t 27,.t 27],none⟩,zm 12 28]) (zs (zs (zr [zm 29 1,zn 30 29,zk 31 0]) (.block 0 (.loop (zs (zr [zt 32 31 30]) (zs (.cond (.t 32) .skip (.exit 0)) (zs (.block 1 (zs (zr [zi 33 1 29 31,zl 34 1 33,zm 14 34]) (zs (zr [zm 35 14,⟨some 36,.pk (.ibin .geq) [.t 35,.c (.int .i64 0)],none⟩,zm 37 36,zg true 37 (zm 38 14),zg true 37 (zm 39 0),zg true 37 (zn 40 39),zg true 37 (zt 41 38 40),zu 42 37 41]) (.cond (.t 42) (zr [zm 43 12,zm 44 14,zi 45 1 43 44,⟨none,.sk (.store 1) [.t 45,.c (.bool true)],none⟩]) .skip)))) (zr [zp 46 31,zm 31 46]))))))) (zs (zr [zm 47 11,⟨some 48,.callF 120 [.t 47,.c (.int .i64 0)],none⟩,zc1 49 119 48,zm 15 49]) (zs (zs (zr [zm 50 12,zn 51 50,zk 52 0]) (.block 2 (.loop (zs (zr [zt 53 52 51]) (zs (.cond (.t 53) .skip (.exit 2)) (zs (.block 3 (zs (zr [zm 54 52,zi 55 1 50 52,zl 56 1 55,zm 16 54,zm 17 56]) (zs (zr [zm 57 17]) (.cond (.t 57) (zr [zm 58 15,zm 59 16,zc2 60 121 58 59]) .skip)))) (zr [zp 61 52,zm 52 61]))))))) (zs (zr [zk 18 0]) (zs (zs (zr [zm 63 15,zc1 64 122 63,zm 62 64,ze 65 0 62,ze 66 1 62,zm 19 65,zm 20 66]) (.block 4 (.loop (zs (zs (zr [zm 67 20]) (.cond (.t 67) .skip (.exit 4))) (zs (.block 5 (zs (zr [zm 73 18,zp 74 73,zm 18 74]) (zs (zr [zm 75 2,zm 76 19,zi 77 2 75 76,zL 78 2 77,⟨some 21,.sk (.alloc [z,.nilsl]) [],none⟩,zw 2 21 78]) (zs (zr [zm 79 2,zm 80 19,zm 81 3,zm 82 19,zm 83 2,⟨some 84,.callV (.t 81) [.t 82,.t 83],none⟩,zi 85 2 79 80,zw 2 85 84]) (zs (zs (.region true [zm 86 4,zL 87 2 21,zm 88 2,zm 89 19,zi 90 2 88 89,zL 91 2 90,⟨some 92,.callV (.t 86) [.t 87,.t 91],none⟩] [[],[],[],[],[2,3],[4],[0,1,5]]) (.cond (.t 92) (.exit 5) .skip)) (zs (zr [zm 93 11,zm 94 19,zi 95 1 93 94,zl 96 1 95,zn 97 96,zk 98 0]) (.block 6 (.loop (zs (zr [zt 99 98 97]) (zs (.cond (.t 99) .skip (.exit 6)) (zs (.block 7 (zs (zr [zi 100 1 96 98,zl 101 1 100,zm 23 101]) (zs (zr [zm 102 12,zm 103 23,zi 104 1 102 103,zl 105 1 104]) (.cond (.t 105) (zr [zm 106 15,zm 107 23,zc2 108 121 106 107]) .skip)))) (zr [zp 109 98,zm 98 109])))))))))))) (zr [zm 69 15,zc1 70 122 69,zm 68 70,ze 71 0 68,ze 72 1 68,zm 19 71,zm 20 72])))))) (zs (zr [zm 110 18,zm 10 110]) .ret))))))))
structure El (α:Type) where
 c1:α→AV
 c2:α→AV
 o1:∀a,(c1 a).one=true
 o2:∀a,(c2 a).one=true
 s1:∀a,(c1 a).stab=true
 s2:∀a,(c2 a).stab=true
 d1:∀a,(c1 a).solid=true
 d2:∀a,(c2 a).solid=true
def El.e {α:Type} (E:El α) (a:α):List AV:=[E.c1 a,E.c2 a]
section
variable {α:Type} {E:El α} {Y:Sys α}
structure GRun (Y:Sys α) (E:El α) (o ib B:Nat) (x:List α) (h:List Nat) (t:Option Nat) (S0 S:St) (W:Nat):Prop where
 ex:∃ ord A I H ho ov,Wo Y.n ord S W A I H ho ov h∧B≤A∧B≤I∧B≤H∧B≤ho∧Y.Mid x (fun j=>todo ord h j ∨ t=some j)∧(t=none→∀j,¬ todo ord h j)
 ti:∀i,t=some i→i < Y.n
 row:S.obj o=some (.row 2 (els E.e x))
 inn:S.obj ib=some (.row 1 (els boolc (List.replicate Y.n true)))
 lt:o < ib∧ib < B∧B≤S.next∧B≤W
 keep:∀q,q < ib→q ≠ o→S.obj q=S0.obj q
def GPut (Y:Sys α) (E:El α) (o ib B:Nat) (x:List α) (ord:List Nat) (W A I H:Nat) (ov:AV) (D:Nat→Nat→Prop) (a:Nat) (S0 S:St):Prop:=∃ ho h,Wo Y.n ord S W A I H ho ov h∧B≤ho∧(∀j,todo ord h j ↔ D a j)∧S.obj o=some (.row 2 (els E.e x)) ∧
 S.obj ib=some (.row 1 (els boolc (List.replicate Y.n true)))∧B≤S.next∧∀q,q < ib→q ≠ o→S.obj q=S0.obj q
theorem xEb {o ib B:Nat} {I H ho ho':Nat} {S0 S S':St} (hf:WoF S S' I H ho) (hho:ho'=ho ∨ S.next≤ho') (hB:o < ib∧ib < B∧B≤S.next) (hI:B≤I) (hH:B≤H) (hh:B≤ho) (keep:∀q,q < ib→q ≠ o→S.obj q=S0.obj q) :
  S'.obj o=S.obj o∧S'.obj ib=S.obj ib∧B≤ho'∧(∀q,q < ib→q ≠ o→S'.obj q=S0.obj q):=by
 have hq:∀q,q < B→S'.obj q=S.obj q:=fun q hq=>hf.2 q (by omega) (by omega) (by omega) (by omega)
 exact ⟨hq o (by omega),hq ib (by omega),by omega,fun q h1 h2=>by rw [hq q (by omega)];exact keep q h1 h2⟩
structure GEv (g:Glob) (Y:Sys α) (E:El α) (evV:AV) (fs:Nat) (o:Nat) (S0:St):Prop where
 ev:∀(S:St) (x:List α) (i:Nat) (K:AV→St→Prop),Y.Fit x→i < Y.n→S0.next≤S.next→S.obj o=some (.row 2 (els E.e x))→(∀q,q < S0.next→q ≠ o→S.obj q=S0.obj q)→(∀S',Up S S'→K (.agg (E.e (Y.ev x i))) S')→CalV P g evV [.int .i64 (i:Int),.sl 2 o 0 Y.n] S K
 same:∀a b,Y.ok a→Y.ok b→∃ t:Bool,(t=true ↔ a=b)∧Ret P g false fs [.agg (E.e a),.agg (E.e b)] (.bool t)
end
end Go.Proofs.YtnhfofmhkfdpgaaGreatDoor.Vm
namespace Go.Proofs.YtnhfofmhkfdpgaaGreatDoor.Vm
open Go Go.RowKit
variable {N:Nat} {g:Glob}
def Fun.outs (f:Fun) (k:Nat):List Int:=(f.blks[k]?.map Blk.out).getD []
def Fun.code (f:Fun) (k:Nat):List Ins:=(f.blks[k]?.map Blk.ins).getD []
def Fun.predsTo (f:Fun) (b:Int) (k:Nat):List Int:=((List.range k).filter fun j=>decide (b ∈ f.outs j)).map fun j:Nat=>(j:Int)
def Fun.preds (f:Fun) (b:Int):List Int:=f.predsTo b f.blks.length
theorem Fun.predsTo_succ {f:Fun} {b:Int} {k:Nat} {x:Blk} (hx:f.blks[k]?=some x):f.predsTo b (k + 1)=f.predsTo b k ++ if b ∈ x.out then [(k:Int)] else []:=by
 have e:f.outs k=x.out:=by simp [Fun.outs,hx]
 unfold Fun.predsTo
 rw [yAo,List.filter_append,List.map_append]
 congr 1
 by_cases h:b ∈ x.out <;> simp [e,h]
theorem Fun.predsTo_len (f:Fun) (b:Int) (k:Nat):(f.predsTo b k).length≤k:=by
 unfold Fun.predsTo
 have:=yAb (fun j=>decide (b ∈ f.outs j)) (List.range k)
 simpa using this
theorem Fun.preds_mem {f:Fun} {b j:Int}:j ∈ f.preds b ↔ ∃ k x,j=((k:Nat):Int)∧f.blks[k]?=some x∧b ∈ x.out:=by
 unfold Fun.preds Fun.predsTo
 simp only [yAU,yAp,yAg,decide_eq_true_eq]
 constructor
 ·rintro ⟨k,⟨hk,hb⟩,rfl⟩
  refine ⟨k,f.blks[k],rfl,xgG hk,?_⟩
  simpa [Fun.outs,xgG hk] using hb
 ·rintro ⟨k,x,rfl,hx,hb⟩
  exact ⟨k,⟨(xgS hx).1,by simpa [Fun.outs,hx] using hb⟩,rfl⟩
noncomputable def Prg.preds (p:Prg) (i b:Int):List Int:=((p.fn i).getD Fun.none).preds b
theorem xED (p:Prg) (i b:Int) (hp:p.Fit):OwnL P (gl N) intc 1 19 [encP p,.int .i64 i,.int .i64 b] (p.preds i b):=by
 refine OwnL.in c19 (by simp) ?_
 simp [k19]
 refine (xD2 p i hp).use (n:=9) (by simp [mapOpt,xAc p.funsS.stab]) (by simp [solids,AV.solid,p.funsS.solid]) ?_
 have hsm:((p.fn i).getD Fun.none).Small:=by
  cases h:p.fn i with
  | none=>exact ⟨by simp,fun b hb=>by simp at hb,fun b hb=>by simp at hb⟩
  | some f=>exact xK2 hp h
 have h12:((p.fn i).getD Fun.none).blks.length≤12:=by
  cases h:p.fn i with
  | none=>simp
  | some f=>exact (xRn h).len.2
 have hpr:p.preds i b=((p.fn i).getD Fun.none).preds b:=rfl
 rw [hpr]
 generalize (p.fn i).getD Fun.none=f at *
 simp
 refine W.whileI (fun (k:Nat) F S=>k≤f.blks.length∧F 2=.int .i64 b∧F 19=f.blksV∧F 20=.int .i64 f.blks.length∧F 21=.int .i64 k∧Has intc 1 S (F 9) (f.predsTo b k)∧Bel S (F 9)) (fun k=>f.blks.length - k) ?_ 0 _ _ ?_
 ·rintro k F S ⟨hk,h2,h19,h20,h21,h9,hb9⟩
  by_cases hlt:k < f.blks.length
  ·obtain ⟨y,hy⟩:∃ y,f.blks[k]?=some y:=⟨_,xgG hlt⟩
   have hbl:=hsm.blks
   have e4:=wrapS k (by omega)
   have hst:=Fun.predsTo_succ (b:=b) hy
   have hpl:=f.predsTo_len b k
   have hol:y.out.length < 2 ^ 40:=by have:=hsm.out y (xmG hy);omega
   simp [h20,h21,hlt]
   simp [h19,h21,f.blksS.idx hy,h2]
   refine (xB2 (g:=gl N) y.out b y.outV y.outS hol).use (n:=9) (by simp [mapOpt]) rfl ?_
   generalize hS1:(S.new (.row 3 [[.bool false,.nilsl,.nilsl]])).set S.next (.row 3 [[.bool y.on,y.insV,y.outV]])=S1
   have hn1:S1.next=S.next + 1:=by rw [← hS1];simp
   have h91:Has intc 1 S1 (F 9) (f.predsTo b k):=h9.keep fun q ⟨len,hq⟩=>by
    have:=hb9 _ _ _ hq
    rw [← hS1];simp [show ¬ q=S.next by omega]
   have hb1:Bel S1 (F 9):=hb9.mono (by omega)
   clear hS1
   by_cases hm:b ∈ y.out
   ·simp [hm] at hst ⊢
    refine xBi (e:=intc) (x:=(k:Int)) (h91.new hb1) rfl (by simp [room];omega) ?_
    intro S' hS hnx hoth
    simp [h2,h19,h20,h21,e4]
    exact ⟨k + 1,by omega,by omega,by omega,by rw [hst];simpa using hS,Bel.sl (by rw [hnx];exact Nat.lt_succ_self _)⟩
   ·simp [hm] at hst ⊢
    simp [h2,h19,h20,h21,e4]
    exact ⟨k + 1,by omega,by omega,by omega,by rw [hst];exact h91,hb1⟩
  ·have:k=f.blks.length:=by omega
   subst this
   simp [h20,h21]
   exact h9
 ·simp
  exact ⟨.nil,Bel.nil⟩
def Fun.start (f:Fun):Env:=some (startL f.par f.vars)
def Fun.cevTo (f:Fun) (x:List Env) (i:Nat) (m:List Int):Env:=m.foldl (fun e j=>e.join (pastL (x.getD j.toNat Option.none) (f.code j.toNat))) (if i=0 then f.start else Option.none)
def Fun.cev (f:Fun) (x:List Env) (i:Nat):Env:=f.cevTo x i (f.preds i)
theorem xK9 {n:Nat} {h:Int→Env} (hh:∀j,(h j).fit n) (m:List Int):∀{e:Env},e.fit n→(m.foldl (fun e j=>e.join (h j)) e).fit n:=by
 induction m with
 | nil=>intro e he;exact he
 | cons j m ih=>intro e he;exact ih (Env.join_fit he (hh j))
theorem xNV {n:Nat} {h h':Int→Env} (hh:∀j,(h j).fit n) (hh':∀j,(h' j).fit n) (hle:∀j,(h j).le (h' j)) (m:List Int):∀{e e':Env},e.fit n→e'.fit n→e.le e'→(m.foldl (fun e j=>e.join (h j)) e).le (m.foldl (fun e j=>e.join (h' j)) e'):=by
 induction m with
 | nil=>intro e e' _ _ hee;exact hee
 | cons j m ih=>intro e e' he he' hee;exact ih (Env.join_fit he (hh j)) (Env.join_fit he' (hh' j)) (Env.join_mono he (hh j) he' (hh' j) hee (hle j))
theorem xF7 {h h':Int→Env}:∀(m:List Int) (e:Env),(∀j ∈ m,h j=h' j)→m.foldl (fun e j=>e.join (h j)) e=m.foldl (fun e j=>e.join (h' j)) e
 | [],e,_=>rfl
 | j :: m,e,hm=>by
  rw [yAe,yAe,hm j (by simp)]
  exact xF7 m _ fun k hk=>hm k (by simp [hk])
def Fun.wid (f:Fun):Nat:=capN f.vars
theorem Fun.start_fit (f:Fun):f.start.fit f.wid:=Env.fit_some (xEC _ _) (xI7 _ _)
theorem xG1 {n:Nat} {x:List Env} (h:∀e ∈ x,Env.fit n e) (k:Nat):(x.getD k Option.none).fit n:=by
 rw [yAA]
 cases hx:x[k]? with
 | none=>exact Env.fit_none n
 | some e=>exact h e (xmG hx)
theorem Fun.cev_first (f:Fun) (i:Nat):(if i=0 then f.start else Option.none:Env).fit f.wid:=by
 split
 ·exact f.start_fit
 ·exact Env.fit_none _
theorem Fun.cevTo_fit (f:Fun) {x:List Env} (h:∀e ∈ x,Env.fit f.wid e) (i:Nat) (m:List Int):(f.cevTo x i m).fit f.wid :=
 xK9 (fun j=>xB4 (xG1 h _)) _ (f.cev_first i)
theorem Fun.cev_fit (f:Fun) {x:List Env} (h:∀e ∈ x,Env.fit f.wid e) (i:Nat):(f.cev x i).fit f.wid:=f.cevTo_fit h i _
theorem xRu {n:Nat} {x y:List Env} (hl:x.length=y.length) (h:∀(k:Nat) a b,x[k]?=some a→y[k]?=some b→Env.le a b) (k:Nat):(x.getD k Option.none).le (y.getD k Option.none):=by
 rw [yAA,yAA]
 by_cases hk:k < x.length
 ·obtain ⟨a,ha⟩:∃ v,x[k]?=some v:=⟨_,xgG hk⟩
  obtain ⟨b,hb⟩:∃ v,y[k]?=some v:=⟨_,xgG (by omega)⟩
  rw [ha,hb];exact h k a b ha hb
 ·rw [yAG (by omega)];exact Env.le_none _
def Fun.csys (f:Fun):Sys Env where
 n:=f.blks.length
 ev:=f.cev
 rd i:=f.preds i
 ok:=Env.fit f.wid
 le:=Env.le
 bot:=Option.none
 ht:=Env.ht
 top:=1 + 2 * f.wid
 refl a _:=Env.le_refl a
 trans a b c ha hb hc h1 h2:=Env.le_trans hb hc h1 h2 ha
 anti a b ha hb h1 h2:=Env.le_anti ha hb h1 h2
 botOk:=Env.fit_none _
 botLe a _:=Env.le_none a
 htop a ha:=by
  cases a with
  | none=>simp [Env.ht]
  | some l =>
   have h1:=htL (ha l rfl).2 (ha l rfl).2 rfl (fun k a b h1 h2=>by rw [h1] at h2;cases h2;exact Val.le_refl a)
   have h2:=(ha l rfl).1
   simp only [Env.ht]
   omega
 hlt a b ha hb hle hne:=by
  cases a with
  | none =>
   cases b with
   | none=>exact absurd rfl hne
   | some m=>simp only [Env.ht];omega
  | some l =>
   obtain ⟨m,hm,h3⟩:=hle l rfl
   subst hm
   have h1:=htL (ha l rfl).2 (hb m rfl).2 (by rw [(ha l rfl).1,(hb m rfl).1]) h3
   have h2:=h1.2.1 fun e=>hne (by rw [e])
   simp only [Env.ht]
   omega
 evOk x i _ hx _:=f.cev_fit hx i
 mono x y i hx hy hxo hyo hle _:=xNV (fun j=>xB4 (xG1 hxo _)) (fun j=>xB4 (xG1 hyo _)) (fun j=>xMd (xG1 hxo _) (xG1 hyo _) (xRu (n:=f.wid) (by rw [hx,hy]) hle _)) _ (f.cev_first i) (f.cev_first i) (Env.le_refl _)
 dep x i k a hno:=xF7 _ _ fun j hj=>by
  rw [yAA,yAA,yAH (Ne.symm (hno j hj))]
 nn i j hj:=by
  obtain ⟨k,_,rfl,_⟩:=Fun.preds_mem.1 hj
  exact Int.natCast_nonneg k
noncomputable def Fun.cin (f:Fun):List Env:=f.csys.sol
theorem Fun.cin_least (f:Fun):f.csys.Least f.cin:=f.csys.least
theorem Fun.cin_len (f:Fun):f.cin.length=f.blks.length:=f.cin_least.fit.len
theorem Fun.cin_fit (f:Fun) (k:Nat):(f.cin.getD k Option.none).fit f.wid:=xG1 f.cin_least.fit.ok k
theorem Fun.wid_lt (f:Fun):f.wid < 2 ^ 20:=by unfold Fun.wid capN;omega
def envEl:El Env where
 c1 e:=.bool e.isSome
 c2 e:=match e with
  | none=>.nilsl
  | some l=>.fsl 2 (els valc l)
 o1 e:=rfl
 o2 e:=by cases e <;> rfl
 s1 e:=rfl
 s2 e:=by cases e <;> rfl
 d1 e:=rfl
 d2 e:=by cases e <;> rfl
theorem xHW (e:Env):envEl.e e=envc e:=by cases e <;> rfl
theorem xI8 (x:List Env):els envEl.e x=els envc x:=by
 unfold els
 exact yBZ fun e _=>xHW e
end Go.Proofs.YtnhfofmhkfdpgaaGreatDoor.Vm
