/- A part of the proof: Ro Rq Rm Sd Ct Cu. -/
import Derived.Test.YtnhfofmhkfdpgaaGreatDoorQa0
set_option linter.unusedVariables false
set_option linter.unusedSimpArgs false
set_option linter.constructorNameAsVariable false
namespace Go.Proofs.YtnhfofmhkfdpgaaGreatDoor.Vm
open Go Go.RowKit
variable {N:Nat} {g:Glob}
theorem xIQ (n:Int):wrap32 n=(n + 2147483648) % 4294967296 - 2147483648:=by unfold wrap32;rw [IntKind.wrap_i32]
theorem xFZ {n:Int} (h:-2147483648≤n∧n≤2147483647):wrap32 n=n:=by rw [xIQ];omega
theorem xLJ (n:Int):Ret P g false 48 [.int .i64 n] (.int .i64 (wrap32 n)):=by
 refine Ret.in c48 (by simp) ?_
 have hm:(0≤n→n.tmod 4294967296=n % 4294967296)∧(n < 0→n.tmod 4294967296=-((-n) % 4294967296)):=by
  refine ⟨fun h=>Int.tmod_eq_emod_of_nonneg h,fun h=>?_⟩
  have h1:(-n).tmod 4294967296=(-n) % 4294967296:=Int.tmod_eq_emod_of_nonneg (by omega)
  rw [Int.neg_tmod] at h1
  omega
 have hw:=xIQ n
 simp [k48]
 generalize n.tmod 4294967296=m at *
 have hb:-4294967296 < m∧m < 4294967296:=by
  by_cases h:0≤n
  ·have:=hm.1 h;omega
  ·have:=hm.2 (by omega);omega
 refine xAj (fun h1=>?_) (fun h1=>?_)
 ·have e1:IntKind.i64.wrap (m + 4294967296)=m + 4294967296:=xAa (by omega)
  simp [e1]
  refine xAj (fun h2=>?_) (fun h2=>?_)
  ·have e2:IntKind.i64.wrap m=m:=xAa (by omega)
   simp [e2]
   refine RK.eq ?_ rfl
   congr 1
   by_cases h:0≤n
   ·have:=hm.1 h;omega
   ·have:=hm.2 (by omega);omega
  ·simp
   refine RK.eq ?_ rfl
   congr 1
   by_cases h:0≤n
   ·have:=hm.1 h;omega
   ·have:=hm.2 (by omega);omega
 ·simp
  refine xAj (fun h2=>?_) (fun h2=>?_)
  ·have e2:IntKind.i64.wrap (m - 4294967296)=m - 4294967296:=xAa (by omega)
   simp [e2]
   refine RK.eq ?_ rfl
   congr 1
   by_cases h:0≤n
   ·have:=hm.1 h;omega
   ·have:=hm.2 (by omega);omega
  ·simp
   refine RK.eq ?_ rfl
   congr 1
   by_cases h:0≤n
   ·have:=hm.1 h;omega
   ·have:=hm.2 (by omega);omega
def stepV (l:List Int) (x:Ins) (w:Int):Int :=
 if x.kind=0 then x.c else if x.kind=1 then l.getD x.a.toNat 0 else if x.kind=2 then wrap32 (IntKind.i64.wrap (0 - l.getD x.a.toNat 0)) else if x.kind=3 then wrap32 (i64add (l.getD x.a.toNat 0) (l.getD x.b.toNat 0)) else
 if x.kind=4 then wrap32 (i64sub (l.getD x.a.toNat 0) (l.getD x.b.toNat 0)) else if x.kind=5 then wrap32 (i64mul (l.getD x.a.toNat 0) (l.getD x.b.toNat 0)) else wrap32 w
def stepL (l:List Int) (x:Ins) (w:Int):List Int:=if x.def < 0 then l else l.set x.def.toNat (stepV l x w)
theorem RP.ints {S:St} {o k:Nat} {l:List Int} (h:S.obj o=some (.row 1 (els intc l))) (hk:l.length=k):RP (.fsl 1 (els intc l)) (.sl 1 o 0 k) S:=⟨rfl,9,xBg (n:=7) (xD4 h) hk⟩
def Tells (n:Nat) (l:List Int) (e:Env):Prop:=l.length=n∧∃ m,e=some m∧m.length=n∧okL m∧∀(k:Nat) u v,l[k]?=some u→m[k]?=some v→(-2147483648≤u∧u≤2147483647)∧(⟨1,u⟩:Val).le v
theorem Tells.le {n:Nat} {l:List Int} {e e':Env} (h:Tells n l e) (he:e'.fit n) (hle:e.le e'):Tells n l e':=by
 obtain ⟨h1,m,rfl,h2,h3,h4⟩:=h
 obtain ⟨m',rfl,h5⟩:=hle m rfl
 obtain ⟨g1,g2⟩:=he m' rfl
 refine ⟨h1,m',rfl,g1,g2,fun k u v hu hv=>?_⟩
 have hk:=(xgS hu).1
 obtain ⟨z,hz⟩:∃ z,m[k]?=some z:=⟨_,xgG (by omega)⟩
 obtain ⟨q1,q2⟩:=h4 k u z hu hz
 exact ⟨q1,Val.le_trans (h3 z (xmG hz)) q2 (h5 k z v hz hv)⟩
theorem one_ok {u:Int} (h:-2147483648≤u∧u≤2147483647):(⟨1,u⟩:Val).ok=true:=by simp [Val.ok,h]
theorem Tells.leq {n:Nat} {l:List Int} {e:Env} (h:Tells n l e) (k:Nat) (u:Int) (hu:l[k]?=some u):(⟨1,wrap32 u⟩:Val).leq (e.get k)=true:=by
 obtain ⟨h1,m,rfl,h2,h3,h4⟩:=h
 have hk:=(xgS hu).1
 obtain ⟨z,hz⟩:∃ z,m[k]?=some z:=⟨_,xgG (by omega)⟩
 obtain ⟨q1,q2⟩:=h4 k u z hu hz
 have:Env.get (some m) k=z:=xCi h3 hz
 rw [this,xFZ q1,Val.leq_iff (one_ok q1) (h3 z (xmG hz))]
 exact q2
theorem Tells.get {n:Nat} {l:List Int} {e:Env} (h:Tells n l e) {a:Int} (ha:0≤a∧a < n):∃ u,l.getD a.toNat 0=u∧(-2147483648≤u∧u≤2147483647)∧(⟨1,u⟩:Val).le (e.get a)∧(e.get a).ok=true:=by
 obtain ⟨h1,m,rfl,h2,h3,h4⟩:=h
 obtain ⟨k,rfl⟩:∃ k:Nat,a=(k:Int):=⟨a.toNat,by omega⟩
 obtain ⟨u,hu⟩:∃ z,l[k]?=some z:=⟨_,xgG (by omega)⟩
 obtain ⟨z,hz⟩:∃ z,m[k]?=some z:=⟨_,xgG (by omega)⟩
 obtain ⟨q1,q2⟩:=h4 k u z hu hz
 refine ⟨u,by simp [List.getD_eq_getElem?_getD,hu],q1,?_,Env.get_ok _ _⟩
 have:Env.get (some m) k=z:=xCi h3 hz
 rw [this];exact q2
theorem xIR {u:Int} {v:Val} (hv:v.ok=true) (h:(⟨1,u⟩:Val).le v):v=⟨2,0⟩ ∨ v=⟨1,u⟩:=by
 rcases h with h | h | h
 ·cases h
 ·exact .inl (Val.ok_top hv h)
 ·exact .inr h.symm
theorem xDe {op:Int→Int→Int} {u v:Int} {a b:Val} (hu:-2147483648≤u∧u≤2147483647) (hv:-2147483648≤v∧v≤2147483647) (ha:a.ok=true) (hb:b.ok=true) (h1:(⟨1,u⟩:Val).le a) (h2:(⟨1,v⟩:Val).le b):(⟨1,wrap32 (op u v)⟩:Val).le (a.each op b):=by
 rw [Val.each_of ha hb]
 rcases xIR ha h1 with rfl | rfl <;> rcases xIR hb h2 with rfl | rfl <;> simp
 all_goals first | exact .inr (.inl rfl) | exact Val.le_refl _
theorem Tells.step {n:Nat} {l:List Int} {e:Env} (h:Tells n l e) {x:Ins} {w:Int} (hc:-2147483648≤x.c∧x.c≤2147483647) (hd:x.def < 0 ∨ (0≤x.def∧x.def < n∧0≤x.a∧x.a < n∧0≤x.b∧x.b < n)):Tells n (stepL l x w) (x.flat e):=by
 have hfit:e.fit n:=by
  obtain ⟨_,m,rfl,h2,h3,_⟩:=h
  exact Env.fit_some h2 h3
 rcases hd with hd | ⟨hd0,hdl,ha0,hal,hb0,hbl⟩
 ·rw [xNr hfit hd]
  unfold stepL
  rw [if_pos hd];exact h
 ·have hval:(-2147483648≤stepV l x w∧stepV l x w≤2147483647)∧(⟨1,stepV l x w⟩:Val).le (x.number e):=by
   obtain ⟨ua,ga,ra,la,oa⟩:=h.get ⟨ha0,hal⟩
   obtain ⟨ub,gb,rb,lb,ob⟩:=h.get ⟨hb0,hbl⟩
   unfold stepV Ins.number
   rw [ga,gb]
   by_cases k0:x.kind=0
   ·simp only [k0,if_true]
    exact ⟨hc,by rw [xFZ hc];exact Val.le_refl _⟩
   by_cases k1:x.kind=1
   ·simp only [k0,k1,if_true,if_false]
    exact ⟨ra,la⟩
   by_cases k2:x.kind=2
   ·simp only [k0,k1,k2,if_true,if_false]
    refine ⟨xBF _,?_⟩
    have z:wrap32 0=0:=rfl
    rw [z]
    exact xDe (op:=i64sub) (u:=0) (by omega) ra rfl oa (Val.le_refl _) la
   by_cases k3:x.kind=3
   ·simp only [k0,k1,k2,k3,if_true,if_false]
    exact ⟨xBF _,xDe ra rb oa ob la lb⟩
   by_cases k4:x.kind=4
   ·simp only [k0,k1,k2,k3,k4,if_true,if_false]
    exact ⟨xBF _,xDe ra rb oa ob la lb⟩
   by_cases k5:x.kind=5
   ·simp only [k0,k1,k2,k3,k4,k5,if_true,if_false]
    exact ⟨xBF _,xDe ra rb oa ob la lb⟩
   simp only [k0,k1,k2,k3,k4,k5,if_false]
   exact ⟨xBF _,.inr (.inl rfl)⟩
  obtain ⟨h1,m,rfl,h2,h3,h4⟩:=h
  have hnum:=x.number_ok (some m)
  unfold Ins.flat
  rw [Env.set_of hfit _ hnum,if_pos ⟨hd0,hdl⟩]
  unfold stepL
  rw [if_neg (by omega)]
  refine ⟨by simp [h1],_,rfl,by simp [h2],fun v hv=>?_,fun k u v hu hv=>?_⟩
  ·rcases List.mem_or_eq_of_mem_set hv with hv | rfl
   ·exact h3 v hv
   ·exact hnum
  ·by_cases hk:k=x.def.toNat
   ·subst hk
    rw [List.getElem?_set_self (by omega)] at hu hv
    cases hu;cases hv
    exact hval
   ·rw [List.getElem?_set_ne (Ne.symm hk)] at hu hv
    exact h4 k u v hu hv
def Fun.isOne (f:Fun) (b k:Nat) (x:Ins):Prop:=0≤x.def∧((f.cat b (k + 1)).get x.def).k=1
noncomputable instance (f:Fun) (b k:Nat) (x:Ins):Decidable (f.isOne b k x):=Classical.propDecidable _
structure LsI (p:Prg) (f:Fun) (S:St):Prop where
 s0:S.obj 0=some (.row 1 [[p.funsV]])
 s1:S.obj 1=some (.row 3 [func f])
 n:1 < S.next
theorem LsI.up {p:Prg} {f:Fun} {S S':St} (h:LsI p f S) (hu:∀q,q < 2→S'.obj q=S.obj q) (hn:S.next≤S'.next):LsI p f S':=⟨by rw [hu 0 (by omega)];exact h.s0,by rw [hu 1 (by omega)];exact h.s1,by have:=h.n;omega⟩
theorem xKJ {v:Int}:∀(l out:List Int),v ∈ out ∨ v ∈ l→v ∈ l.foldl addOnce out
 | [],out,h=>by simpa using h
 | x :: l,out,h=>by
  refine xKJ l (addOnce out x) ?_
  rcases h with h | h
  ·left;unfold addOnce;split
   ·exact h
   ·exact List.mem_append_left _ h
  ·rcases List.mem_cons.1 h with rfl | h
   ·left;unfold addOnce;split
    ·assumption
    ·simp
   ·exact .inr h
theorem xTp {p:Prg} {f:Fun} {x:Ins} (hok:FunOK p f) (h:p.insOK f x=true):(-2147483648≤x.c∧x.c≤2147483647)∧(x.def < 0 ∨ (0≤x.def∧x.def < (f.wid:Int)∧0≤x.a∧x.a < (f.wid:Int)∧0≤x.b∧x.b < (f.wid:Int))):=by
 obtain ⟨hu,hd⟩:=xHD h
 have h':=h
 simp only [Prg.insOK,Bool.and_eq_true] at h'
 have hox:=h'.1.1
 have hp:x.okP:=by simpa [Ins.ok] using hox
 obtain ⟨_,_,_,_,_,hc1,hc2,_,ha,hb,_,_,_,_,hbare⟩:=hp
 refine ⟨⟨hc1,hc2⟩,?_⟩
 rw [hok.wid]
 rcases hd with hd | ⟨hd0,hdl⟩
 ·left;omega
 ·right
  have all:∀v ∈ x.all,v < f.vars:=fun v hv=>(hu v (by unfold Ins.uses;rw [if_pos hox];exact xKJ _ _ (.inr hv))).2
  have ha':x.a < f.vars:=by
   cases hk:khas x.kind 97
   ·have:x.bare.a=0:=by rw [hbare];rfl
    simp [Ins.bare,hk] at this
    omega
   ·exact all _ (by unfold Ins.all;rw [hk];simp)
  have hb':x.b < f.vars:=by
   cases hk:khas x.kind 98
   ·have:x.bare.b=0:=by rw [hbare];rfl
    simp [Ins.bare,hk] at this
    omega
   ·exact all _ (by unfold Ins.all;rw [hk];simp)
  exact ⟨hd0,hdl,ha,ha',hb,hb'⟩
def IV (S:St) (v:AV) (l:List Int):Prop:=FSl intc 1 v l ∨ (Has intc 1 S v l∧Bel S v)
theorem IV.pict {S:St} {v:AV} {l:List Int} (h:IV S v l):∃ w,FSl intc 1 w l∧∀n,Vm.pict S [] (n + 2) v=some w:=by
 rcases h with h | ⟨h,_⟩
 ·exact ⟨v,h,fun n=>xAd h.stab⟩
 ·exact ⟨_,xAx,fun n=>h.pict⟩
theorem IV.keep {S S':St} {v:AV} {l:List Int} (h:IV S v l) (hn:S.next≤S'.next) (hk:∀q,q < S.next→S'.obj q=S.obj q):IV S' v l:=by
 rcases h with h | ⟨h,hb⟩
 ·exact .inl h
 ·exact .inr ⟨h.keep fun q ⟨len,hq⟩=>hk q (hb _ _ _ hq),hb.mono hn⟩
theorem RPS.ints {S:St} {o k:Nat} {l:List Int} (h:S.obj o=some (.row 1 (els intc l))) (hk:l.length=k):RP (.fsl 1 (els intc l)) (.sl 1 o 0 k) S:=⟨rfl,9,xBg (n:=7) (xD4 h) hk⟩
def stepSV (l:List Int) (x:Ins) (w:Int):Int :=
 if x.kind=0 then wrap32 x.c else if x.kind=1 then l.getD x.a.toNat 0 else if x.kind=2 then IntKind.i64.wrap (-(l.getD x.a.toNat 0)) else if x.kind=3 then IntKind.i64.wrap (l.getD x.a.toNat 0 + l.getD x.b.toNat 0) else
 if x.kind=4 then IntKind.i64.wrap (l.getD x.a.toNat 0 - l.getD x.b.toNat 0) else if x.kind=5 then IntKind.i64.wrap (l.getD x.a.toNat 0 * l.getD x.b.toNat 0) else w
def stepSL (l:List Int) (x:Ins) (w:Int):List Int:=if x.def < 0 then l else l.set x.def.toNat (stepSV l x w)
set_option maxHeartbeats 1000000 in
theorem xL7 (l:List Int) (v:AV) (hv:FSl intc 1 v l) (x:Ins) (w:Int) (hl:l.length≤64) (hd:x.def < 0 ∨ (0≤x.def∧x.def < l.length∧0≤x.a∧x.a < l.length∧0≤x.b∧x.b < l.length)):Ret P (gl N) true 15 [v,encI x,.int .i64 w] (.fsl 1 (els intc (stepSL l x w))):=by
 refine Ret.inP c15 (by simp) ?_
 have hvo:=xJL hv
 simp [k15,hv.elems]
 by_cases hl0:l=[]
 ·subst hl0
  have hdn:x.def < 0:=by
   rcases hd with h | h
   ·exact h
   ·simp at h;omega
  simp
  refine (xCp x).use (n:=9) (by rfl) rfl ?_
  simp [hdn]
  have:stepSL [] x w=[]:=by simp [stepSL,hdn]
  rw [this]
  exact RPS.ints (l:=[]) (by simp [els]) rfl
 ·have hlr:¬ room < l.length:=by simp [room];omega
  have hlr2:l.length≤room:=by omega
  simp [hl0,hlr,hlr2]
  refine (xCp x).use (n:=9) (by rfl) rfl ?_
  simp
  rcases hd with hdn | ⟨hd0,hdl,ha0,hal,hb0,hbl⟩
  ·simp [hdn]
   have:stepSL l x w=l:=by simp [stepSL,hdn]
   rw [this]
   exact RPS.ints (by simp) rfl
  ·obtain ⟨d,hdd⟩:∃ d:Nat,x.def=(d:Int):=⟨x.def.toNat,by omega⟩
   obtain ⟨a,haa⟩:∃ a:Nat,x.a=(a:Int):=⟨x.a.toNat,by omega⟩
   obtain ⟨b,hbb⟩:∃ b:Nat,x.b=(b:Int):=⟨x.b.toNat,by omega⟩
   have hdl':d < l.length:=by omega
   have hal':a < l.length:=by omega
   have hbl':b < l.length:=by omega
   obtain ⟨u,hu⟩:∃ u,l[d]?=some u:=⟨_,xgG hdl'⟩
   obtain ⟨ua,hua⟩:∃ u,l[a]?=some u:=⟨_,xgG hal'⟩
   obtain ⟨ub,hub⟩:∃ u,l[b]?=some u:=⟨_,xgG hbl'⟩
   have hga:l[x.a.toNat]?.getD 0=ua:=by rw [haa];simp [hua]
   have hgb:l[x.b.toNat]?.getD 0=ub:=by rw [hbb];simp [hub]
   have hst:stepSL l x w=l.set d (stepSV l x w):=by
    unfold stepSL
    rw [if_neg (by omega),hdd];rfl
   have e3:∀z:Int,(els intc l).set d [AV.int .i64 z]=els intc (l.set d z):=fun z=>xAg (e:=intc)
   have hla:¬ (l.length:Int)≤x.a:=by omega
   have hlb:¬ (l.length:Int)≤x.b:=by omega
   have hld:¬ (l.length:Int)≤x.def:=by omega
   have hdn:¬ x.def < 0:=by omega
   have fin:∀(S:St) (z:Int),S.obj 2=some (.row 1 (els intc (l.set d z)))→stepSV l x w=z→RP (.fsl 1 (els intc (stepSL l x w))) (.sl 1 2 0 l.length) S:=fun S z h1 h2=>by
    rw [hst,h2]
    exact RPS.ints h1 (by simp)
   simp [hdn,hld,hla,hlb]
   by_cases k0:x.kind=0
   ·simp [k0]
    refine (xLJ x.c).use (n:=9) ?_ rfl ?_ <;> simp
    simp [hdd,xAc hdl',hu,intc,e3]
    exact fin _ (wrap32 x.c) (by simp) (by simp [stepSV,k0])
   by_cases k1:x.kind=1
   ·simp [k1,hdd,haa,hv.idx hua,xAc hdl',hu,intc,e3]
    exact fin _ ua (by simp) (by simp [stepSV,k1,hga])
   by_cases k2:x.kind=2
   ·simp [k2,haa,hdd,hv.idx hua,xAc hdl',hu,intc,e3]
    exact fin _ (IntKind.i64.wrap (-ua)) (by simp) (by simp [stepSV,k2,hga])
   by_cases k3:x.kind=3
   ·simp [k3]
    refine Dra.auto [] mix ?_ ?_
    ·kernel_rfl
    simp [classes,haa,hbb,hdd,hv.idx hua,hv.idx hub,xAc hdl',hu,intc,e3]
    exact fin _ (IntKind.i64.wrap (ua + ub)) (by simp) (by simp [stepSV,k3,hga,hgb])
   by_cases k4:x.kind=4
   ·simp [k4]
    refine Dra.auto [] mix ?_ ?_
    ·kernel_rfl
    simp [classes,haa,hbb,hdd,hv.idx hua,hv.idx hub,xAc hdl',hu,intc,e3]
    exact fin _ (IntKind.i64.wrap (ua - ub)) (by simp) (by simp [stepSV,k4,hga,hgb])
   by_cases k5:x.kind=5
   ·simp [k5]
    refine Dra.auto [] mix ?_ ?_
    ·kernel_rfl
    simp [classes,haa,hbb,hdd,hv.idx hua,hv.idx hub,xAc hdl',hu,intc,e3]
    exact fin _ (IntKind.i64.wrap (ua * ub)) (by simp) (by simp [stepSV,k5,hga,hgb])
   simp [k0,k1,k2,k3,k4,k5]
   simp [hdd,xAc hdl',hu,intc,e3]
   exact fin _ w (by simp) (by simp [stepSV,k0,k1,k2,k3,k4,k5])
def SgT (l:List Int) (e:SEnv):Prop:=e.isSome=true∧∀(k:Nat) u,l[k]?=some u→sgLe (sgOf u) (e.get k)
theorem SgT.le {l:List Int} {e e':SEnv} (h:SgT l e) (hle:e.le e'):SgT l e':=by
 obtain ⟨h1,h2⟩:=h
 refine ⟨?_,fun k u hu=>xAS (xA2 _) (SEnv.get_ok _ _) (SEnv.get_ok _ _) (h2 k u hu) (SEnv.get_mono hle k)⟩
 cases e with
 | none=>cases h1
 | some m=>obtain ⟨m',hm',_⟩:=hle m rfl;rw [hm'];rfl
theorem SgT.getD {l:List Int} {e:SEnv} (h:SgT l e) {a:Int} (ha:0≤a∧a < l.length):sgLe (sgOf (l.getD a.toNat 0)) (e.get a):=by
 obtain ⟨k,rfl⟩:∃ k:Nat,a=(k:Int):=⟨a.toNat,by omega⟩
 obtain ⟨u,hu⟩:∃ u,l[k]?=some u:=⟨_,xgG (by omega)⟩
 have:=h.2 k u hu
 simpa [List.getD_eq_getElem?_getD,hu] using this
theorem xQ5 (u:Int):¬ sgLe (sgOf u) 0:=by
 rcases xBn u with ⟨_,e⟩ | ⟨_,e⟩ | ⟨_,e⟩ <;> rw [e] <;> decide +kernel
theorem xG2 {l:List Int} (h:∀u ∈ l,-1073741824≤u∧u≤1073741824) (k:Nat):-1073741824≤l.getD k 0∧l.getD k 0≤1073741824:=by
 rw [List.getD_eq_getElem?_getD]
 cases hk:l[k]? with
 | none=>simp
 | some u=>exact h u (xmG hk)
theorem xOb {a b:Int} (ha:-1073741824≤a∧a≤1073741824) (hb:-1073741824≤b∧b≤1073741824):-1152921504606846976≤a * b∧a * b≤1152921504606846976:=by
 have h1:(a * b).natAbs≤1073741824 * 1073741824:=by
  rw [Int.natAbs_mul]
  exact Nat.mul_le_mul (by omega) (by omega)
 omega
theorem SgT.step {l:List Int} {e:SEnv} (h:SgT l e) {x:Ins} {w ans:Int} (hk7:x.kind ≠ 7) (hs:∀u ∈ l,-1073741824≤u∧u≤1073741824) (hc:-2147483648≤x.c∧x.c≤2147483647) (hd:x.def < 0 ∨ (0≤x.def∧x.def < l.length∧0≤x.a∧x.a < l.length∧0≤x.b∧x.b < l.length)):SgT (stepSL l x w) (x.sign e ans):=by
 refine ⟨by rw [Ins.sign_on];exact h.1,?_⟩
 have hon:=h.1
 cases e with
 | none=>cases hon
 | some m =>
 intro k u hu
 unfold Ins.sign
 rw [SEnv.set_get]
 rcases hd with hd | ⟨hd0,hdl,ha0,hal,hb0,hbl⟩
 ·rw [if_neg (by omega)]
  unfold stepSL at hu
  rw [if_pos hd] at hu
  exact h.2 k u hu
 ·unfold stepSL at hu
  rw [if_neg (by omega)] at hu
  by_cases hkd:k=x.def.toNat
  ·subst hkd
   rw [List.getElem?_set_self (by omega)] at hu
   cases hu
   obtain ⟨u0,hu0⟩:∃ u,l[x.def.toNat]?=some u:=⟨_,xgG (by omega)⟩
   have h0:=h.2 _ _ hu0
   have hml:x.def < m.length:=by
    refine Decidable.byContradiction fun hn=>xQ5 u0 ?_
    have:gS m ((x.def.toNat:Nat):Int)=0:=xC3 (by omega)
    rw [← this];exact h0
   rw [if_pos ⟨hd0,hml,by omega⟩]
   have ga:=h.getD ⟨ha0,hal⟩
   have gb:=h.getD ⟨hb0,hbl⟩
   have oa:=SEnv.get_ok (some m) x.a
   have ob:=SEnv.get_ok (some m) x.b
   have sa:=xG2 hs x.a.toNat
   have sb:=xG2 hs x.b.toNat
   unfold stepSV Ins.sgn
   generalize l.getD x.a.toNat 0=ua at *
   generalize l.getD x.b.toNat 0=ub at *
   have hmul:=xOb sa sb
   by_cases k0:x.kind=0
   ·simp only [k0,if_true,reduceIte]
    rw [xFZ hc,xAs (xA2 _)];exact xAt (xA2 _)
   by_cases k1:x.kind=1
   ·simp only [k0,k1,if_true,if_false,Int.reduceEq,reduceIte]
    rw [xAs oa];exact ga
   by_cases k2:x.kind=2
   ·simp only [k0,k1,k2,if_true,if_false,Int.reduceEq,reduceIte]
    rw [xAa (by omega),xAs (xBx _)];exact xIY oa ga
   by_cases k3:x.kind=3
   ·simp only [k0,k1,k2,k3,if_true,if_false,Int.reduceEq,reduceIte]
    rw [xAa (by omega),xAs (xBv _ _)];exact xIX oa ob ga gb
   by_cases k4:x.kind=4
   ·simp only [k0,k1,k2,k3,k4,if_true,if_false,Int.reduceEq,reduceIte]
    rw [xAa (by omega),xAs (xFg _ _)];exact xNN oa ob ga gb
   by_cases k5:x.kind=5
   ·simp only [k0,k1,k2,k3,k4,k5,if_true,if_false,Int.reduceEq,reduceIte]
    rw [xAa (by omega),xAs (xBw _ _)];exact xNM oa ob ga gb
   simp only [k0,k1,k2,k3,k4,k5,hk7,if_false]
   exact xPS (xA2 _)
  ·rw [List.getElem?_set_ne (Ne.symm hkd)] at hu
   rw [if_neg (by omega)]
   exact h.2 k u hu
theorem xHU {p:Prg} {X:List SEnv} {f b:Nat}:∀(m:List Int) (e:SEnv),e.le (m.foldl (fun e j=>e.join (hereX p X f j.toNat (p.cd f j.toNat).length)) e)∧∀j ∈ m,(hereX p X f j.toNat (p.cd f j.toNat).length).le (m.foldl (fun e j=>e.join (hereX p X f j.toNat (p.cd f j.toNat).length)) e)
 | [],e=>⟨SEnv.le_refl e,fun j hj=>by cases hj⟩
 | j :: m,e=>by
  obtain ⟨h1,h2⟩:=xHU (p:=p) (X:=X) (f:=f) (b:=b) m (e.join (hereX p X f j.toNat (p.cd f j.toNat).length))
  refine ⟨SEnv.le_trans (SEnv.le_join_l _ _) h1,fun k hk=>?_⟩
  rcases List.mem_cons.1 hk with rfl | hk
  ·exact SEnv.le_trans (SEnv.le_join_r _ _) h1
  ·exact h2 k hk
theorem xOc (p:Prg) (f b:Nat):hereX p p.ssol f b 0=p.sAt (.blk f b):=by simp [hereX,pastX,Prg.sAt]
theorem xOd {p:Prg} {X:List SEnv} {f b k:Nat} {i:Ins} (h:(p.cd f b)[k]?=some i):hereX p X f b (k + 1)=i.sign (hereX p X f b k) (ansX p X i):=by
 unfold hereX pastX
 rw [xAe h,List.foldl_append];rfl
theorem xPu {p:Prg} (hp:p.OK) {f b j:Nat} {x:Fun} {y:Blk} (hx:p.funs[f]?=some x) (hy:x.blks[b]?=some y) (hj:(j:Int) ∈ y.out) (hjl:j < x.blks.length):(hereX p p.ssol f b y.ins.length).le (p.sAt (.blk f j)):=by
 rw [Prg.sAt_fix (u:=.blk f j) ⟨x,hx,hjl⟩]
 have hm:(b:Int) ∈ x.preds j:=Fun.preds_mem.2 ⟨b,y,rfl,hy,hj⟩
 have:=(xHU (p:=p) (X:=p.ssol) (f:=f) (b:=j) (p.predsN f j) (begX0 p p.ssol f j)).2 b (by rw [(Prg.predsN_of hp hx).2];exact hm)
 rw [Int.toNat_natCast,Prg.cd_of hx hy] at this
 exact this
theorem xOe {p:Prg} {f:Nat} {x:Fun} (hx:p.funs[f]?=some x) (h0:0 < x.blks.length):((p.sAt (.par f)).start x.par x.vars).le (p.sAt (.blk f 0)):=by
 rw [Prg.sAt_fix (u:=.blk f 0) ⟨x,hx,h0⟩]
 have:=(xHU (p:=p) (X:=p.ssol) (f:=f) (b:=0) (p.predsN f 0) (begX0 p p.ssol f 0)).1
 refine SEnv.le_trans ?_ this
 unfold begX0
 rw [if_pos rfl]
 simp only [Prg.parOf,Prg.varsOf,hx]
 exact SEnv.le_refl _
theorem xK3 {p:Prg} {X:List SEnv}:∀(l:List Step) (e:SEnv),e.le (l.foldl (callX p X) e)
 | [],e=>SEnv.le_refl e
 | s :: l,e=>by
  refine SEnv.le_trans ?_ (xK3 l _)
  unfold callX
  split
  ·exact SEnv.le_refl e
  ·exact SEnv.le_join_l _ _
theorem xQ6 {p:Prg} {x:Fun} (hx:p.funs[0]?=some x):SEnv.le (some (allS x.par 7)) (p.sAt (.par 0)):=by
 rw [Prg.sAt_fix (u:=.par 0) (xgS hx).1]
 refine SEnv.le_trans ?_ (xK3 (p.callsTo 0) _)
 unfold parX0
 rw [if_pos rfl]
 simp only [Prg.parOf,hx]
 exact SEnv.le_refl _
def beginS (n k:Nat) (w:List Int):List Int:=(List.range n).map fun v:Nat=>if v < k then (w.getD v 0).tmod 100 else 0
theorem xBp (n k:Nat) (w:List Int):(beginS n k w).length=n:=by simp [beginS]
theorem xJ7 (n:Nat) (w:List Int):beginS n 0 w=List.replicate n 0:=by
 refine List.ext_getElem? fun j=>?_
 by_cases hj:j < n
 ·simp [beginS,hj]
 ·rw [List.getElem?_eq_none (by rw [xBp];omega),List.getElem?_eq_none (by simp;omega)]
theorem xJ8 {n k:Nat} {w:List Int} {x:Int} (hk:k < n) (hx:w[k]?=some x):(beginS n k w).set k (x.tmod 100)=beginS n (k + 1) w:=by
 refine List.ext_getElem? fun j=>?_
 by_cases hj:j=k
 ·subst hj
  rw [List.getElem?_set_self (by rw [xBp];exact hk)]
  simp [beginS,hk,hx]
 ·rw [List.getElem?_set_ne (Ne.symm hj)]
  by_cases hjn:j < n
  ·simp only [beginS,List.getElem?_map,List.getElem?_range hjn,Option.map_some,xoI]
   by_cases hlt:j < k
   ·rw [if_pos hlt,if_pos (by omega)]
   ·rw [if_neg hlt,if_neg (by omega)]
  ·rw [List.getElem?_eq_none (by rw [xBp];omega),List.getElem?_eq_none (by rw [xBp];omega)]
theorem xJb {p:Prg} {x:Fun} {k:Nat} {w:List Int} (hx:p.funs[0]?=some x) (h0:0 < x.blks.length) (hk:(k:Int)≤x.par) (hv:(x.wid:Int)=x.vars):SgT (beginS x.wid k w) (p.sAt (.blk 0 0)):=by
 refine SgT.le (e:=(p.sAt (.par 0)).start x.par x.vars) ?_ (xOe hx h0)
 obtain ⟨m,hm,hle⟩:=xQ6 hx _ rfl
 rw [hm]
 refine ⟨rfl,fun j u hu=>?_⟩
 have hj:j < x.wid:=by have:=(xgS hu).1;rwa [xBp] at this
 have hu':u=if j < k then (w.getD j 0).tmod 100 else 0:=by
  simp only [beginS,List.getElem?_map,List.getElem?_range hj,Option.map_some,xoI] at hu
  exact hu.symm
 show sgLe (sgOf u) (gS (startS x.par x.vars m) j)
 unfold startS
 rw [xEd,if_pos ⟨by omega,by have:x.wid=capN x.vars:=rfl;omega⟩,Int.toNat_natCast]
 by_cases hp:(j:Int) < x.par
 ·rw [if_pos hp]
  have h7:gS (allS x.par 7) j=7:=by
   rw [allS,xLR (v:=sgS 7)]
   ·decide +kernel
   ·rw [List.getElem?_replicate,if_pos]
    unfold capN
    have:x.wid≤64:=by have:x.wid=capN x.vars:=rfl;rw [this];unfold capN;omega
    omega
  have h8:=hle.2 j
  rw [h7] at h8
  rw [xGW]
  exact xAS (xA2 _) ⟨by omega,by omega⟩ (xBJ _ _) (xPS (xA2 _)) h8
 ·rw [if_neg hp]
  rw [hu',if_neg (by omega)]
  decide +kernel
def IVS (S:St) (v:AV) (l:List Int):Prop:=FSl intc 1 v l ∨ ∃ o,v=.sl 1 o 0 l.length∧o < S.next∧S.obj o=some (.row 1 (els intc l))
theorem IVS.pict {S:St} {v:AV} {l:List Int} (h:IVS S v l):∃ w,FSl intc 1 w l∧∀n,Vm.pict S [] (n + 2) v=some w:=by
 rcases h with h | ⟨o,rfl,_,h⟩
 ·exact ⟨v,h,fun n=>xAd h.stab⟩
 ·exact ⟨_,FSl.mk,fun n=>xBI h⟩
theorem IVS.keep {S S':St} {v:AV} {l:List Int} (h:IVS S v l) (hu:Up S S'):IVS S' v l:=by
 rcases h with h | ⟨o,rfl,ho,h⟩
 ·exact .inl h
 ·exact .inr ⟨o,rfl,Nat.lt_of_lt_of_le ho hu.1,by rw [hu.2 o ho];exact h⟩
theorem IVS.read {S:St} {v:AV} {l:List Int} (h:IVS S v l) {k:Nat} {x:Int} (hx:l[k]?=some x):∃ a,pk (.indexAddr 1) [v,.int .i64 (k:Int)]=some a∧sk (.load false 1) [a] S=some (.int .i64 x,S):=by
 rcases h with h | ⟨o,rfl,_,ho⟩
 ·exact ⟨_,h.idx hx,by simp [intc]⟩
 ·have hk:=(xgS hx).1
  exact ⟨_,xAc hk,by simp [ho,hx,intc]⟩
theorem IVS.len {S:St} {v:AV} {l:List Int} (h:IVS S v l):lenV v=some l.length:=by
 rcases h with h | ⟨o,rfl,_,_⟩
 ·exact h.len
 ·simp
set_option maxHeartbeats 1000000 in
theorem xJc (p:Prg) (ways:List Int) (wv:AV) (hw:FSl intc 1 wv ways):Ret P (gl N) false 3 [encP p,wv] (.bool true):=by
 refine Ret.in c3 (by simp) ?_
 simp [k3]
 refine (xGb).use (n:=9) (by rfl) rfl ?_
 simp
 refine (xIt p).use (n:=9) (by simp [mapOpt,xAd p.funsS.stab]) (by simp [solids,AV.solid,p.funsS.solid]) ?_
 cases hfew:p.few
 ·simp
  exact RK.eq rfl rfl
 have hp:=Prg.few_fit hfew
 simp
 refine (xD0 p hp).use (n:=9) (by simp [mapOpt,xAd p.funsS.stab]) (by simp [solids,AV.solid,p.funsS.solid]) ?_
 cases hsane:p.sane
 ·simp
  exact RK.eq rfl rfl
 simp
 by_cases h2:p.funs=[]
 ·simp [h2,p.funsS.len]
  exact RK.stab rfl
 by_cases h3:(60:Int) < (ways.length:Int)
 ·simp [h2,h3,p.funsS.len,hw.len]
  exact RK.stab rfl
 have hOK:p.OK:=⟨hp,hsane⟩
 obtain ⟨f,hfi⟩:∃ f,p.funs[0]?=some f:=⟨_,xgG (List.length_pos_iff.2 h2)⟩
 have hf:p.fn 0=some f:=hOK.fn hfi
 have hok:=xQB hf
 have hl:=hok.len
 have hwid:=hok.wid
 have hv6:=hok.vars
 unfold Fun.varsOK at hv6
 have hvw:f.vars=(f.wid:Int):=hwid.symm
 have hw6:f.wid≤6:=by omega
 have hwr:f.wid≤room:=by simp [room];omega
 have hix:=p.funsS.idx hfi
 rw [show ((0:Nat):Int)=0 from rfl] at hix
 simp [h2,h3,p.funsS.len,hw.len,hix,hvw,hwr]
 refine W.cutL 0 (fun F S=>∃ k:Nat,(k:Int)≤f.par∧F 1=wv∧F 2=.ptr 0 0 0∧F 5=.bool true∧F 6=.ptr 1 0 0∧F 7=.sl 1 2 0 f.wid∧LsI p f S∧2 < S.next∧S.obj 2=some (.row 1 (els intc (beginS f.wid k ways)))) ?_ ?_
 ·refine W.whileI (fun (k:Nat) F S=>(k:Int)≤f.par∧F 1=wv∧F 2=.ptr 0 0 0∧F 5=.bool true∧F 6=.ptr 1 0 0∧F 7=.sl 1 2 0 f.wid∧F 8=.int .i64 k∧LsI p f S∧2 < S.next∧S.obj 2=some (.row 1 (els intc (beginS f.wid k ways)))) (fun k=>f.wid - k) ?_ 0 _ _ ?_
  ·rintro k F S ⟨hk,f1,f2,f5,f6,f7,f8,hS,hn2,h2o⟩
   have hs0:=hS.s0
   have hs1:=hS.s1
   have hsn:=hS.n
   simp only [func] at hs1
   simp [f8,f6,hs1]
   by_cases hg1:(k:Int) < f.par
   ·by_cases hg2:k < ways.length
    ·have hkw:k < f.wid:=by omega
     obtain ⟨w,hwk⟩:∃ w,ways[k]?=some w:=⟨_,xgG hg2⟩
     have e4:=wrapS k (by omega)
     obtain ⟨u,hu⟩:∃ u,(beginS f.wid k ways)[k]?=some u:=⟨_,xgG (by rw [xBp];exact hkw)⟩
     have e3:∀z:Int,(els intc (beginS f.wid k ways)).set k [AV.int .i64 z]=els intc ((beginS f.wid k ways).set k z):=fun z=>xAg (e:=intc)
     have e5:=xJ8 (n:=f.wid) hkw hwk
     simp [hg1,f1,hw.len,f8,hg2]
     simp [f1,f2,f5,f6,f7,f8,hw.idx hwk,intc,xAc hkw,h2o,hu,e4,e3,e5]
     exact ⟨k + 1,by omega,by omega,by omega,hS.up (fun q hq=>by simp [show ¬ q=2 by omega]) (by simp),by omega,rfl⟩
    ·simp [hg1,f1,hw.len,f8,hg2]
     exact ⟨k,hk,f2,f5,f6,f7,hS,hn2,h2o⟩
   ·simp [hg1]
    exact ⟨k,hk,f1,f2,f5,f6,f7,hS,hn2,h2o⟩
  ·simp
   refine ⟨hv6.1,⟨by simp,by simp [func,hvw],by simp⟩,?_⟩
   rw [xJ7,← xAh];rfl
 ·rintro F S ⟨k,hk,f1,f2,f5,f6,f7,hS,hn2,h2o⟩
  have hT0:=xJb (p:=p) (k:=k) (w:=ways) hfi hl.1 hk hwid
  have hl0:=xBp f.wid k ways
  have hIV0:IVS S (F 7) (beginS f.wid k ways):=by
   rw [f7]
   exact .inr ⟨2,by rw [hl0],hn2,h2o⟩
  generalize beginS f.wid k ways=l0 at *
  have hB0:∃ B,f.blks[0]?=some B∧B.on=true:=by
   obtain ⟨_,_,h0,_⟩:=hok.blks
   have hlt0:=hl.1
   refine ⟨f.blks[0],xgG hlt0,?_⟩
   simpa [Fun.onAt,xgG hlt0] using h0
  simp
  refine W.whileI (fun (n:Nat) F S=>n≤ways.length∧F 1=wv∧F 2=.ptr 0 0 0∧F 5=.bool true∧F 6=.ptr 1 0 0∧F 10=.int .i64 n∧LsI p f S∧∃ (b:Nat) (B:Blk) (l:List Int),F 9=.int .i64 b∧f.blks[b]?=some B∧B.on=true∧IVS S (F 7) l∧l.length=f.wid∧SgT l (p.sAt (.blk 0 b))) (fun n=>ways.length - n) ?_ 0 _ _ ?_
  ·clear hIV0 hT0 h2o hn2
   rintro n F S ⟨hn,f1,f2,f5,f6,f10,hS,b,B,l,f9,hB,hon,hIV,hll,hT⟩
   have hs0:=hS.s0
   have hs1:=hS.s1
   have hsn:=hS.n
   simp only [func] at hs1
   simp [f1,f10,hw.len]
   by_cases hnl:n < ways.length
   ·by_cases hn5:n < 5
    ·have hbl:=(xgS hB).1
     have hBk:=hok.blk (xmG hB)
     have hBl:B.ins.length≤16:=hBk.2.2.2.1
     have hBo:=hok.out B (xmG hB)
     have e7:=wrapS n (by omega)
     obtain ⟨wn,hwn⟩:∃ w,ways[n]?=some w:=⟨_,xgG hnl⟩
     have hlive:f.live (b:Int)=true:=by simp [Fun.live,Fun.onAt,hB,hon]
     simp [hnl,show (n:Int) < 5 by omega,f6,f9,f10,hs1,show ¬ 1=S.next by omega,f.blksS.idx hB]
     refine W.whileI (fun (k:Nat) F' S'=>k≤B.ins.length∧F' 1=wv∧F' 2=.ptr 0 0 0∧F' 5=.bool true∧F' 6=.ptr 1 0 0∧F' 9=.int .i64 b∧F' 10=.int .i64 n∧F' 11=.ptr S.next 0 0∧F' 12=.int .i64 k∧LsI p f S'∧S.next < S'.next∧S'.obj S.next=some (.row 3 [blkc B])∧∃ l,IVS S' (F' 7) l∧l.length=f.wid∧SgT l (hereX p p.ssol 0 b k)) (fun k=>B.ins.length - k) ?_ 0 _ _ ?_
     ·clear hs0 hs1 hT hIV hll
      rintro k F S1 ⟨hk,f1,f2,f5,f6,f9,f10,f11,f12,hS1,hn1,sA,l,hIV,hll,hT⟩
      have hs0:=hS1.s0
      have sA':=sA
      simp only [blkc] at sA'
      have hat:p.sat 0 b k=hereX p p.ssol 0 b k:=xFk hsane hfi hlive hB hk
      simp [f11,f12,sA',B.insS.len,show k≤B.ins.length from hk,f2,f9,hs0]
      refine (xHT 0 b k hp).use (n:=9) (by simp [mapOpt,xAd p.funsS.stab]) (by simp [solids,AV.solid,p.funsS.solid]) ?_
      rw [hat]
      have hon':=hT.1
      have hok':(hereX p p.ssol 0 b k).ok:=xDh p.ssol_ok _ _ _
      obtain ⟨m,hm⟩:∃ m,hereX p p.ssol 0 b k=some m:=Option.isSome_iff_exists.1 hon'
      simp
      generalize hS2:(S1.new (.row 2 [[.bool false,.nilsl]])).set S1.next (.row 2 [envcS (hereX p p.ssol 0 b k)])=S2
      have hu12:Up S1 S2:=by rw [← hS2];exact (Up.new _ _).put (Nat.le_refl _) _
      have sE:S2.obj S1.next=some (.row 2 [envcS (hereX p p.ssol 0 b k)]):=by rw [← hS2];simp
      clear hS2
      have hS2:LsI p f S2:=hS1.up (fun q hq=>hu12.2 q (by have:=hS1.n;omega)) hu12.1
      have sA2:S2.obj S.next=some (.row 3 [blkc B]):=by rw [hu12.2 _ hn1];exact sA
      have sA2':=sA2
      simp only [blkc] at sA2'
      have hIV2:=hIV.keep hu12
      generalize hvv:F 7=vv at *
      refine W.whileI (fun (j:Nat) F' S'=>S'=S2∧j≤f.wid∧(∀(i:Nat) u,i < j→l[i]?=some u→-1073741824≤u∧u≤1073741824)∧F' 1=wv∧F' 2=.ptr 0 0 0∧F' 5=.bool true∧F' 6=.ptr 1 0 0∧F' 7=vv∧F' 9=.int .i64 b∧F' 10=.int .i64 n∧F' 11=.ptr S.next 0 0∧F' 12=.int .i64 k∧F' 13=.ptr S1.next 0 0∧F' 14=.int .i64 j) (fun j=>f.wid - j) ?_ 0 _ _ ?_
      ·clear f1 f2 f5 f6 f9 f10 f11 f12 hvv
       rintro j F S3 ⟨rfl,hj,hsm,f1,f2,f5,f6,f7,f9,f10,f11,f12,f13,f14⟩
       simp [f7,f14,hIV2.len,hll]
       by_cases hlt:j < f.wid
       ·obtain ⟨u,hu⟩:∃ u,l[j]?=some u:=⟨_,xgG (by omega)⟩
        obtain ⟨ad,ha1,ha2⟩:=hIV2.read hu
        have e5:=wrapS j (by omega)
        simp [hlt,f7,f14,ha1,ha2]
        by_cases g1:1073741824 < u
        ·simp [g1,f5]
         exact RK.stab rfl
        by_cases g2:u < -1073741824
        ·simp [g1,g2,f7,f14,ha1,ha2,f5]
         exact RK.stab rfl
        simp [g1,g2,f7,f14,ha1,ha2]
        refine Dra.auto [] mix ?_ ?_
        ·kernel_rfl
        have hle:=hT.2 j u hu
        rw [hm] at sE hle hok'
        simp [classes,f7,f13,f14,ha1,ha2,sE]
        refine (xJ2 u).b (n:=9) (by simp [mapOpt]) rfl ?_
        simp [f13,f14,sE]
        refine (xAA (some m) j hok').b (n:=9) (by simp [mapOpt]) (by simp [solids,AV.solid]) ?_
        simp
        refine (xHK (xA2 u) (SEnv.get_ok (some m) j)).b (n:=9) (by simp [mapOpt]) rfl ?_
        simp [hle,f1,f2,f5,f6,f7,f9,f10,f11,f12,f13,f14,e5]
        refine ⟨j + 1,by omega,by omega,fun i v hi hv=>?_,by omega⟩
        by_cases hij:i=j
        ·subst hij
         rw [hu] at hv;cases hv
         omega
        ·exact hsm i v (by omega) hv
       ·have:j=f.wid:=by omega
        subst this
        have hsmall:∀u ∈ l,-1073741824≤u∧u≤1073741824:=fun u hu=>by
         obtain ⟨i,hi⟩:=List.getElem?_of_mem hu
         exact hsm i u (by rw [← hll];exact (xgS hi).1) hi
        simp [f11,f12,sA2',B.insS.len]
        by_cases hke:k=B.ins.length
        ·subst hke
         simp [f11,sA2',B.outS.len]
         by_cases ho0:B.out=[]
         ·simp [ho0,f5]
          exact RK.stab rfl
         ·obtain ⟨a,ha⟩:=xQD wn
          simp [ho0]
          refine Dra.auto [] mix ?_ ?_
          ·kernel_rfl
          simp [classes,f1,f10,f11,sA2',hw.idx hwn,intc,B.outS.len]
          have hop:0 < B.out.length:=List.length_pos_iff.2 ho0
          have hr:(iand IntKind.i64 wn 65535).tmod (B.out.length:Int)=((a % B.out.length:Nat):Int):=by rw [ha];rfl
          obtain ⟨jj,hj⟩:∃ j,B.out[a % B.out.length]?=some j:=⟨_,xgG (Nat.mod_lt _ hop)⟩
          obtain ⟨hj0,hjn,b2,hb2,hon2⟩:=xDD (hBk.2.2.1 jj (xmG hj))
          obtain ⟨jn2,rfl⟩:∃ n:Nat,jj=(n:Int):=⟨jj.toNat,by omega⟩
          simp only [Int.toNat_natCast] at hb2
          have hidx:=B.outS.idx hj
          rw [show ((a % B.out.length:Nat):Int)=(a:Int) % (B.out.length:Int) from rfl] at hidx
          have hTn:=hT.le (xPu hOK hfi hB (xmG hj) (by omega))
          rw [hr]
          simp [ho0,hidx,intc,f1,f2,f5,f6,f7,f10,e7]
          exact ⟨n + 1,by omega,by omega,by omega,hS2,jn2,rfl,b2,hb2,hon2,l,hIV2,hll,hTn⟩
        ·have hltk:k < B.ins.length:=by omega
         obtain ⟨x,hx⟩:∃ x,B.ins[k]?=some x:=⟨_,xgG hltk⟩
         obtain ⟨hxc,hxd⟩:=xTp hok (hBk.2.2.2.2 x (xmG hx))
         have hcd:(p.cd 0 b)[k]?=some x:=by rw [Prg.cd_of hfi hB];exact hx
         obtain ⟨w,hw1,hw2⟩:=hIV2.pict
         have e4:=wrapS k (by omega)
         refine xAj (fun h=>absurd h (by omega)) (fun h=>?_)
         simp [f11,f12,sA2',B.insS.idx hx]
         by_cases h7:x.kind=7
         ·simp [h7,f5]
          exact RK.stab rfl
         simp [h7]
         refine Dra.auto [] mix ?_ ?_
         ·kernel_rfl
         simp [classes,f1,f7,f10,f11,f12,sA2',B.insS.idx hx,hw.idx hwn,intc]
         refine (xL7 l w hw1 x (wn.tmod 100) (by omega) (by rw [hll];exact hxd)).b (n:=9) (by simp [mapOpt,hw2]) rfl ?_
         simp [f1,f2,f5,f6,f9,f10,f11,f12,e4]
         refine ⟨k + 1,by omega,by omega,by omega,hS2,by have:=hu12.1;omega,sA2,stepSL l x (wn.tmod 100),.inl .mk,?_,?_⟩
         ·unfold stepSL;split <;> simp [hll]
         ·rw [xOd hcd];exact hT.step h7 hsmall hxc (by rw [hll];exact hxd)
      ·simp [f1,f2,f5,f6,f9,f10,f11,f12,hvv]
       try exact fun i u hi=>absurd hi (by omega)
     ·simp [f1,f2,f5,f6,f9,f10]
      refine ⟨hS.up (fun q hq=>by simp [show ¬ q=S.next by omega]) (by simp),l,hIV.keep ((Up.new _ _).put (Nat.le_refl _) _),hll,?_⟩
      rw [xOc];exact hT
    ·simp [hnl,show ¬ (n:Int) < 5 by omega,f10,f5]
     exact RK.stab rfl
   ·simp [hnl,f5]
    exact RK.stab rfl
  ·obtain ⟨B,hB,hon⟩:=hB0
   simp [f1,f2,f5,f6]
   exact ⟨hS,0,rfl,B,hB,hon,l0,hIV0,hl0,hT0⟩
end Go.Proofs.YtnhfofmhkfdpgaaGreatDoor.Vm
