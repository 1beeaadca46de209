/- A part of the proof: Dd De. -/
import Derived.Test.YtnhfofmhkfdpgaaGreatDoorQ33
set_option linter.unusedVariables false
set_option linter.unusedSimpArgs false
set_option linter.constructorNameAsVariable false
namespace Go.Proofs.YtnhfofmhkfdpgaaGreatDoor.Vm
open Go Go.RowKit
variable {N:Nat} {g:Glob}
theorem xOR {l:List Int} {x:Ins} (hc:-2147483648≤x.c∧x.c≤2147483647) (hk:¬ (2≤x.kind∧x.kind≤5)):stepSL l x 0=stepL l x 0:=by
 have hv:stepSV l x 0=stepV l x 0:=by
  unfold stepSV stepV
  have k2:¬ x.kind=2:=by omega
  have k3:¬ x.kind=3:=by omega
  have k4:¬ x.kind=4:=by omega
  have k5:¬ x.kind=5:=by omega
  have z:wrap32 0=0:=rfl
  rw [xEc hc,if_neg k2,if_neg k3,if_neg k4,if_neg k5,if_neg k2,if_neg k3,if_neg k4,if_neg k5,z]
 unfold stepSL stepL
 rw [hv]
def Fun.Bare (f:Fun):Prop:=∀(b:Nat) (y:Blk),f.blks[b]?=some y→∀i ∈ y.ins,¬ (2≤i.kind∧i.kind≤5)∧i.kind ≠ 7
theorem xEU {p:Prg} (hp:p.OK) {f:Fun} (hf:p.funs[0]?=some f) (hb:f.Bare) {b:Nat} {y:Blk} (hy:f.blks[b]?=some y) {l:List Int} (h1:Tells f.wid l (f.cin.getD b Option.none)) (h2:SgT l (p.sAt (.blk 0 b))):∀k,k≤y.ins.length→∃ l,Tells f.wid l (f.cat b k)∧SgT l (hereX p p.ssol 0 b k)
 | 0,_=>⟨l,by rw [xPH];exact h1,by rw [xJC];exact h2⟩
 | k + 1,hk=>by
  obtain ⟨l,q1,q2⟩:=xEU hp hf hb hy h1 h2 k (by omega)
  obtain ⟨x,hx⟩:∃ x,y.ins[k]?=some x:=⟨_,xgG (by omega)⟩
  have hok:=hp.fun hf
  obtain ⟨hxc,hxd⟩:=ins_ab hok ((hok.blk (xmG hy)).2.2.2.2 x (xmG hx))
  obtain ⟨ha,h7⟩:=hb b y hy x (xmG hx)
  refine ⟨stepL l x 0,?_,?_⟩
  ·rw [xPG hy hx];exact q1.step hxc hxd
  ·rw [xJD (by rw [Prg.cd_of hf hy];exact hx),← xOR hxc ha]
   exact q2.step h7 (fun h=>absurd h ha) hxc (by rw [q1.1];exact hxd)
theorem xQd {p:Prg} (hp:p.OK) {f:Fun} (hf:p.funs[0]?=some f) (hb:f.Bare) {b:Nat} (h:f.Way b):∃ l,Tells f.wid l (f.cin.getD b Option.none)∧SgT l (p.sAt (.blk 0 b)):=by
 have hok:=hp.fun hf
 have hv6:=hok.vars
 unfold Fun.varsOK at hv6
 unfold Fun.Way at h
 induction h with
 | base =>
  refine ⟨beginS f.wid 0 [],?_,xFc hf hok.len.1 (by omega) hok.wid⟩
  have h1:=(begin_tells f []).le (f.cin_fit 0) (start_le hok.len.1)
  have h2:beginL f.par [] f.wid=beginS f.wid 0 []:=by simp [beginL,beginS]
  rw [h2] at h1;exact h1
 | step _ hl hbm ih =>
  obtain ⟨l,q1,q2⟩:=ih
  obtain ⟨y,hy,hby,hbl⟩:=xEd hl hbm
  obtain ⟨l',r1,r2⟩:=xEU hp hf hb hy q1 q2 y.ins.length (yAC _)
  exact ⟨l',r1.le (f.cin_fit _) (pred_le hy hby hbl),r2.le (xIc hp hf hy hby hbl)⟩
theorem xIe:∀(l:List Ins) (e:Env),(pastL e l).isSome=e.isSome
 | [],e=>rfl
 | i :: l,e=>by
  show (pastL (i.flat e) l).isSome=_
  rw [xIe l]
  cases e <;> rfl
theorem xRU {p:Prg} (hp:p.OK) {f:Fun} (hf:p.funs[0]?=some f) {b k:Nat} {y:Blk} (hy:f.blks[b]?=some y):(hereX p p.ssol 0 b k).isSome=(f.cat b k).isSome:=by
 have hbl:=(xgS hy).1
 rw [xKB]
 have h1:(f.cat b k).isSome=(f.cin.getD b Option.none).isSome:=by unfold Fun.cat;exact xIe _ _
 rw [h1]
 have h2:=xRT hp hf hbl
 have h3:p.Cld 0:=Rch.base
 by_cases hw:f.Way b
 ·rw [h2.2 ⟨h3,hw⟩]
  obtain ⟨l,hl⟩:=xJf (hp.fun hf) hw
  exact hl.isSome.symm
 ·rw [xHX (hp.fun hf) hbl hw]
  cases h:(p.sAt (.blk 0 b)).isSome
  ·rfl
  ·exact absurd (h2.1 h).2 hw
theorem xMG {p:Prg} (hp:p.OK) {f:Fun} (hf:p.funs[0]?=some f) (hb:f.Bare) {b k:Nat} {y:Blk} (hy:f.blks[b]?=some y) (hk:k≤y.ins.length) (v:Int) (h1:((f.cat b k).get v).k=1):sgLe (sgOf ((f.cat b k).get v).c) ((hereX p p.ssol 0 b k).get v):=by
 have hbl:=(xgS hy).1
 by_cases hw:f.Way b
 ·obtain ⟨l,q1,q2⟩:=xQd hp hf hb hw
  obtain ⟨l,r1,r2⟩:=xEU hp hf hb hy q1 q2 k hk
  by_cases hv:0≤v∧v < f.wid
  ·obtain ⟨u,hu,_,hle,hok⟩:=r1.get hv
   rcases xF8 hok hle with h | h
   ·rw [h] at h1;cases h1
   ·rw [h]
    have:=r2.getD (a:=v) (by rw [r1.1];exact hv)
    rw [hu] at this
    exact this
  ·exfalso
   obtain ⟨_,m,hm,hml,_⟩:=r1
   rw [hm] at h1
   have:Env.get (some m) v=⟨0,0⟩:=by
    simp only [Env.get,getL]
    rw [if_neg (by omega)];rfl
   rw [this] at h1;cases h1
 ·exfalso
  have:f.cat b k=Option.none:=by
   have h:=xIe ((f.code b).take k) (f.cin.getD b Option.none)
   rw [xHX (hp.fun hf) hbl hw] at h
   unfold Fun.cat
   rw [xHX (hp.fun hf) hbl hw]
   cases hq:pastL Option.none ((f.code b).take k) with
   | none=>rfl
   | some m=>rw [hq] at h;cases h
  rw [this] at h1;cases h1
def Prg.callN (p:Prg):Nat→Nat
 | 0=>0
 | f + 1=>p.callN f + (p.callsTo f).length
theorem xHe {p:Prg}:∀{n:Nat},p.callN n=0→∀f,f < n→p.callsTo f=[]
 | 0,_,f,hf=>by omega
 | n + 1,h,f,hf=>by
  simp only [Prg.callN] at h
  by_cases he:f=n
  ·subst he;exact yBD (by omega)
  ·exact xHe (n:=n) (by omega) f (by omega)
theorem xLy {p:Prg} (hp:p.OK):∀n,p.callN n≤n * 1152
 | 0=>by simp [Prg.callN]
 | n + 1=>by
  have h1:=xLy hp n
  have h2:(p.callsTo n).length≤1152:=yAX (yAb _ _) (by have:=(Prg.pos_len hp.sane).1;omega)
  simp only [Prg.callN];omega
theorem xRV {p:Prg} (hp:p.OK) {f:Nat} {x:Fun} (hx:p.funs[f]?=some x) (hfar:p.far=false) (hc:p.callN p.funs.length=0):x.Bare:=fun b y hy i hi=>by
 refine ⟨xRR hfar i (xQa.2 ⟨x,xmG hx,y,xmG hy,hi⟩),fun h7=>?_⟩
 obtain ⟨k,hk⟩:=yBE hi
 obtain ⟨hf0,hh⟩:=(hp.blk hx hy).2.1 i hi h7
 have hl:i.f.toNat < p.funs.length:=hh
 have hm:(f,b,k,i) ∈ p.callsTo i.f.toNat:=yAp.2 ⟨Prg.pos_mem.2 ⟨x,y,hx,hy,hk⟩,by simp [isCall,h7];omega⟩
 rw [xHe hc _ hl] at hm
 cases hm
set_option maxHeartbeats 1000000 in
theorem xGn (p:Prg) (b k v:Int):Ret P (gl N) false 6 [encP p,.int .i64 b,.int .i64 k,.int .i64 v] (.bool true):=by
 refine Ret.in c6 (by simp) ?_
 simp [k6]
 refine (xGm).use (n:=9) (by rfl) rfl ?_
 simp
 refine (xIO p).use (n:=9) (by simp [mapOpt,xAc p.funsS.stab]) (by simp [solids,AV.solid,p.funsS.solid]) ?_
 cases hfew:p.few
 ·simp
  exact RK.eq rfl rfl
 have hp:=Prg.few_fit hfew
 simp
 refine (xD1 p hp).use (n:=9) (by simp [mapOpt,xAc p.funsS.stab]) (by simp [solids,AV.solid,p.funsS.solid]) ?_
 cases hsane:p.sane
 ·simp
  exact RK.eq rfl rfl
 simp
 refine (xKx hsane).use (n:=9) (by simp [mapOpt,xAc p.funsS.stab]) rfl ?_
 by_cases hfar1:p.far=true
 ·rw [hfar1]
  simp
  exact RK.eq rfl rfl
 have hfar:p.far=false:=by simpa using hfar1
 rw [hfar]
 have hOK:p.OK:=⟨hp,hsane⟩
 have hfl6:=(Prg.sane_iff.1 hsane).1
 simp
 refine (xJb p 0 b k v hp).use (n:=9) (by simp [mapOpt,xAc p.funsS.stab]) (by simp [solids,AV.solid,p.funsS.solid]) ?_
 simp
 refine (xGl 0 b k v hp).use (n:=9) (by simp [mapOpt,xAc p.funsS.stab]) rfl ?_
 simp
 refine (xIa 0 b k hp).use (n:=9) (by simp [mapOpt,xAc p.funsS.stab]) (by simp [solids,AV.solid,p.funsS.solid]) ?_
 simp
 refine (xEz p 0 b hp).use (n:=9) (by simp [mapOpt,xAc p.funsS.stab]) (by simp [solids,AV.solid,p.funsS.solid]) ?_
 simp
 have hcv:((p.cat 0 b k).get v)=(p.cat 0 b k).get v:=rfl
 refine W.whileI (fun (f:Nat) F S=>f≤p.funs.length∧F 1=.int .i64 b∧F 2=.int .i64 k∧F 4=.ptr 0 0 0∧F 9=.bool true∧F 10=.ptr 1 0 0∧F 11=.int .i64 ((p.sat 0 b k).get v)∧F 12=.ptr 2 0 0∧F 13=.ptr 3 0 0∧F 14=.bool (p.blk 0 b).isSome∧F 15=.int .i64 (p.callN f)∧F 16=.int .i64 f∧S.obj 0=some (.row 1 [[p.funsV]])∧S.obj 1=some (.row 2 [[.int .i64 ((p.cat 0 b k).get v).k,.int .i64 ((p.cat 0 b k).get v).c]])∧S.obj 2=some (.row 2 [envcS (p.sat 0 b k)])∧S.obj 3=some (.row 3 [blkc ((p.blk 0 b).getD Blk.none)])) (fun f=>p.funs.length - f) ?_ 0 _ _ ?_
 ·rintro f F S ⟨hf,f1,f2,f4,f9,f10,f11,f12,f13,f14,f15,f16,s0,s1,s2,s3⟩
  simp [f4,f16,s0,p.funsS.len]
  by_cases hlt:f < p.funs.length
  ·obtain ⟨x,hx⟩:∃ x,p.funs[f]?=some x:=⟨_,xgG hlt⟩
   have e4:=wrapS f (by omega)
   have hcf:FSl trc 3 (encF trc 3 (p.callsTo f)) (p.callsTo f):=xAt
   have hN:=xLy hOK (f + 1)
   simp [hlt,f4,f15,f16,s0]
   refine (xER hp (hOK.fn hx)).ret.use (n:=9) (by simp [mapOpt,xAc p.funsS.stab]) (by simp [solids,AV.solid,p.funsS.solid]) ?_
   have e5:IntKind.i64.wrap ((p.callN f:Int) + ((p.callsTo f).length:Int))=((p.callN (f + 1):Nat):Int):=by
    simp only [Prg.callN] at hN ⊢
    rw [xAa (by omega)];omega
   simp [hcf.len,f1,f2,f4,f9,f10,f11,f12,f13,f14,f15,f16,e4,e5]
   exact ⟨f + 1,by omega,by omega,rfl,by omega,s0,s1,s2,s3⟩
  ·have:f=p.funs.length:=by omega
   subst this
   simp [f2,f4,f13,f14,f15,s3]
   by_cases hc:0 < p.callN p.funs.length
   ·simp [hc,f9]
    exact RK.stab rfl
   cases hb:p.blk 0 b with
   | none =>
    simp [hc,hb,f14,f9]
    exact RK.stab rfl
   | some y =>
    rw [hb] at s3 f14
    simp only [Option.getD_some,Option.isSome_some,blkc] at s3 f14
    by_cases hk0:k < 0
    ·simp [hc,hb,f14,f2,hk0,f9]
     exact RK.stab rfl
    by_cases hk1:(y.ins.length:Int) < k
    ·simp [hc,hb,f14,f2,f13,hk0,hk1,s3,y.insS.len,f9]
     exact RK.stab rfl
    obtain ⟨_,fn,bn,x,hfn,rfl,hx,hlv,hy⟩:=xOG hb
    have hf0:fn=0:=by omega
    subst hf0
    obtain ⟨kn,rfl⟩:∃ n:Nat,k=(n:Int):=⟨k.toNat,by omega⟩
    have hkl:kn≤y.ins.length:=by omega
    have hbare:=xRV hOK hx hfar (by omega)
    have hsat:p.sat 0 (bn:Int) (kn:Int)=hereX p p.ssol 0 bn kn:=xFq hsane hx hlv hy hkl
    obtain ⟨_,_,y',hy',hon⟩:=xCG hlv
    rw [yAs,hy] at hy'
    cases hy'
    have hcat:p.cat 0 (bn:Int) (kn:Int)=x.cat bn kn:=xRw (hOK.fn hx) hy hon hkl
    have hsame:=xRU hOK hx hy (k:=kn)
    have hknown:=xMG hOK hx hbare hy hkl v
    have hcA:=xJa (N:=N) p 0 (bn:Int) (kn:Int) hp
    have hH:(hereX p p.ssol 0 bn kn).ok:=xCI p.ssol_ok _ _ _
    rw [hcat] at s1 hcA
    rw [hsat] at s2 f11
    generalize hereX p p.ssol 0 bn kn=se at *
    generalize x.cat bn kn=ce at *
    obtain ⟨w1,hw1⟩:∃ w1,envcS se=[.bool se.isSome,w1]:=by cases se <;> exact ⟨_,rfl⟩
    obtain ⟨w2,hw2⟩:∃ w2,encE ce=.agg [.bool ce.isSome,w2]:=by cases ce <;> exact ⟨_,rfl⟩
    rw [hw1,hsame] at s2
    rw [hw2] at hcA
    simp [hc,hb,f14,f2,f13,hk1,s3,y.insS.len]
    refine Dra.auto [] mix ?_ ?_
    ·kernel_rfl
    simp [classes,f1,f2,f4,f9,f10,f11,f12,s0,s1,s2]
    refine hcA.b (n:=9) (by simp [mapOpt,xAc p.funsS.stab]) (by simp [solids,AV.solid,p.funsS.solid]) ?_
    by_cases h1:(ce.get v).k=1
    ·have hle:=hknown h1
     simp [h1,f10,f11,s1]
     refine (xKt (ce.get v).c).b (n:=9) (by simp [mapOpt]) rfl ?_
     simp [f11]
     refine (xH1 (xAW (ce.get v).c) (SEnv.get_ok se v)).b (n:=9) (by simp [mapOpt]) rfl ?_
     simp [hle]
     exact RK.stab rfl
    ·simp [h1,f10,s1]
     exact RK.stab rfl
 ·simp [Prg.callN,blkc]
end Go.Proofs.YtnhfofmhkfdpgaaGreatDoor.Vm
