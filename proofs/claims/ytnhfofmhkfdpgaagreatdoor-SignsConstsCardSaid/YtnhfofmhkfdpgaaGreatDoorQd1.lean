/- A part of the proof: De. -/
import Derived.KernelRfl
import Derived.Test.YtnhfofmhkfdpgaaGreatDoorQd0
set_option linter.unusedVariables false
set_option linter.unusedSimpArgs false
set_option linter.constructorNameAsVariable false
namespace Go.Proofs.YtnhfofmhkfdpgaaGreatDoor.Vm
set_option maxRecDepth 100000
open Go Go.RowKit
variable {N:Nat} {g:Glob}
def Prg.callN (p:Prg):Nat->Nat
 | 0=>0
 | f + 1=>p.callN f + (p.callsTo f).length
theorem xHP {p:Prg}:∀{n:Nat},p.callN n=0->∀f,f < n->p.callsTo f=[]
 | 0,_,f,hf=>by omega
 | n + 1,h,f,hf=>by
  simp only [Prg.callN] at h
  by_cases he:f=n
  ·subst he;exact List.eq_nil_of_length_eq_zero (by omega)
  ·exact xHP (n:=n) (by omega) f (by omega)
theorem xMw {p:Prg} (hp:p.OK):∀n,p.callN n<=n * 1152
 | 0=>by simp [Prg.callN]
 | n + 1=>by
  have h1:=xMw hp n
  have h2:(p.callsTo n).length<=1152:=Nat.le_trans (List.length_filter_le _ _) (by have:=(Prg.pos_len hp.sane).1;omega)
  simp only [Prg.callN];omega
theorem xTz {p:Prg} (hp:p.OK) {f:Nat} {x:Fun} (hx:p.funs[f]?=some x) (hfar:p.far=false) (hc:p.callN p.funs.length=0):x.Bare:=fun b y hy i hi=>by
 refine ⟨xTv hfar i (xRG.2 ⟨x,xmG hx,y,xmG hy,hi⟩),fun h7=>?_⟩
 obtain ⟨k,hk⟩:=List.getElem?_of_mem hi
 obtain ⟨hf0,hh⟩:=(hp.blk hx hy).2.1 i hi h7
 have hl:i.f.toNat < p.funs.length:=hh
 have hm:(f,b,k,i) ∈ p.callsTo i.f.toNat:=List.mem_filter.2 ⟨Prg.pos_mem.2 ⟨x,y,hx,hy,hk⟩,by simp [isCall,h7];omega⟩
 rw [xHP hc _ hl] at hm
 cases hm
set_option maxHeartbeats 1000000 in
theorem xGW (p:Prg) (b k v:Int):Ret P (gl N) false 6 [encP p,.int .i64 b,.int .i64 k,.int .i64 v] (.bool true):=by
 refine Ret.inF (by kernel_rfl) ?_
 conv=>arg 3;reduce
 simp
 refine (xDZ).use (n:=9) (by rfl) rfl ?_
 simp
 refine (xGo p).use (n:=9) (by simp [mapOpt,xAc p.funsS.stab]) (by simp [solids,AV.solid,p.funsS.solid]) ?_
 cases hfew:p.few
 ·simp
  exact RK.eq rfl rfl
 have hp:=Prg.few_fit hfew
 simp
 refine (xB7 p hp).use (n:=9) (by simp [mapOpt,xAc p.funsS.stab]) (by simp [solids,AV.solid,p.funsS.solid]) ?_
 cases hsane:p.sane
 ·simp
  exact RK.eq rfl rfl
 simp
 refine (xLn hsane).use (n:=9) (by simp [mapOpt,xAc p.funsS.stab]) rfl ?_
 by_cases hfar1:p.far=true
 ·rw [hfar1]
  simp
  exact RK.eq rfl rfl
 have hfar:p.far=false:=by simpa using hfar1
 rw [hfar]
 have hOK:p.OK:=⟨hp,hsane⟩
 have hfl6:=(Prg.sane_iff.1 hsane).1
 simp
 refine (xJR p 0 b k v hp).use (n:=9) (by simp [mapOpt,xAc p.funsS.stab]) (by simp [solids,AV.solid,p.funsS.solid]) ?_
 simp
 refine (xGT 0 b k v hp).use (n:=9) (by simp [mapOpt,xAc p.funsS.stab]) rfl ?_
 simp
 refine (xIM 0 b k hp).use (n:=9) (by simp [mapOpt,xAc p.funsS.stab]) (by simp [solids,AV.solid,p.funsS.solid]) ?_
 simp
 refine (xCx p 0 b hp).use (n:=9) (by simp [mapOpt,xAc p.funsS.stab]) (by simp [solids,AV.solid,p.funsS.solid]) ?_
 simp
 have hcv:((p.cat 0 b k).get v)=(p.cat 0 b k).get v:=rfl
 refine W.whileI (fun (f:Nat) F S=>f<=p.funs.length/\F 1=.int .i64 b/\F 2=.int .i64 k/\F 4=.ptr 0 0 0/\F 9=.bool true/\F 10=.ptr 1 0 0/\F 11=.int .i64 ((p.sat 0 b k).get v)/\F 12=.ptr 2 0 0/\F 13=.ptr 3 0 0/\F 14=.bool (p.blk 0 b).isSome/\F 15=.int .i64 (p.callN f)/\F 16=.int .i64 f/\S.obj 0=some (.row 1 [[p.funsV]])/\S.obj 1=some (.row 2 [[.int .i64 ((p.cat 0 b k).get v).k,.int .i64 ((p.cat 0 b k).get v).c]])/\S.obj 2=some (.row 2 [envcS (p.sat 0 b k)])/\S.obj 3=some (.row 3 [blkc ((p.blk 0 b).getD Blk.none)])) (fun f=>p.funs.length - f) ?_ 0 _ _ ?_
 ·rintro f F S ⟨hf,f1,f2,f4,f9,f10,f11,f12,f13,f14,f15,f16,s0,s1,s2,s3⟩
  simp [f4,f16,s0,p.funsS.len]
  by_cases hlt:f < p.funs.length
  ·obtain ⟨x,hx⟩:∃ x,p.funs[f]?=some x:=⟨_,xgG hlt⟩
   have e4:=wrapS f (by omega)
   have hcf:FSl trc 3 (encF trc 3 (p.callsTo f)) (p.callsTo f):=xAl
   have hN:=xMw hOK (f + 1)
   simp [hlt,f4,f15,f16,s0]
   refine (xE8 hp (hOK.fn hx)).ret.use (n:=9) (by simp [mapOpt,xAc p.funsS.stab]) (by simp [solids,AV.solid,p.funsS.solid]) ?_
   have e5:IntKind.i64.wrap ((p.callN f:Int) + ((p.callsTo f).length:Int))=((p.callN (f + 1):Nat):Int):=by
    simp only [Prg.callN] at hN ⊢
    rw [xAa (by omega)];omega
   simp [hcf.len,f1,f2,f4,f9,f10,f11,f12,f13,f14,f15,f16,e4,e5]
   exact ⟨f + 1,by omega,by omega,rfl,by omega,s0,s1,s2,s3⟩
  ·have:f=p.funs.length:=by omega
   subst this
   simp [f2,f4,f13,f14,f15,s3]
   by_cases hc:0 < p.callN p.funs.length
   ·simp [hc,f9]
    exact RK.stab rfl
   cases hb:p.blk 0 b with
   | none =>
    simp [hc,hb,f14,f9]
    exact RK.stab rfl
   | some y =>
    rw [hb] at s3 f14
    simp only [Option.getD_some,Option.isSome_some,blkc] at s3 f14
    by_cases hk0:k < 0
    ·simp [hc,hb,f14,f2,hk0,f9]
     exact RK.stab rfl
    by_cases hk1:(y.ins.length:Int) < k
    ·simp [hc,hb,f14,f2,f13,hk0,hk1,s3,y.insS.len,f9]
     exact RK.stab rfl
    obtain ⟨_,fn,bn,x,hfn,rfl,hx,hlv,hy⟩:=xPY hb
    have hf0:fn=0:=by omega
    subst hf0
    obtain ⟨kn,rfl⟩:∃ n:Nat,k=(n:Int):=⟨k.toNat,by omega⟩
    have hkl:kn<=y.ins.length:=by omega
    have hbare:=xTz hOK hx hfar (by omega)
    have hsat:p.sat 0 (bn:Int) (kn:Int)=hereX p p.ssol 0 bn kn:=xFR hsane hx hlv hy hkl
    obtain ⟨_,_,y',hy',hon⟩:=xCP hlv
    rw [Int.toNat_natCast,hy] at hy'
    cases hy'
    have hcat:p.cat 0 (bn:Int) (kn:Int)=x.cat bn kn:=xTc (hOK.fn hx) hy hon hkl
    have hsame:=xTy hOK hx hy (k:=kn)
    have hknown:=xNM hOK hx hbare hy hkl v
    have hcA:=xJQ (N:=N) p 0 (bn:Int) (kn:Int) hp
    have hH:(hereX p p.ssol 0 bn kn).ok:=xCn p.ssol_ok _ _ _
    rw [hcat] at s1 hcA
    rw [hsat] at s2 f11
    generalize hereX p p.ssol 0 bn kn=se at *
    generalize x.cat bn kn=ce at *
    obtain ⟨w1,hw1⟩:∃ w1,envcS se=[.bool se.isSome,w1]:=by cases se <;> exact ⟨_,rfl⟩
    obtain ⟨w2,hw2⟩:∃ w2,encE ce=.agg [.bool ce.isSome,w2]:=by cases ce <;> exact ⟨_,rfl⟩
    rw [hw1,hsame] at s2
    rw [hw2] at hcA
    simp [hc,hb,f14,f2,f13,hk1,s3,y.insS.len]
    refine Dra.auto [] mix ?_ ?_
    ·kernel_rfl
    simp [classes,f1,f2,f4,f9,f10,f11,f12,s0,s1,s2]
    refine hcA.b (n:=9) (by simp [mapOpt,xAc p.funsS.stab]) (by simp [solids,AV.solid,p.funsS.solid]) ?_
    by_cases h1:(ce.get v).k=1
    ·have hle:=hknown h1
     simp [h1,f10,f11,s1]
     refine (xLj (ce.get v).c).b (n:=9) (by simp [mapOpt]) rfl ?_
     simp [f11]
     refine (xFN (xAX (ce.get v).c) (SEnv.get_ok se v)).b (n:=9) (by simp [mapOpt]) rfl ?_
     simp [hle]
     exact RK.stab rfl
    ·simp [h1,f10,s1]
     exact RK.stab rfl
 ·simp [Prg.callN,blkc]
end Go.Proofs.YtnhfofmhkfdpgaaGreatDoor.Vm
