/- A part of the proof: Vw Vy Vz Cc Db Cv Cw Cx. -/
import Derived.IntWalk
import Derived.KernelRfl
import Derived.Test.YtnhfofmhkfdpgaaGreatDoorQb0
set_option linter.unusedVariables false
set_option linter.unusedSimpArgs false
set_option linter.constructorNameAsVariable false
namespace Go.Proofs.YtnhfofmhkfdpgaaGreatDoor.Vm
open Go Go.RowKit
section
variable {P:Program} {g:Glob}
variable {l:List VOper} {aft:List (List Nat)} {F FF:AFrame} {S0 R:St} {ds:List DS} {G:Nat→AFrame}
section
variable (D:DrawOK P g l aft F FF S0 R ds G)
include D
end
end
section
variable {P:Program} {g:Glob}
section
variable {d:Option Nat} {F:AFrame} {S S0 R:St} {af:List Nat}
end
end
section
variable {P:Program} {g:Glob}
@[simp] theorem xSj {sz es}:AV.cells (.fsl sz es)=[.fsl sz es]:=_root_.id rfl
@[simp] theorem xP9:AV.cells .nilsl=[.nilsl]:=_root_.id rfl
attribute [simp] partV fillV over fitsAll EK.fits eqCells valEq scalarEq okEl mapOpt SK.isRead SK.isMake
attribute [simp] AV.plain plains AV.solid solids AV.young youngs youngss
attribute [simp] KK.fits cutL
end
section
variable {P:Program} {g:Glob}
end
section
variable {α:Type} {e:α→List AV} {l m:List α}
end
section
variable {P:Program} {g:Glob}
end
section
variable {α:Type} {e:α→List AV} [PlainE e] {l:List α}
end
attribute [simp] AObj.plainO Kept AObj.ren AV.shift shifts
section
variable {α:Type} {e:α→List AV} {sz:Nat} {v:AV} {l:List α}
end
section
variable {P:Program} {g:Glob} {α:Type} {e:α→List AV} {sz:Nat} {l:List α}
end
theorem SEnv.join_none {a:SEnv} (h:a.ok):a.join none=a:=by
 cases a with
 | none=>rfl
 | some l=>exact SEnv.own_of h
end Go.Proofs.YtnhfofmhkfdpgaaGreatDoor.Vm
namespace Go.Proofs.YtnhfofmhkfdpgaaGreatDoor.Vm
open Go Go.RowKit
variable {N:Nat} {g:Glob}
theorem xOc (p:Prg) (f b:Nat):hereX p p.ssol f b 0=p.sAt (.blk f b):=by simp [hereX,pastX,Prg.sAt]
theorem xOd {p:Prg} {X:List SEnv} {f b k:Nat} {i:Ins} (h:(p.cd f b)[k]?=some i):hereX p X f b (k + 1)=i.sign (hereX p X f b k) (ansX p X i):=by
 unfold hereX pastX
 rw [xAe h,List.foldl_append];rfl
theorem xWl (e:SEnv):Ret P (gl N) false 23 [encES e] (.agg (envcS e)):=by
 refine Ret.in c23 (by simp) ?_
 cases e with
 | none =>
  simp [k23]
  exact RK.envS (e:=none) rfl
 | some l =>
  simp [k23]
  exact RK.envS (e:=some l) rfl
theorem xWC (l:List Int) (h:l.length < 2 ^ 40):Ret P g false 22 [encES (some l),encES (some l)] (.bool true):=by
 refine Ret.in c22 (by simp) ?_
 have hv:FSl intc 1 (.fsl 1 (els intc l)) l:=FSl.mk
 simp [k22,hv.len]
 refine W.whileI (fun (k:Nat) F S=>k≤l.length∧F 2=.ptr 0 0 0∧F 3=.ptr 1 0 0∧F 5=.int .i64 k∧S.obj 0=some (.row 2 [envcS (some l)])∧S.obj 1=some (.row 2 [envcS (some l)])) (fun k=>l.length - k) ?_ 0 _ _ ?_
 ·rintro k F S ⟨hk,h2,h3,h5,s0,s1⟩
  simp only [xBS] at s0 s1
  simp [h2,h5,s0,hv.len]
  by_cases hlt:k < l.length
  ·obtain ⟨y,hy⟩:∃ y,l[k]?=some y:=⟨_,xgG hlt⟩
   have e4:=wrapS k (by omega)
   simp [hlt]
   refine Dra.auto [] mix ?_ ?_
   ·kernel_rfl
   simp [classes,h2,h3,h5,s0,s1,hv.idx hy,intc,e4]
   exact ⟨k + 1,by omega,by omega,by omega⟩
  ·simp [hlt]
   exact RK.eq rfl rfl
 ·simp
theorem xWn (e:SEnv) (he:e.ok):Ret P g false 22 [encES e,encES e] (.bool true):=by
 cases e with
 | none =>
  refine Ret.in c22 (by simp) ?_
  simp [k22]
  refine W.whileI (fun (k:Nat) F S=>F 2=.ptr 0 0 0∧F 3=.ptr 1 0 0∧F 5=.int .i64 0∧S.obj 0=some (.row 2 [[.bool false,.nilsl]])) (fun k=>k) ?_ 0 _ _ ?_
  ·rintro k F S ⟨h2,h3,h5,s0⟩
   simp [h2,h5,s0]
   exact RK.eq rfl rfl
  ·simp
 | some l=>exact xWC l (by have:=(he l rfl).1;omega)
theorem xWT {p:Prg} {f:Nat} (h:f < p.funs.length):p.ansS[f]?=some ((p.sAt (.ans f)).get 0):=by simp [Prg.ansS,h]
theorem xWw {p:Prg} {f:Nat} (h:f < p.funs.length):p.parS[f]?=some (p.sAt (.par f)):=by simp [Prg.parS,h]
theorem xWG {p:Prg} {f:Nat} (h:f < p.funs.length):p.insS[f]?=some (p.insRow f (p.nb f)):=by simp [Prg.insS,h]
theorem xWs {p:Prg} {f m b:Nat} (h:b < m):(p.insRow f m)[b]?=some (p.sAt (.blk f b)):=by simp [Prg.insRow,h]
theorem xWt {p:Prg} {f m:Nat}:(p.insRow f m).length=m:=by simp [Prg.insRow]
theorem xWm (p:Prg):∃ w1 w2 w3,solveE p=.agg [w1,w2,w3]∧FSl (fun l=>[encF envcS 2 l]) 1 w1 p.insS∧FSl envcS 2 w2 p.parS∧FSl intc 1 w3 p.ansS:=⟨_,_,_,rfl,FSl.mk,FSl.mk,FSl.mk⟩
theorem xW5 (i:Ins):insc i=[.int .i64 i.id,.int .i64 i.kind,.int .i64 i.dst,.int .i64 i.a,.int .i64 i.b,.int .i64 i.c,.int .i64 i.f,.int .i64 i.n,.int .i64 i.x0,.int .i64 i.x1,.int .i64 i.x2]:=rfl
theorem xWE {p:Prg} (e:SEnv) (i:Ins) (he:e.ok) (hi:i.kind=7→0≤i.f∧p.has (.ans i.f.toNat)):Ret P (gl N) false 26 [solveE p,encES e,encI i] (.agg (envcS (i.sign e (ansX p p.ssol i)))):=by
 refine Ret.in c26 (by simp) ?_
 obtain ⟨w1,w2,w3,hT,h1,h2,h3⟩:=xWm p
 have hl3:p.ansS.length=p.funs.length:=by simp [Prg.ansS]
 rw [hT]
 have hans:=xQX p p.ssol i
 simp [k26]
 by_cases h7:i.kind=7
 ·obtain ⟨hf0,hfh⟩:=hi h7
  obtain ⟨f,hff⟩:∃ f:Nat,i.f=(f:Int):=⟨i.f.toNat,by omega⟩
  rw [hff,Int.toNat_natCast] at hfh
  have hfl:f < p.funs.length:=hfh
  have hA:ansX p p.ssol i=(p.sAt (.ans f)).get 0:=by unfold ansX;rw [if_pos h7,hff];rfl
  have hix:=h3.idx (xWT hfl)
  simp [h7,hff,h3.len,hl3,hfl,hix,intc]
  rw [← hA]
  have hS:=xGY (N:=N) e i he hans
  simp [h7,hff] at hS
  refine hS.use (n:=9) (by simp [mapOpt]) (by simp [solids,AV.solid]) ?_
  simp
  exact RK.envS rfl
 ·have hA:ansX p p.ssol i=0:=by unfold ansX;rw [if_neg h7]
  rw [hA] at hans ⊢
  simp [h7]
  refine (xGY e i he hans).use (n:=9) (by simp [mapOpt]) (by simp [solids,AV.solid]) ?_
  simp
  exact RK.envS rfl
theorem Cal.post2 {P:Program} {f:Nat} {args:List AV} {S:St} {K:AV→St→Prop} (h:Cal P g f args S fun v S1=>K v S1 ∨ ∃ u x,v=.agg [u,x]∧lenV x=some 0∧K (.agg [u,.fsl 1 []]) S1):Cal P g f args S K:=by
 refine ⟨h.1,?_⟩
 intro vs C hS hR hvs hN hG
 refine Calls.mono (h.2 vs C hS hR hvs hN hG) ?_
 rintro e w' ⟨v,av,C',rfl,hq,h1,h2,h3,h4⟩
 have hq:K av C'.S ∨ ∃ u x,av=.agg [u,x]∧lenV x=some 0∧K (.agg [u,.fsl 1 []]) C'.S:=hq
 rcases hq with hk | ⟨u,x,rfl,hl,hk⟩
 ·exact ⟨v,av,C',rfl,hk,h1,h2,h3,h4⟩
 ·refine ⟨v,_,C',rfl,hk,h1,h2,h3,?_⟩
  obtain ⟨us,rfl,hu⟩:=h4.agg_inv
  cases hu with
  | cons a y us xs ha hus =>
   cases hus with
   | cons b z us xs hb hus =>
    cases hus
    exact .agg _ _ (.cons _ _ _ _ ha (.cons _ _ _ _ (hb.empty hl 1) .nil))
def handedS (e:SEnv) (i:Ins):SEnv:=e.map (handS i)
theorem xWJ (e:SEnv) (i:Ins) (he:e.ok) (hn:0≤i.n∧i.n≤3) {S:St} {K:AV→St→Prop} (hk:K (.agg (envcS (handedS e i))) S):Cal P (gl N) 25 [encES e,encI i] S K:=by
 have hR:Ret P (gl N) false 25 [encES e,encI i] (match e with
  | none=>.agg [.bool false,.nilsl]
  | some l=>.agg [.bool true,encF intc 1 (handS i l)]):=by
  refine Ret.in c25 (by simp) ?_
  cases e with
  | none =>
   simp [k25]
   refine W.whileI (fun (k:Nat) F S=>F 2=.ptr 0 0 0∧F 3=.ptr 1 0 0∧F 4=.ptr 2 0 0∧F 5=.ptr 3 0 0∧F 6=.int .i64 0∧S.obj 0=some (.row 2 [[.bool false,.nilsl]])∧S.obj 1=some (.row 11 [insc i])∧S.obj 2=some (.row 2 [[.bool false,.nilsl]])∧S.obj 3=some (.row 2 [[.bool false,.nilsl]])) (fun k=>k) ?_ 0 _ _ ?_
   ·rintro k F S ⟨f2,f3,f4,f5,f6,s0,s1,s2,s3⟩
    simp only [xW5] at s1
    simp [f3,f6,s1]
    by_cases h0:0 < i.n
    ·simp [h0,f2,f4,f5,s0,s2,s3]
     exact RK.agg (by simp [AV.stab])
    ·simp [h0,f4,f5,s2,s3]
     exact RK.agg (by simp [AV.stab])
   ·simp [xW5]
  | some l =>
   obtain ⟨nn,hnn⟩:∃ nn:Nat,i.n=(nn:Int):=⟨i.n.toNat,by omega⟩
   have hc:capN i.n=nn:=by unfold capN;omega
   simp [k25]
   refine W.whileI (fun (k:Nat) F S=>k≤nn∧F 2=.ptr 0 0 0∧F 3=.ptr 1 0 0∧F 4=.ptr 2 0 0∧F 5=.ptr 3 0 0∧F 6=.int .i64 k∧S.obj 0=some (.row 2 [envcS (some l)])∧S.obj 1=some (.row 11 [insc i])∧S.obj 2=some (.row 2 [[.bool false,.nilsl]])∧4≤S.next∧∃ v,v.one=true∧S.obj 3=some (.row 2 [[.bool true,v]])∧Has intc 1 S v ((handS i l).take k)∧Bel S v∧∀q c,v=.sl 1 q 0 c→4≤q) (fun k=>nn - k) ?_ 0 _ _ ?_
   ·rintro k F S ⟨hk,f2,f3,f4,f5,f6,s0,s1,s2,hn4,v,hv1,s3,hv,hb,hnv⟩
    simp only [xBS] at s0
    by_cases hlt:k < nn
    ·have hlt':(k:Int) < i.n:=by omega
     have hk3:(k:Int) < 3:=by omega
     have e4:=wrapS k (by omega)
     have hj:=xPr i (j:=k) (by omega)
     have hst:(handS i l).take (k + 1)=(handS i l).take k ++ [gS l (i.arg k)]:=xAe (xN5 (by rw [hc];exact hlt))
     have hlk:((handS i l).take k).length=k:=by rw [List.length_take,xN4,hc];omega
     simp only [insc] at s1 hj
     simp [f3,f6,s1,hlt',f2,s0]
     refine Dra.auto [] mix ?_ ?_
     ·kernel_rfl
     simp [classes,f2,f3,f5,f6,s0,s1,s3,xAR,hk3,hj]
     refine (xAA (some l) (i.arg k) he).b (n:=9) (by simp [mapOpt]) (by simp [solids,AV.solid]) ?_
     simp
     refine xBe (e:=intc) (x:=gS l (i.arg k)) (hv.new hb) rfl (by rw [hlk];simp [room];omega) fun S' m1 m2 m3=>?_
     rw [hlk,← hst] at m1
     simp at m1 m2 m3
     have kq:∀q,q < 4→S'.obj q=S.obj q:=fun q hq=>by rw [m3 q (by omega) fun len h=>by have:=hnv _ _ h;omega,if_neg (by omega)]
     have k3:=(kq 3 (by omega)).trans s3
     rw [hlk]
     simp [f2,f3,f4,f5,f6,e4,k3]
     refine ⟨k + 1,by omega,by omega,by omega,(kq 0 (by omega)).trans s0,(kq 1 (by omega)).trans s1,(kq 2 (by omega)).trans s2,by omega,_,rfl,rfl,?_,Bel.sl (by simp;omega),fun q c h=>by cases h;omega⟩
     exact m1.keep fun q ⟨c,hq⟩=>by cases hq;simp [show ¬ S.next + 1=3 by omega]
    ·have:k=nn:=by omega
     subst this
     have hall:(handS i l).take k=handS i l:=List.take_of_length_le (by rw [xN4,hc];exact Nat.le_refl _)
     rw [hall] at hv
     have hge:¬ (k:Int) < i.n:=by omega
     simp only [insc] at s1
     simp [f3,f6,s1,hge,f4,f5,s2,s3,hv1]
     refine ⟨8,?_⟩
     have hv':Has intc 1 (S.set 2 (.row 2 [[.bool true,v]])) v (handS i l):=hv.keep fun q ⟨c,hq⟩=>by have:=hnv q c hq;simp [show ¬ q=2 by omega]
     simp [mapOpt,hv'.pict (n:=5)]
   ·simp
    exact ⟨.nilsl,rfl,rfl,Has.nil,Bel.nil,fun q c h=>by cases h⟩
 refine Cal.post2 (hR.use (n:=9) (by simp [mapOpt]) (by simp [solids,AV.solid]) ?_)
 cases e with
 | none=>exact .inl hk
 | some l =>
  by_cases h0:handS i l=[]
  ·refine .inr ⟨_,_,rfl,by simp [encF,h0],?_⟩
   have hk':K (.agg (envcS (some (handS i l)))) S:=hk
   rw [h0] at hk'
   exact hk'
  ·left
   simp only [encF,if_neg h0]
   exact hk
theorem xW6 {p:Prg} (hp:p.OK) {f b:Nat} {x:Fun} {y:Blk} (hx:p.funs[f]?=some x) (hy:x.blks[b]?=some y):Ret P (gl N) false 21 [encP p,solveE p,.int .i64 (f:Int),.int .i64 (b:Int)] (.agg (envcS (hereX p p.ssol f b y.ins.length))):=by
 refine Ret.in c21 (by simp) ?_
 obtain ⟨hil,hcl,_⟩:=hp.blk hx hy
 have hfl:=(xgS hx).1
 have hbl:=(xgS hy).1
 have hnb:p.nb f=x.blks.length:=Prg.nb_of hx
 have hT0:(solveE p).solid=true∧∀S n,pict S [] (n + 2) (solveE p)=some (solveE p):=by
  obtain ⟨w1,w2,w3,hT,h1,h2,h3⟩:=xWm p
  rw [hT]
  refine ⟨by simp [AV.solid,solids,h1.solid,h2.solid,h3.solid],fun S n=>by simp [mapOpt,xAd h1.stab,xAd h2.stab,xAd h3.stab]⟩
 obtain ⟨hTl,hTp⟩:=hT0
 have hnx:=fun e i he hi=>xWE (N:=N) (p:=p) e i he hi
 obtain ⟨w1,w2,w3,hT,h1,h2,h3⟩:=xWm p
 have hrow:FSl envcS 2 (encF envcS 2 (p.insRow f (p.nb f))) (p.insRow f (p.nb f)):=xAx
 have hrl:=xWt (p:=p) (f:=f) (m:=p.nb f)
 have hri:(p.insRow f (p.nb f))[b]?=some (p.sAt (.blk f b)):=xWs (by omega)
 rw [hT] at hTl hTp hnx ⊢
 have hix:=h1.idx (xWG hfl)
 generalize encF envcS 2 (p.insRow f (p.nb f))=rv at *
 have hxi:=p.funsS.idx hx
 have hyi:=x.blksS.idx hy
 have hcd:∀(k:Nat) i,y.ins[k]?=some i→(p.cd f b)[k]?=some i:=fun k i h=>by rw [Prg.cd_of hx hy];exact h
 have hok:∀k,(hereX p p.ssol f b k).ok:=fun k=>xDh p.ssol_ok _ _ _
 rw [hnb] at hrow hrl hri
 have hrix:=hrow.idx hri
 rw [← xOc] at hrix
 simp [k21,hix,hrow.len,hrl,hnb,hbl,show ¬ x.blks.length≤b by omega,hrix]
 refine W.whileI (fun (k:Nat) F S=>k≤y.ins.length∧F 2=.int .i64 f∧F 3=.int .i64 b∧F 4=.ptr 0 0 0∧F 5=.ptr 1 0 0∧F 8=.ptr 2 0 0∧F 9=.ptr 3 0 0∧F 10=.int .i64 k∧S.obj 0=some (.row 1 [[p.funsV]])∧S.obj 1=some (.row 3 [[w1,w2,w3]])∧S.obj 2=some (.row 2 [[.bool false,.nilsl]])∧S.obj 3=some (.row 2 [envcS (hereX p p.ssol f b k)])) (fun k=>y.ins.length - k) ?_ 0 _ _ ?_
 ·rintro k F S ⟨hk,f2,f3,f4,f5,f8,f9,f10,s0,s1,s2,s3⟩
  simp [f2,f3,f4,f10,s0,hxi,hyi,y.insS.len]
  by_cases hlt:k < y.ins.length
  ·obtain ⟨i,hi⟩:∃ i,y.ins[k]?=some i:=⟨_,xgG hlt⟩
   have e4:=wrapS k (by omega)
   have hsu:=xOd (X:=p.ssol) (hcd k i hi)
   simp [hlt]
   refine Dra.auto [] mix ?_ ?_
   ·kernel_rfl
   simp [classes,f2,f3,f4,f5,f9,f10,s0,s1,s3,hxi,hyi,y.insS.idx hi]
   refine (hnx (hereX p p.ssol f b k) i (hok k) fun h7=>(hcl i (xmG hi) h7)).b (n:=9) (by simp [mapOpt,hTp,h1.solid]) (by simp [solids,AV.solid,h1.solid,h2.solid,h3.solid]) ?_
   rw [← hsu]
   simp [f2,f3,f4,f5,f8,f9,f10,s0,s1,s2,s3,e4]
   exact ⟨k + 1,by omega,by omega,by omega,rfl⟩
  ·have:k=y.ins.length:=by omega
   subst this
   simp [f8,f9,s2,s3]
   exact RK.envS rfl
 ·simp
def Prg.upto (p:Prg) (f b k:Nat):List Step:=p.posTo f ++ ((match p.funs[f]? with
 | some x=>x.posTo f b ++ (match x.blks[b]? with
  | some y=>y.posTo f b k
  | none=>[])
 | none=>[]))
theorem xW7 (p:Prg):p.upto 0 0 0=[]:=by
 unfold Prg.upto
 cases p.funs[0]? with
 | none=>rfl
 | some x =>
  cases hx:x.blks[0]? with
  | none=>simp [Prg.posTo,Fun.posTo,hx]
  | some y=>simp [Prg.posTo,Fun.posTo,Blk.posTo,hx]
theorem xXh {p:Prg} {f b k:Nat} {x:Fun} {y:Blk} {i:Ins} (hx:p.funs[f]?=some x) (hy:x.blks[b]?=some y) (hi:y.ins[k]?=some i):p.upto f b (k + 1)=p.upto f b k ++ [(f,b,k,i)]:=by
 simp only [Prg.upto,hx,hy]
 rw [Blk.posTo_succ hi];simp
theorem xXi {p:Prg} {f b:Nat} {x:Fun} {y:Blk} (hx:p.funs[f]?=some x) (hy:x.blks[b]?=some y):p.upto f (b + 1) 0=p.upto f b y.ins.length:=by
 simp only [Prg.upto,hx,hy]
 rw [Fun.posTo_succ hy]
 cases x.blks[b + 1]? with
 | none=>simp
 | some z=>simp [Blk.posTo]
theorem xXj {p:Prg} {f:Nat} {x:Fun} (hx:p.funs[f]?=some x):p.upto (f + 1) 0 0=p.upto f x.blks.length 0:=by
 have h1:p.upto f x.blks.length 0=p.posTo f ++ x.posTo f x.blks.length:=by simp [Prg.upto,hx]
 rw [h1,← Prg.posTo_succ hx]
 unfold Prg.upto
 cases p.funs[f + 1]? with
 | none=>simp
 | some z =>
  cases hz:z.blks[0]? with
  | none=>simp [Fun.posTo,hz]
  | some y=>simp [Fun.posTo,Blk.posTo,hz]
theorem xXk (p:Prg):p.upto p.funs.length 0 0=p.pos:=by simp [Prg.upto,Prg.pos]
noncomputable def Prg.parG (p:Prg) (L:List Step):List SEnv:=(List.range p.funs.length).map fun h=>(L.filter (isCall h)).foldl (callX p p.ssol) (parX0 p h)
noncomputable def Prg.ansG (p:Prg) (L:List Step):List Int:=(List.range p.funs.length).map fun h=>(L.filter fun s=>decide (s.1=h)).foldl (retX p p.ssol) 0
theorem xWq {p:Prg} {L:List Step}:(p.parG L).length=p.funs.length:=by simp [Prg.parG]
theorem xWx {p:Prg} {L:List Step}:(p.ansG L).length=p.funs.length:=by simp [Prg.ansG]
theorem xWy {p:Prg} {L:List Step} {h:Nat} (hh:h < p.funs.length):(p.parG L)[h]?=some ((L.filter (isCall h)).foldl (callX p p.ssol) (parX0 p h)):=by simp [Prg.parG,hh]
theorem xWz {p:Prg} {L:List Step} {h:Nat} (hh:h < p.funs.length):(p.ansG L)[h]?=some ((L.filter fun s=>decide (s.1=h)).foldl (retX p p.ssol) 0):=by simp [Prg.ansG,hh]
theorem xXl (p:Prg):p.ansG []=List.replicate p.funs.length 0:=by
 refine List.ext_getElem? fun j=>?_
 by_cases hj:j < p.funs.length
 ·rw [xWz hj];simp [hj]
 ·rw [List.getElem?_eq_none (by rw [xWx];omega),List.getElem?_eq_none (by simp;omega)]
theorem xXm {p:Prg} {L:List Step} {s:Step} (hf:s.1 < p.funs.length):p.ansG (L ++ [s])=(p.ansG L).set s.1 (retX p p.ssol ((L.filter fun t=>decide (t.1=s.1)).foldl (retX p p.ssol) 0) s):=by
 refine List.ext_getElem? fun j=>?_
 by_cases hj:j < p.funs.length
 ·rw [xWz hj]
  by_cases hjs:j=s.1
  ·subst hjs
   rw [List.getElem?_set_self (by rw [xWx];exact hj),List.filter_append,List.foldl_append]
   simp
  ·rw [List.getElem?_set_ne (Ne.symm hjs),xWz hj,List.filter_append]
   simp [Ne.symm hjs]
 ·rw [List.getElem?_eq_none (by rw [xWx];omega),List.getElem?_eq_none (by simp [xWx];omega)]
theorem xW8 {p:Prg} {L:List Step} {s:Step} (h9:s.2.2.2.kind ≠ 9):p.ansG (L ++ [s])=p.ansG L:=by
 refine List.map_congr_left fun h _=>?_
 rw [List.filter_append,List.foldl_append]
 by_cases hs:s.1=h
 ·simp [hs,retX,h9]
 ·simp [hs]
theorem xW9 {p:Prg} {L:List Step} {s:Step} (h7:s.2.2.2.kind ≠ 7):p.parG (L ++ [s])=p.parG L:=by
 refine List.map_congr_left fun h _=>?_
 have:isCall h s=false:=by simp [isCall,h7]
 rw [List.filter_append]
 simp [this]
theorem xXn {p:Prg} {L:List Step} {s:Step} {j:Nat} (hj:j < p.funs.length) (h7:s.2.2.2.kind=7) (hf:s.2.2.2.f=(j:Int)):p.parG (L ++ [s])=(p.parG L).set j (callX p p.ssol ((L.filter (isCall j)).foldl (callX p p.ssol) (parX0 p j)) s):=by
 refine List.ext_getElem? fun h=>?_
 by_cases hh:h < p.funs.length
 ·rw [xWy hh]
  by_cases hjs:h=j
  ·subst hjs
   have:isCall h s=true:=by simp [isCall,h7,hf]
   rw [List.getElem?_set_self (by rw [xWq];exact hh),List.filter_append,List.foldl_append]
   simp [this]
  ·have:isCall h s=false:=by simp [isCall,h7,hf];omega
   rw [List.getElem?_set_ne (Ne.symm hjs),xWy hh,List.filter_append]
   simp [this]
 ·rw [List.getElem?_eq_none (by rw [xWq];omega),List.getElem?_eq_none (by simp [xWq];omega)]
theorem xXo {p:Prg}:p.parG p.pos=p.parS:=by
 refine List.map_congr_left fun h hh=>?_
 rw [Prg.sAt_fix (u:=.par h) (List.mem_range.1 hh)];rfl
theorem xXs {p:Prg} {f:Nat} {x:Fun} (hx:p.funs[f]?=some x):∀m,m≤p.funs.length→(p.posTo m).filter (fun s=>decide (s.1=f))=if f < m then x.posTo f x.blks.length else []
 | 0,_=>by simp [Prg.posTo]
 | m + 1,hm=>by
  obtain ⟨z,hz⟩:∃ z,p.funs[m]?=some z:=⟨_,xgG (by omega)⟩
  rw [Prg.posTo_succ hz,List.filter_append,xXs hx m (by omega)]
  have hfm:∀s ∈ z.posTo m z.blks.length,s.1=m:=fun s hs=>(Fun.posTo_mem.1 hs).1
  by_cases h1:f=m
  ·subst h1
   rw [hx] at hz;cases hz
   rw [if_neg (by omega),if_pos (by omega),List.filter_eq_self.2 fun s hs=>by simp [hfm s hs]];simp
  ·rw [List.filter_eq_nil_iff.2 fun s hs=>by simp [hfm s hs];omega]
   by_cases h2:f < m
   ·rw [if_pos h2,if_pos (by omega)];simp
   ·rw [if_neg h2,if_neg (by omega)];simp
theorem xXp {p:Prg}:p.ansG p.pos=p.ansS:=by
 refine List.map_congr_left fun h hh=>?_
 rw [List.mem_range] at hh
 obtain ⟨x,hx⟩:∃ x,p.funs[h]?=some x:=⟨_,xgG hh⟩
 rw [Prg.pos,xXs hx _ (Nat.le_refl _),if_pos hh,Prg.sAt_fix (u:=.ans h) hh]
 have h1:answX p p.ssol h=(x.posTo h x.blks.length).foldl (retX p p.ssol) 0:=by simp [answX,Prg.posF,hx]
 show _=gS [sgS (answX p p.ssol h)] 0
 rw [show (0:Int)=((0:Nat):Int) from rfl,xLR (v:=sgS (answX p p.ssol h)) rfl,xJ1,xAs (xKU p p.ssol h),h1];rfl
theorem Has.put {α:Type} {e:α→List AV} {sz:Nat} {S:St} {v:AV} {l:List α} (h:Has e sz S v l) {o j:Nat} {x y:α} (hx:l[j]?=some x) (ho:v=.sl sz o 0 l.length):Has e sz (S.set o (.row sz ((els e l).set j (e y)))) v (l.set j y):=by
 refine .inr ⟨o,by rw [ho];simp,by rw [xAg];simp,fun h0=>?_⟩
 have h1:=congrArg List.length h0
 have h2:=(xgS hx).1
 simp at h1
 subst h1
 simp at h2
structure EqI (p:Prg) (w1 w2 w3 v6:AV) (S:St) (L M:List Step):Prop where
 s0:S.obj 0=some (.row 1 [[p.funsV]])
 s1:S.obj 1=some (.row 3 [[w1,w2,w3]])
 s2:S.obj 2=some (.row 1 (els intc (p.ansG L)))
 par:Has envcS 2 S v6 (p.parG M)
 bel:∀sz o n,v6=.sl sz o 0 n→3≤o∧o < S.next
 n3:3≤S.next
theorem EqI.up {p:Prg} {w1 w2 w3 v6:AV} {S S':St} {L M:List Step} (h:EqI p w1 w2 w3 v6 S L M) (hu:Up S S'):EqI p w1 w2 w3 v6 S' L M :=
 have hn:=h.n3
 ⟨by rw [hu.2 _ (by omega)];exact h.s0,by rw [hu.2 _ (by omega)];exact h.s1,by rw [hu.2 _ (by omega)];exact h.s2,h.par.keep fun q ⟨c,hq⟩=>hu.2 q (h.bel _ _ _ hq).2,fun sz o n hv=>⟨(h.bel sz o n hv).1,Nat.lt_of_lt_of_le (h.bel sz o n hv).2 hu.1⟩,Nat.le_trans hn hu.1⟩
theorem EqI.put {p:Prg} {w1 w2 w3 v6:AV} {S:St} {L M:List Step} (h:EqI p w1 w2 w3 v6 S L M) {c:Nat} {x:AObj} (hc:3≤c) (hv:∀sz o n,v6=.sl sz o 0 n→o < c):EqI p w1 w2 w3 v6 (S.set c x) L M :=
 ⟨by simp [show ¬ 0=c by omega,h.s0],by simp [show ¬ 1=c by omega,h.s1],by simp [show ¬ 2=c by omega,h.s2],h.par.keep fun q ⟨n,hq⟩=>by have:=hv _ _ _ hq;simp [show ¬ q=c by omega],fun sz o n hv=>by simpa using h.bel sz o n hv,by simpa using h.n3⟩
theorem EqI.ans {p:Prg} {w1 w2 w3 v6:AV} {S:St} {L L' M:List Step} (h:EqI p w1 w2 w3 v6 S L M):EqI p w1 w2 w3 v6 (S.set 2 (.row 1 (els intc (p.ansG L')))) L' M :=
 ⟨by simp [h.s0],by simp [h.s1],by simp,h.par.keep fun q ⟨n,hq⟩=>by have:=(h.bel _ _ _ hq).1;simp [show ¬ q=2 by omega],fun sz o n hv=>by simpa using h.bel sz o n hv,by simpa using h.n3⟩
theorem xXv {p:Prg} {X:List SEnv} (L:List Step):sgOk (L.foldl (retX p X) 0):=(xCt (p:=p) (XLe.refl X) L xAr xAr (xAt xAr)).2
theorem xWK {p:Prg}:p.upto p.funs.length 0 0=p.pos:=xXk p
theorem xXa {p:Prg} {h:Nat} (hh:h < p.funs.length):(p.parG [])[h]?=some (parX0 p h):=by rw [xWy hh];rfl
set_option maxHeartbeats 2000000 in
theorem xWr (p:Prg):Ret P (gl N) false 4 [encP p] (.bool true):=by
 refine Ret.in c4 (by simp) ?_
 simp [k4]
 refine (xGb).use (n:=9) (by rfl) rfl ?_
 simp
 refine (xIt p).use (n:=9) (by simp [mapOpt,xAd p.funsS.stab]) (by simp [solids,AV.solid,p.funsS.solid]) ?_
 cases hfew:p.few
 ·simp
  exact RK.eq rfl rfl
 have hp:=Prg.few_fit hfew
 simp
 refine (xD0 p hp).use (n:=9) (by simp [mapOpt,xAd p.funsS.stab]) (by simp [solids,AV.solid,p.funsS.solid]) ?_
 cases hsane:p.sane
 ·simp
  exact RK.eq rfl rfl
 simp
 have hOK:p.OK:=⟨hp,hsane⟩
 have hfl6:=(Prg.sane_iff.1 hsane).1
 have hroom:p.funs.length≤room:=by simp [room];omega
 refine (xDI hOK).use (n:=9) (by simp [mapOpt,xAd p.funsS.stab]) (by simp [solids,AV.solid,p.funsS.solid]) ?_
 have hTl:(solveE p).solid=true∧∀S n,pict S [] (n + 2) (solveE p)=some (solveE p):=by
  obtain ⟨w1,w2,w3,hT,h1,h2,h3⟩:=xWm p
  rw [hT]
  exact ⟨by simp [AV.solid,solids,h1.solid,h2.solid,h3.solid],fun S n=>by simp [mapOpt,xAd h1.stab,xAd h2.stab,xAd h3.stab]⟩
 have hEnd:=fun f b x y hx hy=>xW6 (N:=N) hOK (f:=f) (b:=b) (x:=x) (y:=y) hx hy
 have hNext:=fun e i he hi=>xWE (N:=N) (p:=p) e i he hi
 obtain ⟨hTl,hTp⟩:=hTl
 obtain ⟨w1,w2,w3,hT,h1,h2,h3⟩:=xWm p
 rw [hT] at hTl hTp hEnd hNext ⊢
 have hl1:p.insS.length=p.funs.length:=by simp [Prg.insS]
 have hl2:p.parS.length=p.funs.length:=by simp [Prg.parS]
 have hl3:p.ansS.length=p.funs.length:=by simp [Prg.ansS]
 simp [xJL h1,xJL h2,xJL h3,h1.len,h2.len,h3.len,hl1,hl2,hl3,p.funsS.len,hroom]
 refine W.whileI (fun (f:Nat) F S=>f≤p.funs.length∧F 1=.ptr 0 0 0∧F 3=.bool true∧F 4=.ptr 1 0 0∧F 5=.sl 1 2 0 p.funs.length∧F 7=.int .i64 f∧S.obj 0=some (.row 1 [[p.funsV]])∧S.obj 1=some (.row 3 [[w1,w2,w3]])∧S.obj 2=some (.row 1 (List.replicate p.funs.length [.int .i64 0]))∧3≤S.next∧∃ v,F 6=v∧v.one=true∧Has envcS 2 S v ((p.parG []).take f)∧Bel S v∧∀sz o n,v=.sl sz o 0 n→3≤o) (fun f=>p.funs.length - f) ?_ 0 _ _ ?_
 ·rintro f F S ⟨hf,f1,f3,f4,f5,f7,s0,s1,s2,n3,v,f6,hv1,hv,hvb,hvn⟩
  simp [f1,f7,s0,p.funsS.len]
  by_cases hlt:f < p.funs.length
  ·obtain ⟨x,hx⟩:∃ x,p.funs[f]?=some x:=⟨_,xgG hlt⟩
   have e4:=wrapS f (by omega)
   have hst:(p.parG []).take (f + 1)=(p.parG []).take f ++ [parX0 p f]:=xAe (xXa hlt)
   have hlk:((p.parG []).take f).length=f:=by rw [List.length_take,xWq];omega
   simp [hlt,f7]
   generalize hS1:(S.new (.row 2 [[.bool false,.nilsl]])).set S.next (.row 2 [[.bool false,.nilsl]])=S1
   have hu1:Up S S1:=by rw [← hS1];exact (Up.new _ _).put (Nat.le_refl _) _
   have o1:S1.obj S.next=some (.row 2 [[.bool false,.nilsl]]):=by rw [← hS1];simp
   have n1:S1.next=S.next + 1:=by rw [← hS1];simp
   clear hS1
   refine Bra.cut (fun F' S2=>F' 1=.ptr 0 0 0∧F' 3=.bool true∧F' 4=.ptr 1 0 0∧F' 5=.sl 1 2 0 p.funs.length∧F' 6=v∧F' 7=.int .i64 f∧F' 8=.ptr S.next 0 0∧Up S S2∧S.next < S2.next∧S2.obj S.next=some (.row 2 [envcS (parX0 p f)])) ?_ ?_
   ·refine xAj (fun h0=>?_) (fun h0=>?_)
    ·subst h0
     have hxi:=p.funsS.idx hx
     rw [show ((0:Nat):Int)=0 from rfl] at hxi
     have s0':S1.obj 0=some (.row 1 [[p.funsV]]):=by rw [hu1.2 _ (by omega)];exact s0
     simp [f1,s0',hxi]
     refine (xGa x.par (v:=7) ⟨by omega,by omega⟩).use (n:=9) (by simp [mapOpt]) rfl ?_
     have hP:parX0 p 0=some (allS x.par 7):=by simp [parX0,Prg.parOf,hx]
     simp [o1,f1,f3,f4,f5,f6,f7,hP]
     exact ⟨hu1.put (Nat.le_refl _) _,by omega⟩
    ·have hP:parX0 p f=none:=by simp [parX0,h0]
     simp [f1,f3,f4,f5,f6,f7,hP]
     exact ⟨hu1,by omega,o1⟩
   ·rintro F' S2 ⟨f1,f3,f4,f5,f6,f7,f8,hu2,hn2,o2⟩
    obtain ⟨u1,u2,huu⟩:∃ u1 u2,envcS (parX0 p f)=[u1,u2]:=by cases parX0 p f <;> exact ⟨_,_,rfl⟩
    simp [f6,f8,o2]
    refine xBe (e:=envcS) (x:=parX0 p f) ((hv.keep fun q ⟨c,hq⟩=>hu2.2 q (hvb _ _ _ hq)).new (hvb.mono hu2.1)) (xLT _) (by rw [hlk];simp [room];omega) fun S3 m1 m2 m3=>?_
    rw [hlk,← hst] at m1
    simp at m1 m2 m3
    rw [hlk]
    have kq:∀q,q < 3→S3.obj q=S.obj q:=fun q hq=>by rw [m3 q (by omega) fun len h=>by have:=hvn _ _ _ h;omega,if_neg (by omega),hu2.2 q (by omega)]
    simp [f1,f3,f4,f5,f7,e4]
    exact ⟨f + 1,by omega,by omega,by omega,(kq 0 (by omega)).trans s0,(kq 1 (by omega)).trans s1,(kq 2 (by omega)).trans s2,by have:=hu2.1;omega,m1,Bel.sl (by omega),by have:=hu2.1;omega⟩
  ·have:f=p.funs.length:=by omega
   subst this
   have hall:(p.parG []).take p.funs.length=p.parG []:=List.take_of_length_le (by rw [xWq];exact Nat.le_refl _)
   rw [hall] at hv
   have hE0:EqI p w1 w2 w3 v S (p.upto 0 0 0) (p.upto 0 0 0):=by
    rw [xW7]
    exact ⟨s0,s1,by rw [s2,xXl,← xAh];rfl,hv,fun sz o n h=>⟨hvn sz o n h,hvb _ _ _ h⟩,n3⟩
   simp
   refine W.whileI (fun (f:Nat) F S=>f≤p.funs.length∧F 1=.ptr 0 0 0∧F 3=.bool true∧F 4=.ptr 1 0 0∧F 5=.sl 1 2 0 p.funs.length∧F 6=v∧F 9=.int .i64 f∧EqI p w1 w2 w3 v S (p.upto f 0 0) (p.upto f 0 0)) (fun f=>p.funs.length - f) ?_ 0 _ _ ?_
   ·clear f1 f3 f4 f5 f6 f7 s0 s1 s2 n3 hv hvb hE0 hall
    rintro f F S ⟨hf,f1,f3,f4,f5,f6,f9,hE⟩
    have s0:=hE.s0
    have s1:=hE.s1
    simp [f1,f9,s0,p.funsS.len]
    by_cases hlt:f < p.funs.length
    ·obtain ⟨x,hx⟩:∃ x,p.funs[f]?=some x:=⟨_,xgG hlt⟩
     have e4:=wrapS f (by omega)
     have hnb:p.nb f=x.blks.length:=Prg.nb_of hx
     have hbl:=(hOK.fun hx).len.2
     have hrow:FSl envcS 2 (encF envcS 2 (p.insRow f (p.nb f))) (p.insRow f (p.nb f)):=xAx
     have hrl:=xWt (p:=p) (f:=f) (m:=p.nb f)
     have hix:=h1.idx (xWG hlt)
     have hro:=xJL hrow
     generalize encF envcS 2 (p.insRow f (p.nb f))=rv at *
     rw [hnb] at hrow hrl
     have hxi:=p.funsS.idx hx
     have hpi:=h2.idx (xWw hlt)
     simp [hlt]
     refine Dra.auto [] mix ?_ ?_
     ·kernel_rfl
     simp [classes,f1,f4,f9,s0,s1,hix,hxi,hrow.len,hrl,x.blksS.len]
     refine W.whileI (fun (b:Nat) F S=>b≤x.blks.length∧F 1=.ptr 0 0 0∧F 3=.bool true∧F 4=.ptr 1 0 0∧F 5=.sl 1 2 0 p.funs.length∧F 6=v∧F 9=.int .i64 f∧F 10=.int .i64 b∧EqI p w1 w2 w3 v S (p.upto f b 0) (p.upto f b 0)) (fun b=>x.blks.length - b) ?_ 0 _ _ ?_
     ·clear f1 f3 f4 f5 f6 f9 s0 s1 hE
      rintro b F S ⟨hb,f1,f3,f4,f5,f6,f9,f10,hE⟩
      have s0:=hE.s0
      have s1:=hE.s1
      have n3:=hE.n3
      simp [f4,f9,f10,s1,hix,hrow.len,hrl]
      by_cases hltb:b < x.blks.length
      ·obtain ⟨y,hy⟩:∃ y,x.blks[b]?=some y:=⟨_,xgG hltb⟩
       have e5:=wrapS b (by omega)
       have hyi:=x.blksS.idx hy
       have hrb:=hrow.idx (xWs (p:=p) (f:=f) hltb)
       obtain ⟨hil,hcl,hiok⟩:=hOK.blk hx hy
       simp [hltb,f10]
       generalize hS1:(S.new (.row 2 [[.bool false,.nilsl]])).set S.next (.row 2 [[.bool false,.nilsl]])=S1
       have hu1:Up S S1:=by rw [← hS1];exact (Up.new _ _).put (Nat.le_refl _) _
       have o1:S1.obj S.next=some (.row 2 [[.bool false,.nilsl]]):=by rw [← hS1];simp
       have n1:S1.next=S.next + 1:=by rw [← hS1];simp
       clear hS1
       have hE1:=hE.up hu1
       have s01:=hE1.s0
       have s11:=hE1.s1
       have hb1:b=0→begX0 p p.ssol f b=(p.sAt (.par f)).start x.par x.vars:=fun h=>by unfold begX0;rw [if_pos h];simp [Prg.parOf,Prg.varsOf,hx,Prg.sAt]
       have hb2:b ≠ 0→begX0 p p.ssol f b=none:=fun h=>by unfold begX0;rw [if_neg h]
       refine Bra.cut (fun F' S2=>F' 1=.ptr 0 0 0∧F' 3=.bool true∧F' 4=.ptr 1 0 0∧F' 5=.sl 1 2 0 p.funs.length∧F' 6=v∧F' 9=.int .i64 f∧F' 10=.int .i64 b∧F' 11=.ptr S.next 0 0∧Up S S2∧S.next < S2.next∧S2.obj S.next=some (.row 2 [envcS (begX0 p p.ssol f b)])) ?_ ?_
       ·refine xAj (fun h0=>?_) (fun h0=>?_)
        ·rw [hb1 h0]
         simp
         refine Dra.auto [] mix ?_ ?_
         ·kernel_rfl
         simp [classes,f1,f4,f9,s01,s11,hxi,hpi]
         refine (xI3 x (p.sAt (.par f)) (p.ssol_ok _)).b (n:=9) (by simp [mapOpt,xAd x.blksS.stab]) (by simp [solids,AV.solid,x.blksS.solid]) ?_
         simp [o1,f1,f3,f4,f5,f6,f9,f10]
         exact ⟨hu1.put (Nat.le_refl _) _,by omega⟩
        ·rw [hb2 h0]
         simp [f1,f3,f4,f5,f6,f9,f10]
         exact ⟨hu1,by omega,o1⟩
       ·clear f1 f3 f4 f5 f6 f9 f10 s0 s1 s01 s11
        rintro F S2 ⟨f1,f3,f4,f5,f6,f9,f10,f11,hu2,hn2,o2⟩
        have hE2:=hE.up hu2
        have s0:=hE2.s0
        have s1:=hE2.s1
        simp [f1,f9,f10,s0]
        have hC:=(xEB (N:=N) p f b hp).ret
        obtain ⟨hPQ,hPN⟩:=Prg.predsN_of hOK (f:=f) (b:=b) hx
        rw [hPQ] at hC
        refine hC.use (n:=9) (by simp [mapOpt,xAd p.funsS.stab]) (by simp [solids,AV.solid,p.funsS.solid]) ?_
        have hEv:p.sAt (.blk f b)=begXTo p p.ssol f b (x.preds b):=by rw [Prg.sAt_fix (u:=.blk f b) ⟨x,hx,hltb⟩,← hPN];rfl
        have hpl:(x.preds (b:Int)).length≤12:=Nat.le_trans (x.predsTo_len _ _) hbl
        have hpm:∀j ∈ x.preds (b:Int),∃ (m:Nat) (z:Blk),j=(m:Int)∧x.blks[m]?=some z:=fun j hj=>by
         obtain ⟨m,z,q1,q2,_⟩:=Fun.preds_mem.1 hj
         exact ⟨m,z,q1,q2⟩
        have hB0:begXTo p p.ssol f b []=begX0 p p.ssol f b:=rfl
        generalize x.preds (b:Int)=Lp at *
        have hLf:FSl intc 1 (encF intc 1 Lp) Lp:=xAx
        generalize encF intc 1 Lp=lv at *
        rw [← hB0] at o2
        simp
        refine W.whileI (fun (k:Nat) F S3=>k≤Lp.length∧F 1=.ptr 0 0 0∧F 3=.bool true∧F 4=.ptr 1 0 0∧F 5=.sl 1 2 0 p.funs.length∧F 6=v∧F 9=.int .i64 f∧F 10=.int .i64 b∧F 11=.ptr S.next 0 0∧F 12=lv∧F 13=.int .i64 k∧Up S S3∧S.next < S3.next∧S3.obj S.next=some (.row 2 [envcS (begXTo p p.ssol f b (Lp.take k))])) (fun k=>Lp.length - k) ?_ 0 _ _ ?_
        ·clear f1 f3 f4 f5 f6 f9 f10 f11 s0 s1 hE2 o2 hu2 hn2
         rintro k F S3 ⟨hk,f1,f3,f4,f5,f6,f9,f10,f11,f12,f13,hu3,hn3,o3⟩
         have hE3:=hE.up hu3
         have s0:=hE3.s0
         have s1:=hE3.s1
         simp [f12,f13,hLf.len]
         by_cases hltk:k < Lp.length
         ·obtain ⟨j,hj⟩:∃ j,Lp[k]?=some j:=⟨_,xgG hltk⟩
          obtain ⟨m,z,rfl,hz⟩:=hpm j (xmG hj)
          have e6:=wrapS k (by omega)
          have hst:begXTo p p.ssol f b (Lp.take (k + 1))=(begXTo p p.ssol f b (Lp.take k)).join (hereX p p.ssol f m z.ins.length):=by
           rw [xAe hj,begXTo,List.foldl_append]
           simp only [List.foldl_cons,List.foldl_nil,Int.toNat_natCast]
           rw [Prg.cd_of hx hz];rfl
          have hok:(begXTo p p.ssol f b (Lp.take k)).ok:=xI2 p.ssol_ok f b _
          have hH:(hereX p p.ssol f m z.ins.length).ok:=xDh p.ssol_ok _ _ _
          simp [hltk]
          refine Dra.auto [] mix ?_ ?_
          ·kernel_rfl
          simp [classes,f1,f4,f9,f11,f12,f13,o3,s0,s1,hLf.idx hj,intc]
          refine (hEnd f m x z hx hz).b (n:=9) (by simp [mapOpt,hTp,xAd p.funsS.stab]) (by simp [solids,AV.solid,p.funsS.solid,h1.solid,h2.solid,h3.solid]) ?_
          simp
          refine (xHP _ _ hok hH).b (n:=9) (by simp [mapOpt]) (by simp [solids,AV.solid]) ?_
          rw [← hst]
          simp [f1,f3,f4,f5,f6,f9,f10,f11,f12,f13,o3,e6]
          exact ⟨k + 1,by omega,by omega,by omega,hu3.put (Nat.le_refl _) _,by omega,rfl⟩
         ·have:k=Lp.length:=by omega
          subst this
          rw [List.take_length,← hEv] at o3
          simp
          refine Dra.auto [] mix ?_ ?_
          ·kernel_rfl
          simp [classes,f4,f9,f10,f11,o3,s1]
          refine (xWl (p.sAt (.blk f b))).b (n:=9) (by simp [mapOpt]) (by simp [solids,AV.solid]) ?_
          simp [f4,f9,f10,s1,hix,hrb]
          refine (xWl (p.sAt (.blk f b))).b (n:=9) (by simp [mapOpt]) (by simp [solids,AV.solid]) ?_
          simp
          refine (xWn (p.sAt (.blk f b)) (p.ssol_ok _)).b (n:=9) (by simp [mapOpt]) rfl ?_
          simp [f1,f4,f9,f10,s0,s1,hix,hrb,show ¬ 0=S3.next by omega,hxi,hyi]
          have hvlt:=hE.bel
          generalize hS4:(S3.new (.row 2 [[.bool false,.nilsl]])).set S3.next (.row 2 [envcS (p.sAt (.blk f b))])=S4
          have hu4:Up S3 S4:=by rw [← hS4];exact (Up.new _ _).put (Nat.le_refl _) _
          have o4:S4.obj S3.next=some (.row 2 [envcS (hereX p p.ssol f b 0)]):=by rw [xOc,← hS4];simp
          have n4:S3.next < S4.next:=by rw [← hS4];simp
          clear hS4
          have hE4:=hE3.up hu4
          refine W.whileI (fun (k:Nat) F S5=>k≤y.ins.length∧F 1=.ptr 0 0 0∧F 3=.bool true∧F 4=.ptr 1 0 0∧F 5=.sl 1 2 0 p.funs.length∧F 6=v∧F 9=.int .i64 f∧F 10=.int .i64 b∧F 14=.ptr S3.next 0 0∧F 15=y.insV∧F 16=.int .i64 k∧EqI p w1 w2 w3 v S5 (p.upto f b k) (p.upto f b k)∧S3.next < S5.next∧S5.obj S3.next=some (.row 2 [envcS (hereX p p.ssol f b k)])) (fun k=>y.ins.length - k) ?_ 0 _ _ ?_
          ·clear f1 f3 f4 f5 f6 f9 f10 f11 f12 f13 s0 s1 o4 hE4 n4 hu4
           rintro k F S5 ⟨hk,f1,f3,f4,f5,f6,f9,f10,f14,f15,f16,hE5,hn5,o5⟩
           simp [f15,f16,y.insS.len]
           by_cases hltk:k < y.ins.length
           ·obtain ⟨i,hi⟩:∃ i,y.ins[k]?=some i:=⟨_,xgG hltk⟩
            have e6:=wrapS k (by omega)
            have hii:=y.insS.idx hi
            have hup:=xXh hx hy hi
            have hH:(hereX p p.ssol f b k).ok:=xDh p.ssol_ok _ _ _
            have hnx:=xOd (X:=p.ssol) (f:=f) (b:=b) (k:=k) (i:=i) (by rw [Prg.cd_of hx hy];exact hi)
            have hi7:=fun h7=>hcl i (xmG hi) h7
            have hdc:∀sz o n,v=.sl sz o 0 n→o < S3.next:=fun sz o n h=>by have:=(hvlt sz o n h).2;omega
            have hc3:3≤S3.next:=by omega
            generalize hL:p.upto f b k=L at *
            simp [hltk,f15,f16,hii]
            refine Bra.cut (fun F' S6=>F' 1=.ptr 0 0 0∧F' 3=.bool true∧F' 4=.ptr 1 0 0∧F' 5=.sl 1 2 0 p.funs.length∧F' 6=v∧F' 9=.int .i64 f∧F' 10=.int .i64 b∧F' 14=.ptr S3.next 0 0∧F' 15=y.insV∧F' 16=.int .i64 k∧EqI p w1 w2 w3 v S6 (p.upto f b (k + 1)) L∧S3.next < S6.next∧S6.obj S3.next=some (.row 2 [envcS (hereX p p.ssol f b k)])) ?_ ?_
            ·refine xAj (fun h9=>?_) (fun h9=>?_)
             ·have hacc:=xWz (p:=p) (L:=L) hlt
              have hset:p.ansG (p.upto f b (k + 1))=(p.ansG L).set f (sgJ ((L.filter fun t=>decide (t.1=f)).foldl (retX p p.ssol) 0) ((hereX p p.ssol f b k).get i.a)):=by
               rw [hup,xXm (s:=(f,b,k,i)) hlt]
               show (p.ansG L).set f (retX p p.ssol _ (f,b,k,i))=_
               unfold retX
               rw [if_pos h9]
              have hacco:=xXv (p:=p) (X:=p.ssol) (L.filter fun t=>decide (t.1=f))
              generalize (L.filter fun t=>decide (t.1=f)).foldl (retX p p.ssol) 0=acc at *
              have s2:=hE5.s2
              simp
              refine Dra.auto [] mix ?_ ?_
              ·kernel_rfl
              simp [classes,f5,f9,f14,f15,f16,xAc hlt,s2,hacc,o5,hii,intc]
              refine (xAA _ i.a hH).b (n:=9) (by simp [mapOpt]) (by simp [solids,AV.solid]) ?_
              simp
              refine (xEc (b:=(hereX p p.ssol f b k).get i.a) hacco (SEnv.get_ok _ _)).b (n:=9) (by simp [mapOpt]) rfl ?_
              have hset':(els intc (p.ansG L)).set f [.int .i64 (sgJ acc ((hereX p p.ssol f b k).get i.a))]=els intc (p.ansG (p.upto f b (k + 1))):=by rw [hset,← xAg];rfl
              simp [xAc hlt,s2,hacc,intc,hset',f1,f3,f4,f5,f6,f9,f10,f14,f15,f16]
              exact ⟨hE5.ans,hn5,by simp [show ¬ S3.next=2 by omega,o5]⟩
             ·have hset:p.ansG (p.upto f b (k + 1))=p.ansG L:=by rw [hup];exact xW8 (s:=(f,b,k,i)) h9
              simp [f1,f3,f4,f5,f6,f9,f10,f14,f15,f16]
              exact ⟨⟨hE5.s0,hE5.s1,by rw [hset];exact hE5.s2,hE5.par,hE5.bel,hE5.n3⟩,hn5,o5⟩
            ·clear f1 f3 f4 f5 f6 f9 f10 f14 f15 f16 hE5 hn5 o5
             rintro F S6 ⟨f1,f3,f4,f5,f6,f9,f10,f14,f15,f16,hE6,hn6,o6⟩
             simp [f15,f16,hii]
             refine Bra.cut (fun F' S7=>F' 1=.ptr 0 0 0∧F' 3=.bool true∧F' 4=.ptr 1 0 0∧F' 5=.sl 1 2 0 p.funs.length∧F' 6=v∧F' 9=.int .i64 f∧F' 10=.int .i64 b∧F' 14=.ptr S3.next 0 0∧F' 15=y.insV∧F' 16=.int .i64 k∧EqI p w1 w2 w3 v S7 (p.upto f b (k + 1)) (p.upto f b (k + 1))∧S3.next < S7.next∧S7.obj S3.next=some (.row 2 [envcS (hereX p p.ssol f b k)])) ?_ ?_
             ·refine xAj (fun h7=>?_) (fun h7=>?_)
              ·obtain ⟨hf0,hfh⟩:=hi7 h7
               obtain ⟨j,hff⟩:∃ j:Nat,i.f=(j:Int):=⟨i.f.toNat,by omega⟩
               rw [hff,Int.toNat_natCast] at hfh
               have hjl:j < p.funs.length:=hfh
               have hn3:0≤i.n∧i.n≤3:=by
                have:=hiok i (xmG hi)
                obtain ⟨_,_,_,q1,q2,_⟩:=this
                exact ⟨q1,q2⟩
               have hpg:=xWy (p:=p) (L:=L) hjl
               have hset:p.parG (p.upto f b (k + 1))=(p.parG L).set j (((L.filter (isCall j)).foldl (callX p p.ssol) (parX0 p j)).join (handedS (hereX p p.ssol f b k) i)):=by
                rw [hup,xXn (s:=(f,b,k,i)) hjl h7 hff]
                congr 1
                unfold callX
                simp only
                cases hereX p p.ssol f b k with
                | none=>exact (SEnv.join_none (xFh (fun s e he=>xKX s he) _ (xKY p j))).symm
                | some l=>rfl
               have hold:((L.filter (isCall j)).foldl (callX p p.ssol) (parX0 p j)).ok:=xFh (fun s e he=>xKX s he) _ (xKY p j)
               have hhd:(handedS (hereX p p.ssol f b k) i).ok:=by
                cases hereX p p.ssol f b k with
                | none=>exact SEnv.ok_none
                | some l=>exact SEnv.ok_some (xKV _ _)
               generalize (L.filter (isCall j)).foldl (callX p p.ssol) (parX0 p j)=old at *
               obtain ⟨q,hvq,hqo,hqi⟩:=hE6.par.idx hpg
               rw [← hff] at hqi
               have hqb:=hE6.bel _ _ _ hvq
               have hqc:=hdc _ _ _ hvq
               simp
               refine Dra.autoR ⟨1,fun z=>if z=q then some (.row 2 (els envcS (p.parG L))) else none⟩ (xHR hqo) [19] [5,11,13] mix ?_ ?_
               ·kernel_rfl
               simp [classes,f6,f14,f15,f16,hii,hqi,o6,hpg]
               refine ⟨_,_,xWJ (hereX p p.ssol f b k) i hH hn3 ⟨rfl,rfl⟩,xHR hqo,?_⟩
               simp
               refine ⟨_,_,(xHP old _ hold hhd).use (n:=9) (by simp [mapOpt]) (by simp [solids,AV.solid]) ⟨rfl,rfl⟩,xHR hqo,?_⟩
               have hP2:=hE6.par.put (y:=old.join (handedS (hereX p p.ssol f b k) i)) hpg hvq
               rw [← hset] at hP2
               simp [hii,hqi,hqo,hpg,f1,f3,f4,f5,f6,f9,f10,f14,f15,f16]
               refine ⟨trivial,?_⟩
               simp [f1,f3,f4,f5,f6,f9,f10,f14,f15,f16]
               refine ⟨⟨by simp [show ¬ 0=q by omega,hE6.s0],by simp [show ¬ 1=q by omega,hE6.s1],by simp [show ¬ 2=q by omega,hE6.s2],hP2,fun sz o n h=>by simpa using hE6.bel sz o n h,by simpa using hE6.n3⟩,hn6,by simp [show ¬ S3.next=q by omega,o6]⟩
              ·have hset:p.parG (p.upto f b (k + 1))=p.parG L:=by rw [hup];exact xW9 (s:=(f,b,k,i)) h7
               simp [f1,f3,f4,f5,f6,f9,f10,f14,f15,f16]
               exact ⟨⟨hE6.s0,hE6.s1,hE6.s2,by rw [hset];exact hE6.par,hE6.bel,hE6.n3⟩,hn6,o6⟩
             ·clear f1 f3 f4 f5 f6 f9 f10 f14 f15 f16 hE6 hn6 o6
              rintro F S7 ⟨f1,f3,f4,f5,f6,f9,f10,f14,f15,f16,hE7,hn7,o7⟩
              have s1:=hE7.s1
              simp
              refine Dra.auto [] mix ?_ ?_
              ·kernel_rfl
              simp [classes,f4,f14,f15,f16,s1,o7,hii]
              refine (hNext (hereX p p.ssol f b k) i hH hi7).b (n:=9) (by simp [mapOpt,hTp]) (by simp [solids,AV.solid,h1.solid,h2.solid,h3.solid]) ?_
              rw [← hnx]
              simp [f1,f3,f4,f5,f6,f9,f10,f14,f15,f16,o7,e6]
              exact ⟨k + 1,by omega,by omega,by omega,hE7.put hc3 hdc,hn7,rfl⟩
           ·have:k=y.ins.length:=by omega
            subst this
            rw [← xXi hx hy] at hE5
            simp [f1,f3,f4,f5,f6,f9,f10,e5]
            exact ⟨b + 1,by omega,by omega,by omega,hE5⟩
          ·simp [f1,f3,f4,f5,f6,f9,f10]
           exact ⟨hE4,n4,o4⟩
        ·simp [f1,f3,f4,f5,f6,f9,f10,f11]
         exact ⟨hu2,hn2,o2⟩
      ·have:b=x.blks.length:=by omega
       subst this
       rw [← xXj hx] at hE
       simp [f1,f3,f4,f5,f6,f9,e4]
       exact ⟨f + 1,by omega,by omega,by omega,hE⟩
     ·simp [f1,f3,f4,f5,f6,f9]
      exact hE
    ·have:f=p.funs.length:=by omega
     subst this
     rw [xWK] at hE
     have s2:=hE.s2
     have hpar:=hE.par
     rw [xXp] at s2
     rw [xXo] at hpar
     simp
     refine W.whileI (fun (f:Nat) F S'=>S'=S∧f≤p.funs.length∧F 1=.ptr 0 0 0∧F 3=.bool true∧F 4=.ptr 1 0 0∧F 5=.sl 1 2 0 p.funs.length∧F 6=v∧F 17=.int .i64 f) (fun f=>p.funs.length - f) ?_ 0 _ _ ?_
     ·clear f1 f3 f4 f5 f6 f9
      rintro f F S' ⟨rfl,hf,f1,f3,f4,f5,f6,f17⟩
      simp [f1,f17,s0,p.funsS.len]
      by_cases hlt:f < p.funs.length
      ·have e4:=wrapS f (by omega)
       have ha:=xWT hlt
       have hai:=h3.idx ha
       have hpi:=h2.idx (xWw hlt)
       obtain ⟨q,hvq,hqo,hqi⟩:=hpar.idx (xWw hlt)
       simp [hlt]
       refine Dra.auto [] mix ?_ ?_
       ·kernel_rfl
       simp [classes,f4,f5,f6,f17,xAc hlt,s1,s2,ha,hai,hqi,hqo,xWw hlt,intc]
       refine (xWl (p.sAt (.par f))).b (n:=9) (by simp [mapOpt]) (by simp [solids,AV.solid]) ?_
       simp [f4,f17,s1,hpi]
       refine (xWl (p.sAt (.par f))).b (n:=9) (by simp [mapOpt]) (by simp [solids,AV.solid]) ?_
       simp
       refine (xWn (p.sAt (.par f)) (p.ssol_ok _)).b (n:=9) (by simp [mapOpt]) rfl ?_
       simp [f1,f3,f4,f5,f6,f17,e4]
       exact ⟨f + 1,by omega,by omega,by omega⟩
      ·have:f=p.funs.length:=by omega
       subst this
       simp [f3]
       exact RK.stab rfl
     ·simp [f1,f3,f4,f5,f6]
   ·simp [f1,f3,f4,f5,f6]
    exact hE0
 ·simp
  exact ⟨Has.nil,Bel.nil⟩
end Go.Proofs.YtnhfofmhkfdpgaaGreatDoor.Vm
