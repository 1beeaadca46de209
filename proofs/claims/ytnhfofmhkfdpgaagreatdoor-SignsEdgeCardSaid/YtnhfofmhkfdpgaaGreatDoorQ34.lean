/- A part of the proof: Cq Cr Cs Db. -/
import Derived.KernelRfl
import Derived.Test.YtnhfofmhkfdpgaaGreatDoorQ33
set_option linter.unusedVariables false
set_option linter.unusedSimpArgs false
set_option linter.constructorNameAsVariable false
namespace Go.Proofs.YtnhfofmhkfdpgaaGreatDoor.Vm
set_option maxRecDepth 100000
open Go Go.RowKit
variable {N:Nat} {g:Glob}
theorem xV4 : mrow P 108 "bywash/signs.of" = some (0, some (319, false)) := by kernel_rfl
theorem xV5 : mrow P 109 "bywash/signs.of" = some (0, some (320, false)) := by kernel_rfl
theorem xV6 : mrow P 111 "bywash/signs.of" = some (0, some (321, false)) := by kernel_rfl
theorem isStruct {x:Option TypeDesc} (hx:(match x with
 | some (.struct _)=>true
 | _=>false)=true):∃ fs,x=some (.struct fs):=by
 split at hx
 ·exact ⟨_,rfl⟩
 ·cases hx
def Unk.fn:Unk->Nat
 | .par f=>f
 | .ans f=>f
 | .blk f _=>f
theorem xV7 {u : Unk} {S : St} {K : AV → St → Prop} (hk : ∀ S', Up S S' → K (.int .i64 (u.fn : Int)) S') : CalI P (gl N) (unkV u) "bywash/signs.of" [] S K := by
 cases u with
 | par f =>
  obtain ⟨fs,hu⟩:=isStruct (x:=P.underlying 108) (by kernel_rfl)
  refine CalI.a xV4 hu ?_
  refine c319.in (by simp) ?_
  simp [k319]
  exact hk _ (Up.new _ _)
 | ans f =>
  obtain ⟨fs,hu⟩:=isStruct (x:=P.underlying 109) (by kernel_rfl)
  refine CalI.a xV5 hu ?_
  refine c320.in (by simp) ?_
  simp [k320]
  exact hk _ (Up.new _ _)
 | blk f b =>
  obtain ⟨fs,hu⟩:=isStruct (x:=P.underlying 111) (by kernel_rfl)
  refine CalI.a xV6 hu ?_
  refine c321.in (by simp) ?_
  simp [k321]
  exact hk _ (Up.new _ _)
structure TbI (S2 S:St) (p:Prg) (k:Nat):Prop where
 up:Up S2 S
 nx:S2.next + 4<=S.next
 tb:S.obj (S2.next + 3)=some (.row 3 [[.sl 1 S2.next 0 p.funs.length,.sl 2 (S2.next + 1) 0 p.funs.length,.sl 1 (S2.next + 2) 0 p.funs.length]])
 prs:S.obj (S2.next + 1)=some (.row 2 (els envcS (p.parTo k)))
 ans:S.obj (S2.next + 2)=some (.row 1 (els intc (p.ansTo k)))
 ins:∃ es,RowsG envcS 2 (S2.next + 4) S S2.next es (p.insTo k)
theorem TbI.more {S2 S S':St} {p:Prg} {k:Nat} (h:TbI S2 S p k) (hu:Up S S'):TbI S2 S' p k :=
 have hn:=h.nx
 ⟨h.up.trans hu,Nat.le_trans hn hu.1,by rw [hu.2 _ (by omega)];exact h.tb,by rw [hu.2 _ (by omega)];exact h.prs,by rw [hu.2 _ (by omega)];exact h.ans,h.ins.imp fun _ hr=>hr.up hu⟩
set_option maxHeartbeats 1000000 in
theorem xCS {p:Prg} (hp:p.OK):Ret P (gl N) false 16 [encP p] (solveE p):=by
 refine Ret.inF (by kernel_rfl) ?_
 have hfl:=(Prg.sane_iff.1 hp.sane).1
 have hroom:p.funs.length<=room:=by simp [room];omega
 have hr200:200<=room:=by simp [room]
 have hul:=Prg.unks_len hp.sane
 conv=>arg 3;reduce
 simp
 refine (xB7 p hp.fit).use (n:=9) (by simp [mapOpt,xAc p.funsS.stab]) (by simp [solids,AV.solid,p.funsS.solid]) ?_
 simp [hp.sane]
 refine xHL hp fun ps av qm S1 hu1 hS1 _ _ _=>?_
 simp
 refine xKk hp hS1 fun o S2 ho hu2 ho2 hX=>?_
 simp
 have hu12:=hu1.trans hu2
 have b0:S2.obj 0=some (.row 1 [[p.funsV]]):=by rw [hu12.2 0 (by simp)];simp
 have n2:2<=S2.next:=by have:=hu12.1;simp at this;omega
 have hS2:=hS1.up hu2
 have hXR:XRow S2 o p p.ssol:=⟨hX,ho2,p.ssol_len,p.ssol_ok⟩
 refine Dra.auto [] mix ?_ ?_
 ·kernel_rfl
 have hpsl:=hS2.lt
 have hav:=hS2.all
 simp [classes,b0,p.funsS.len,hroom,hS2.box,hav.len,show ¬ ps=S2.next by omega,show ¬ ps=S2.next + 1 by omega,show ¬ ps=S2.next + 1 + 1 by omega,show ¬ ps=S2.next + 1 + 1 + 1 by omega]
 generalize hS3:((((S2.new (.row 1 (List.replicate p.funs.length [.nilsl]))).new (.row 2 (List.replicate p.funs.length [.bool false,.nilsl]))).new (.row 1 (List.replicate p.funs.length [.int .i64 0]))).new (.row 3 [[.nilsl,.nilsl,.nilsl]])).set (S2.next + 1 + 1 + 1) (.row 3 [[.sl 1 S2.next 0 p.funs.length,.sl 2 (S2.next + 1) 0 p.funs.length,.sl 1 (S2.next + 1 + 1) 0 p.funs.length]])=S3
 have hI0:TbI S2 S3 p 0:=by
  subst hS3
  refine ⟨⟨by simp;omega,fun q hq=>by simp [show ¬ q=S2.next by omega,show ¬ q=S2.next + 1 by omega,show ¬ q=S2.next + 1 + 1 by omega,show ¬ q=S2.next + 1 + 1 + 1 by omega]⟩,by simp,by simp,?_,?_,⟨_,by rw [Prg.insTo_zero];exact RowsG.start (by simp [show ¬ S2.next=S2.next + 1 + 1 by omega,show ¬ S2.next=S2.next + 1 + 1 + 1 by omega]) (by omega) (by simp)⟩⟩
  ·rw [Prg.parTo,xHM,<- xAh];simp
  ·rw [Prg.ansTo,xHM,<- xAh];simp [intc]
 clear hS3
 refine W.whileI (fun (k:Nat) F S=>k<=p.unks.length/\F 2=.ptr 1 0 0/\F 4=.sl 2 o 0 p.unks.length/\F 5=.ptr (S2.next + 1 + 1 + 1) 0 0/\F 33=av/\F 34=.int .i64 p.unks.length/\F 35=.int .i64 k/\TbI S2 S p k) (fun k=>p.unks.length - k) ?_ 0 _ _ ?_
 ·rintro k F S ⟨hkl,f2,f4,f5,f33,f34,f35,hI⟩
  by_cases hlt:k < p.unks.length
  ·obtain ⟨u,hgu⟩:∃ u,p.unks[k]?=some u:=⟨_,xgG hlt⟩
   obtain ⟨hhas,hat⟩:=Prg.unks_has hgu
   have e4:=wrapS k (by omega)
   have hSk:=hS2.up hI.up
   obtain ⟨qa,hqa,hqo,hix⟩:=hSk.all.idx hgu
   simp [f34,f35,hlt]
   simp [f33,f35,hix,hqo,hgu]
   refine xV7 fun S4 hu4=>?_
   have hI4:=hI.more hu4
   have hX4:=hXR.up hI4.up
   have htb:=hI4.tb
   have hpr:=hI4.prs
   have han:=hI4.ans
   obtain ⟨es,hin⟩:=hI4.ins
   have hn4:=hI4.nx
   have hup4:=hI4.up
   have hol:o < S2.next:=ho2
   clear hI hI4 hix hqo
   subst hat
   obtain ⟨hg1,hg2⟩:=hX4.get hhas
   rw [show p.ssol.getD (p.at' u) none=p.sAt u from rfl] at hg1
   cases u with
   | par f =>
    have hfl:f < p.funs.length:=hhas
    obtain ⟨t1,t2,t3⟩:=Prg.tab_par hhas
    simp [Unk.fn]
    refine Dra.auto [] mix ?_ ?_
    ·kernel_rfl
    obtain ⟨e0,he0⟩:∃ e0,(p.parTo (p.at' (.par f)))[f]?=some e0:=⟨_,xgG (by rw [Prg.parTo,xCF];exact hfl)⟩
    simp [classes,f4,f5,htb,hpr,xAd hfl,xAd hg2,hX4.obj,hg1,he0,f2,f33,f34,f35,e4,xAg,t1]
    refine ⟨p.at' (.par f) + 1,by omega,by omega,by omega,hup4.put (by omega) _,by simp;omega,by simp [htb],by simp,by simp [han,t2],es,?_⟩
    rw [t3]
    exact hin.other (by simp) (by simp) fun q hq _=>by simp [show ¬ q=S2.next + 1 by omega]
   | ans f =>
    have hfl:f < p.funs.length:=hhas
    obtain ⟨t1,t2,t3⟩:=Prg.tab_ans hhas
    simp [Unk.fn]
    refine Dra.auto [] mix ?_ ?_
    ·kernel_rfl
    obtain ⟨e0,he0⟩:∃ e0,(p.ansTo (p.at' (.ans f)))[f]?=some e0:=⟨_,xgG (by rw [Prg.ansTo,xCF];exact hfl)⟩
    simp [classes,f4,f5,htb,han,xAd hfl,xAd hg2,hX4.obj,hg1]
    have hok:(p.sAt (.ans f)).ok:=p.ssol_ok _
    refine (xAC (p.sAt (.ans f)) 0 hok).b (n:=9) (by simp [mapOpt]) (by simp [solids,AV.solid]) ?_
    simp [he0,f2,f33,f34,f35,e4,xAd hfl,han,intc]
    refine ⟨p.at' (.ans f) + 1,by omega,by omega,f4,f5,by omega,hup4.put (by omega) _,by simp;omega,by simp [htb],by simp [hpr,t2],?_,es,?_⟩
    ·rw [<- t1,<- xAg];simp [intc]
    ·rw [t3]
     exact hin.other (by simp) (by simp) fun q hq _=>by simp [show ¬ q=S2.next + 2 by omega]
   | blk f b =>
    obtain ⟨hf,hb⟩:=Prg.has_blk.1 hhas
    obtain ⟨t1,t2⟩:=Prg.tab_blk hhas
    obtain ⟨t3,t4⟩:=Prg.insTo_put hhas rfl
    obtain ⟨v,hv,hv1,hv2⟩:=hin.idx t3
    simp [Unk.fn]
    refine Dra.autoR ⟨1,fun q=>if q=S2.next + 3 then some (.row 3 [[.sl 1 S2.next 0 p.funs.length,.sl 2 (S2.next + 1) 0 p.funs.length,.sl 1 (S2.next + 2) 0 p.funs.length]]) else none⟩ (xIK htb) [] [1] mix ?_ ?_
    ·kernel_rfl
    simp [classes,f4,f5,htb,xAd hf,xAd hg2,hX4.obj,hg1,hin.obj,hv]
    refine (hin.up (Up.new _ _)).app hv t3 (xNx _) (by simp [Prg.insRow];simp only [Prg.at'] at hg2;omega) fun S5 n5 k5 hin5=>?_
    simp at n5
    have kq:∀q,q < S2.next + 4->S5.obj q=S4.obj q:=fun q hq=>by rw [k5 q hq];simp [show ¬ q=S4.next by omega]
    have htb5:S5.obj (S2.next + 3)=_:=(kq _ (by omega)).trans htb
    have hin5o:S5.obj S2.next=_:=(kq _ (by omega)).trans hin.obj
    refine ⟨xIK htb5,?_⟩
    simp [xAd hf,hin5o,hv]
    refine ⟨trivial,?_⟩
    simp [f2,f4,f5,f33,f34,f35,e4]
    rw [t4] at hin5
    refine ⟨p.at' (.blk f b) + 1,by omega,by omega,by omega,⟨by simp;have:=hup4.1;omega,fun q hq=>?_⟩,by simp;omega,by simp [htb5],?_,?_,_,hin5⟩
    ·simp [show ¬ q=S2.next by omega]
     rw [kq q (by omega)];exact hup4.2 q hq
    ·simp [kq (S2.next + 1) (by omega),hpr,t1]
    ·simp [kq (S2.next + 2) (by omega),han,t2]
  ·have:k=p.unks.length:=by omega
   subst this
   obtain ⟨es,hin⟩:=hI.ins
   have hpr:=hI.prs
   have han:=hI.ans
   rw [Prg.insTo_all] at hin
   rw [Prg.parTo_all] at hpr
   rw [Prg.ansTo_all] at han
   have c0:S.obj 1=some (.row 3 [[.nilsl,.nilsl,.nilsl]]):=by
    rw [hI.up.2 1 (by omega),hu12.2 1 (by simp)];simp
   simp [f34,f35,f2,f5,hI.tb,c0]
   refine ⟨8,?_⟩
   generalize hS9:S.set 1 (.row 3 [[.sl 1 S2.next 0 p.funs.length,.sl 2 (S2.next + 1) 0 p.funs.length,.sl 1 (S2.next + 2) 0 p.funs.length]])=S9
   have k9:∀q,2<=q->S9.obj q=S.obj q:=fun q hq=>by rw [<- hS9];simp [show ¬ q=1 by omega]
   have n9:S9.next=S.next:=by rw [<- hS9];simp
   have q1:=(hin.other (S':=S9) (by omega) (k9 _ n2) fun q hq _=>k9 q (by omega)).pict (n:=p.funs.length) (m:=4) (fun S n x=>xGL x) (by simp [Prg.insS])
   have q2:Vm.pict S9 [] 7 (.sl 2 (S2.next + 1) 0 p.funs.length)=some (.fsl 2 (els envcS p.parS)):=by
    refine xAr ((k9 _ (by omega)).trans hpr) (by simp [Prg.parS]) (by simp [Prg.parS]) fun k e he=>?_
    rw [he]
    obtain ⟨x,rfl⟩:∃ x,e=envcS x:=by
     have:=xmG he
     simp only [els,List.mem_map] at this
     obtain ⟨y,_,rfl⟩:=this
     exact ⟨y,rfl⟩
    exact xGL x
   have q3:Vm.pict S9 [] 7 (.sl 1 (S2.next + 2) 0 p.funs.length)=some (.fsl 1 (els intc p.ansS)):=by
    have h:=xBM (m:=5) ((k9 _ (by omega)).trans han)
    rw [show p.ansS.length=p.funs.length by simp [Prg.ansS]] at h
    exact h
   simp [mapOpt,q1,q2,q3,solveE]
 ·simp
  exact hI0
noncomputable def Prg.sat (p:Prg) (i j k:Int):SEnv:=match p.blk i j with
 | some y=>if 0<=k/\k<=y.ins.length then hereX p p.ssol i.toNat j.toNat k.toNat else none
 | none=>none
theorem xPY {p:Prg} {i j:Int} {y:Blk} (h:p.blk i j=some y):p.sane=true/\∃ (f b:Nat) (x:Fun),i=(f:Int)/\j=(b:Int)/\p.funs[f]?=some x/\x.live j=true/\x.blks[b]?=some y:=by
 unfold Prg.blk at h
 cases hf:p.fn i with
 | none=>rw [hf] at h;cases h
 | some x =>
  rw [hf] at h
  have hfb:x.blk j=some y:=h
  unfold Prg.fn at hf
  split at hf
  ·rename_i h1
   unfold Fun.blk at hfb
   split at hfb
   ·rename_i h2
    have:=xCP h2
    exact ⟨h1.2,i.toNat,j.toNat,x,by omega,by omega,hf,h2,hfb⟩
   ·cases hfb
  ·cases hf
theorem xFR {p:Prg} {f b k:Nat} {x:Fun} {y:Blk} (hs:p.sane=true) (hf:p.funs[f]?=some x) (hl:x.live (b:Int)=true) (hy:x.blks[b]?=some y) (hk:k<=y.ins.length):p.sat (f:Int) (b:Int) (k:Int)=hereX p p.ssol f b k:=by
 have:p.blk (f:Int) (b:Int)=some y:=by
  unfold Prg.blk Prg.fn
  rw [if_pos ⟨by omega,hs⟩]
  simp [hf,Fun.blk,hl,hy]
 unfold Prg.sat
 rw [this]
 simp [hk]
theorem xIM {p:Prg} (i j k:Int) (hp:p.Fit):Ret P (gl N) false 11 [encP p,.int .i64 i,.int .i64 j,.int .i64 k] (.agg (envcS (p.sat i j k))):=by
 refine Ret.inF (by kernel_rfl) ?_
 conv=>arg 3;reduce
 simp
 refine (xCx p i j hp).use (n:=9) (by simp [mapOpt,xAc p.funsS.stab]) (by simp [solids,AV.solid,p.funsS.solid]) ?_
 simp
 cases hb:p.blk i j with
 | none =>
  have hat:p.sat i j k=Option.none:=by unfold Prg.sat;rw [hb]
  simp
  rw [hat]
  exact RK.agg (by simp [AV.stab])
 | some y =>
  obtain ⟨hs,f,b,x,rfl,rfl,hf,hl,hy⟩:=xPY hb
  have hOK:p.OK:=⟨hp,hs⟩
  simp
  refine xAP (fun h1=>?_) (fun h1=>?_) <;> simp [h1,y.insS.len]
  ·refine xAj (fun h2=>?_) (fun h2=>?_) <;> simp [h2]
   ·have hat:p.sat (f:Int) (b:Int) k=Option.none:=by unfold Prg.sat;rw [hb];simp only;rw [if_neg (by omega)]
    rw [hat]
    exact RK.agg (by simp [AV.stab])
   ·obtain ⟨kn,rfl⟩:∃ n:Nat,k=(n:Int):=⟨k.toNat,by omega⟩
    have hkl:kn<=y.ins.length:=by omega
    rw [xFR hs hf hl hy hkl]
    refine xHL hOK fun ps av qm S1 hu1 hS1 _ _ _=>?_
    simp
    refine xKk hOK hS1 fun o S2 ho hu2 ho2 hX=>?_
    simp
    refine xFP hOK (hS1.up hu2) ⟨hX,ho2,p.ssol_len,p.ssol_ok⟩ hf hy hkl ?_
    have c1:(S2.grow (3 + kn)).obj 1=some (.row 2 [[.bool false,.nilsl]]):=by
     have h2:=(hu1.trans hu2).1
     rw [(xBt S2 _).2 1 (by simp at h2;omega),(hu1.trans hu2).2 1 (by simp)];simp
    simp [c1]
    exact RK.envS rfl
  ·have hat:p.sat (f:Int) (b:Int) k=Option.none:=by unfold Prg.sat;rw [hb];simp only;rw [if_neg (by omega)]
   rw [hat]
   exact RK.agg (by simp [AV.stab])
theorem xV8 (p:Prg) (i j k:Int):(p.sat i j k).ok:=by
 unfold Prg.sat
 split
 ·split
  ·exact xCn p.ssol_ok _ _ _
  ·exact SEnv.ok_none
 ·exact SEnv.ok_none
theorem xGT {p:Prg} (i j k v:Int) (hp:p.Fit):Ret P (gl N) false 33 [encP p,.int .i64 i,.int .i64 j,.int .i64 k,.int .i64 v] (.int .i64 ((p.sat i j k).get v)):=by
 refine Ret.inF (by kernel_rfl) ?_
 conv=>arg 3;reduce
 simp
 refine (xIM i j k hp).use (n:=9) (by simp [mapOpt,xAc p.funsS.stab]) (by simp [solids,AV.solid,p.funsS.solid]) ?_
 simp
 refine (xAC (p.sat i j k) v (xV8 p i j k)).use (n:=9) (by simp [mapOpt]) (by simp [solids,AV.solid]) ?_
 simp
 exact RK.stab rfl
theorem VR.agg_inv {C:Ctx} {v:Value} {cs:List AV} (h:VR C v (.agg cs)):∃ vs:List Value,v=.agg vs.toArray/\VRs C vs cs:=by
 cases h with
 | agg vs _ h=>exact ⟨vs,rfl,h⟩
theorem Cal.preF {P:Program} {f:Nat} {x x2:AV} {rest:List AV} {S S2:St} {o:Nat} {K:AV->St->Prop} (hx:FrV S o x x2) (hz:Fzn S S2 o) (h:Cal P g f (.agg [x2] :: rest) S2 K):Cal P g f (.agg [x] :: rest) S K:=by
 refine ⟨h.1,?_⟩
 intro vs C hS hR hvs hN hG
 subst hS
 have hL:=xLM hz
 have hvs2:VRs { C with S:=S2 } vs (.agg [x2] :: rest):=by
  cases hvs with
  | cons v y vs xs hv hs =>
   obtain ⟨us,rfl,hu⟩:=hv.agg_inv
   cases hu with
   | cons u y us xs hu hus =>
    cases hus
    exact .cons _ _ _ _ (.agg _ _ (.cons _ _ _ _ (FrV.vr hR hz hu hx) .nil)) (hs.mono hL)
 refine Calls.mono (h.2 vs { C with S:=S2 } rfl (xOv hR hz) hvs2 hN hG) ?_
 rintro e w' ⟨v,av,C',rfl,hq,h1,h2,h3,h4⟩
 exact ⟨v,av,C',rfl,hq,h1,hL.trans h2,h3,h4⟩
theorem xNK {p:Prg} {f h:Fun} {i:Ins} (h1:i.ok=true) (h2:∀x ∈ i.uses,x < f.vars) (h3:i.def < f.vars) (h4:p.funs[i.f.toNat]?=some h) (h5:h.par=i.n):p.insOK f i=true:=by
 have hv:(i.vars.any fun x=>decide (f.vars<=x))=false:=by
  rw [List.any_eq_false]
  intro x hx
  rw [xFJ] at hx
  rcases hx with hx | ⟨_,rfl⟩
  ·have:=h2 x hx;simp;omega
  ·simp;omega
 simp [Prg.insOK,h1,hv,h4,h5]
def exI0:Ins:=⟨0,0,0,0,0,1,0,0,0,0,0⟩
def exI1:Ins:=⟨1,7,0,0,0,0,1,1,0,0,0⟩
def exI2:Ins:=⟨2,9,0,0,0,0,0,0,0,0,0⟩
def exB0:Blk:=⟨true,[exI0,exI1],false,[],true⟩
def exB1:Blk:=⟨true,[exI2],false,[],true⟩
def exF0:Fun:=⟨0,1,[exB0],false⟩
def exF1:Fun:=⟨1,1,[exB1],false⟩
def exP:Prg:=⟨[exF0,exF1],false⟩
theorem xPZ:exP.Fit:=by
 refine ⟨by decide,fun f hf=>?_⟩
 simp only [exP,List.mem_cons,List.not_mem_nil,or_false] at hf
 rcases hf with rfl | rfl
 ·refine ⟨by decide,fun b hb=>?_,fun b hb=>?_⟩ <;> simp only [exF0,List.mem_singleton] at hb <;> subst hb <;> decide
 ·refine ⟨by decide,fun b hb=>?_,fun b hb=>?_⟩ <;> simp only [exF1,List.mem_singleton] at hb <;> subst hb <;> decide
theorem xMt:exP.sane=true:=by
 rw [Prg.sane_iff]
 refine ⟨by decide,fun f hf=>?_,?_⟩
 ·simp only [exP,List.mem_cons,List.not_mem_nil,or_false] at hf
  rcases hf with rfl | rfl
  ·have h1:exF0.varsOK:=by decide
   have h2:exF0.blksOK:=by decide
   rw [Prg.funMsg,if_neg (by simpa using h1),if_neg (by simpa using h2)]
   have hb:exP.blkMsg exF0 exB0=[]:=by
    have hr:rises exB0.out=true:=by simp [rises,risesTo,exB0]
    have hi:(exB0.ins.any fun i=>!exP.insOK exF0 i)=false:=by
     rw [List.any_eq_false]
     intro x hx
     simp only [exB0,List.mem_cons,List.not_mem_nil,or_false] at hx
     rcases hx with rfl | rfl
     ·rw [xDq (by decide) (by decide) (by decide) (by decide)];simp
     ·rw [xNK (h:=exF1) (by decide) (by decide) (by decide) rfl rfl];simp
    rw [Prg.blkMsg,hr,hi]
    decide
   show firstMsg exP exF0 [exB0]=[]
   rw [firstMsg,if_pos hb,firstMsg]
  ·have h1:exF1.varsOK:=by decide
   have h2:exF1.blksOK:=by decide
   rw [Prg.funMsg,if_neg (by simpa using h1),if_neg (by simpa using h2)]
   have hb:exP.blkMsg exF1 exB1=[]:=by
    have hr:rises exB1.out=true:=by simp [rises,risesTo,exB1]
    have hi:(exB1.ins.any fun i=>!exP.insOK exF1 i)=false:=by
     rw [List.any_eq_false]
     intro x hx
     simp only [exB1,List.mem_cons,List.not_mem_nil,or_false] at hx
     rcases hx with rfl
     ·rw [xDq (by decide) (by decide) (by decide) (by decide)];simp
    rw [Prg.blkMsg,hr,hi]
    decide
   show firstMsg exP exF1 [exB1]=[]
   rw [firstMsg,if_pos hb,firstMsg]
 ·decide
theorem xV9:exP.OK:=⟨xPZ,xMt⟩
theorem xP0:exP.sAt (.par 0)=some []:=by
 rw [Prg.sAt_fix (by show 0 < 2;omega)]
 show (exP.callsTo 0).foldl (callX exP exP.ssol) (parX0 exP 0)=_
 rw [show exP.callsTo 0=[] by decide +kernel]
 rfl
theorem xTq:exP.sAt (.blk 0 0)=some [2]:=by
 rw [Prg.sAt_fix (Prg.has_blk.2 ⟨by decide,by decide⟩)]
 show begXTo exP exP.ssol 0 0 (exP.predsN 0 0)=_
 rw [show exP.predsN 0 0=[] by decide +kernel]
 show (exP.sAt (.par 0)).start 0 1=_
 rw [xP0];decide +kernel
theorem xMu:hereX exP exP.ssol 0 0 1=some [4]:=by
 show pastX exP exP.ssol (exP.sAt (.blk 0 0)) [exI0]=_
 rw [xTq]
 show exI0.sign (some [2]) (ansX exP exP.ssol exI0)=_
 rw [show ansX exP exP.ssol exI0=0 by unfold ansX;rw [if_neg (by decide)]]
 decide +kernel
def exV0:AV:=.fsl 11 (els insc exB0.ins)
def exV1:AV:=.fsl 11 (els insc exB1.ins)
def exW0:AV:=.fsl 3 [[.bool true,exV0,.nilsl]]
def exW1:AV:=.fsl 3 [[.bool true,exV1,.nilsl]]
def exX:AV:=.fsl 3 [[.int .i64 0,.int .i64 1,exW0],[.int .i64 1,.int .i64 1,exW1]]
theorem xP1:exP.sAt (.par 1)=some [4]:=by
 rw [Prg.sAt_fix (by show 1 < 2;omega)]
 show (exP.callsTo 1).foldl (callX exP exP.ssol) (parX0 exP 1)=_
 rw [show exP.callsTo 1=[(0,0,1,exI1)] by decide +kernel]
 show callX exP exP.ssol none (0,0,1,exI1)=_
 unfold callX
 simp only
 rw [xMu]
 decide +kernel
theorem xTr:exP.sAt (.blk 1 0)=some [4]:=by
 rw [Prg.sAt_fix (Prg.has_blk.2 ⟨by decide,by decide⟩)]
 show begXTo exP exP.ssol 1 0 (exP.predsN 1 0)=_
 rw [show exP.predsN 1 0=[] by decide +kernel]
 show (exP.sAt (.par 1)).start 1 1=_
 rw [xP1];decide +kernel
theorem xP2:exP.sAt (.ans 1)=some [4]:=by
 rw [Prg.sAt_fix (by show 1 < 2;omega)]
 show some [sgS ((exP.posF 1).foldl (retX exP exP.ssol) 0)]=_
 rw [show exP.posF 1=[(1,0,0,exI2)] by decide +kernel]
 show some [sgS (sgJ 0 ((exP.sAt (.blk 1 0)).get 0))]=_
 rw [xTr];decide +kernel
theorem xTs:exP.sAt (.ans 0)=some [0]:=by
 rw [Prg.sAt_fix (by show 0 < 2;omega)]
 show some [sgS ((exP.posF 0).foldl (retX exP exP.ssol) 0)]=_
 rw [show exP.posF 0=[(0,0,0,exI0),(0,0,1,exI1)] by decide +kernel]
 simp only [List.foldl,retX]
 rw [if_neg (by decide),if_neg (by decide)];decide +kernel
theorem xRE:exP.sat 0 0 2=some [4]:=by
 have h:=xFR (p:=exP) (f:=0) (b:=0) (k:=2) (x:=exF0) (y:=exB0) xMt rfl (by decide +kernel) rfl (by decide)
 rw [show exP.sat 0 0 2=hereX exP exP.ssol 0 0 2 from h]
 show exI1.sign (hereX exP exP.ssol 0 0 1) (ansX exP exP.ssol exI1)=_
 rw [xMu,show ansX exP exP.ssol exI1=4 by
  unfold ansX
  rw [if_pos (by decide)]
  show (exP.sAt (.ans 1)).get 0=_
  rw [xP2];decide +kernel]
 decide +kernel
theorem xTt:exP.parS=[some [],some [4]]:=by
 show [exP.sAt (.par 0),exP.sAt (.par 1)]=_
 rw [xP0,xP1]
theorem xTu:exP.ansS=[0,4]:=by
 show [(exP.sAt (.ans 0)).get 0,(exP.sAt (.ans 1)).get 0]=_
 rw [xTs,xP2];decide +kernel
theorem fzn1 {S:St} {o q so sz:Nat} {es eq eq':List (List AV)} (hS:S.obj o=some (.row so es)) (hsol:es.flatten.all AV.solid=true) (hoq:o ≠ q) (hq:S.obj q=some (.row sz eq)) (hf:FrVss S o eq eq'):Fzn S ((S.drop o).set q (.row sz eq')) o:=by
 refine ⟨rfl,?_,fun sz' es' he z hz=>?_,fun r hr=>?_⟩
 ·simp [hoq]
 ·rw [hS] at he;cases he
  exact List.all_eq_true.1 hsol z hz
 ·by_cases h1:r=q
  ·subst h1
   exact .inr (.inr ⟨sz,eq,eq',hq,by simp,hf⟩)
  ·exact .inr (.inl (by simp [hr,h1]))
def exS0:St:=(((((((St.empty.new (AObj.row 11 (els insc exB0.ins))).new (AObj.row 3 [[AV.bool true,AV.sl 11 0 0 2,AV.nilsl]])).new (AObj.row 11 (els insc exB1.ins))).new (AObj.row 3 [[AV.bool true,AV.sl 11 2 0 1,AV.nilsl]])).new
 (AObj.row 3 [[AV.int IntKind.i64 0,AV.int IntKind.i64 1,AV.sl 3 1 0 1],[AV.int IntKind.i64 1,AV.int IntKind.i64 1,AV.sl 3 3 0 1]])).new (AObj.row 1 [[AV.nilsl]])).set 5 (AObj.row 1 [[AV.sl 3 4 0 2]]))
def exS1:St:=(exS0.drop 0).set 1 (.row 3 [[.bool true,exV0,.nilsl]])
def exS2:St:=(exS1.drop 2).set 3 (.row 3 [[.bool true,exV1,.nilsl]])
def exS3:St:=(exS2.drop 1).set 4 (.row 3 [[.int .i64 0,.int .i64 1,exW0],[.int .i64 1,.int .i64 1,.sl 3 3 0 1]])
def exS4:St:=(exS3.drop 3).set 4 (.row 3 [[.int .i64 0,.int .i64 1,exW0],[.int .i64 1,.int .i64 1,exW1]])
def exS5:St:=(exS4.drop 4).set 5 (.row 1 [[exX]])
theorem exZ1:Fzn exS0 exS1 0:=fzn1 (so:=11) (es:=els insc exB0.ins) rfl (by decide) (by decide) (eq:=[[AV.bool true,AV.sl 11 0 0 2,AV.nilsl]]) rfl ⟨⟨.inl rfl,.inr ⟨11,0,2,els insc exB0.ins,rfl,rfl,by decide,rfl⟩,.inl rfl,trivial⟩,trivial⟩
theorem exZ2:Fzn exS1 exS2 2:=fzn1 (so:=11) (es:=els insc exB1.ins) rfl (by decide) (by decide) (eq:=[[AV.bool true,AV.sl 11 2 0 1,AV.nilsl]]) rfl ⟨⟨.inl rfl,.inr ⟨11,0,1,els insc exB1.ins,rfl,rfl,by decide,rfl⟩,.inl rfl,trivial⟩,trivial⟩
theorem exZ3:Fzn exS2 exS3 1:=fzn1 (so:=3) (es:=[[.bool true,exV0,.nilsl]]) rfl (by decide) (by decide) (eq:=[[AV.int IntKind.i64 0,AV.int IntKind.i64 1,AV.sl 3 1 0 1],[AV.int IntKind.i64 1,AV.int IntKind.i64 1,AV.sl 3 3 0 1]]) rfl
 ⟨⟨.inl rfl,.inl rfl,.inr ⟨3,0,1,[[.bool true,exV0,.nilsl]],rfl,rfl,by decide,rfl⟩,trivial⟩,⟨.inl rfl,.inl rfl,.inl rfl,trivial⟩,trivial⟩
theorem exZ4:Fzn exS3 exS4 3:=fzn1 (so:=3) (es:=[[.bool true,exV1,.nilsl]]) rfl (by decide) (by decide) (eq:=[[AV.int IntKind.i64 0,AV.int IntKind.i64 1,exW0],[AV.int IntKind.i64 1,AV.int IntKind.i64 1,AV.sl 3 3 0 1]]) rfl
 ⟨⟨.inl rfl,.inl rfl,.inl rfl,trivial⟩,⟨.inl rfl,.inl rfl,.inr ⟨3,0,1,[[.bool true,exV1,.nilsl]],rfl,rfl,by decide,rfl⟩,trivial⟩,trivial⟩
theorem exZ5:Fzn exS4 exS5 4:=fzn1 (so:=3) (es:=[[.int .i64 0,.int .i64 1,exW0],[.int .i64 1,.int .i64 1,exW1]]) rfl (by decide) (by decide) (eq:=[[AV.sl 3 4 0 2]]) rfl
 ⟨⟨.inr ⟨3,0,2,[[.int .i64 0,.int .i64 1,exW0],[.int .i64 1,.int .i64 1,exW1]],rfl,rfl,by decide,rfl⟩,trivial⟩,trivial⟩
theorem xSb:AV.agg [exX]=encP exP:=rfl
theorem xDZ:Ret P (gl N) false 8 [] (.bool true):=by
 refine Ret.inF (by kernel_rfl) ?_
 conv=>arg 3;reduce
 simp
 refine Cal.preF (S:=exS0) (.inl rfl) exZ1 ?_
 refine Cal.preF (.inl rfl) exZ2 ?_
 refine Cal.preF (.inl rfl) exZ3 ?_
 refine Cal.preF (.inl rfl) exZ4 ?_
 refine Cal.preF (x2:=exX) (.inr ⟨3,0,2,_,rfl,rfl,by decide,rfl⟩) exZ5 ?_
 have hst:∀S n,pict S [] (n + 2) (encP exP)=some (encP exP):=fun S n=>by simp [mapOpt,xAc exP.funsS.stab]
 have hsl:(encP exP).solid=true:=by simp [AV.solid,exP.funsS.solid,solids]
 rw [xSb]
 refine (xCS xV9).use (n:=9) (by simp [mapOpt,xAc exP.funsS.stab]) (by simp [solids,exP.funsS.solid]) ?_
 have b5:exS5.obj 5=some (.row 1 [[exX]]):=rfl
 have n5:exS5.next=6:=rfl
 have i1:pk (.indexAddr 1) [.fsl 1 (els intc [0,4]),.int .i64 1]=some (.fptr [.int .i64 4] 0):=rfl
 have i2:pk (.indexAddr 2) [.fsl 2 (els envcS [some [],some [4]]),.int .i64 1]=some (.fptr [.bool true,.fsl 1 [[.int .i64 4]]] 0):=rfl
 have l2:lenV (.fsl 1 (els intc [0,4]))=some 2:=rfl
 have m4:(exP.sat 0 0 2).get 0=4:=by rw [xRE];decide +kernel
 generalize hw:els (fun l=>[encF envcS 2 l]) exP.insS=w
 simp [solveE,xTt,xTu,n5,b5,i1,l2,hw]
 refine (xGT (p:=exP) 0 0 2 0 xPZ).use (n:=9) (by rw [xSb];simp [mapOpt,xAc exP.funsS.stab]) (by simp [AV.plain]) ?_
 rw [m4]
 simp [n5,b5,i2]
 exact RK.eq rfl rfl
end Go.Proofs.YtnhfofmhkfdpgaaGreatDoor.Vm
namespace Go.Proofs.YtnhfofmhkfdpgaaGreatDoor.Vm
open Go Go.RowKit
variable {N:Nat} {g:Glob}
theorem xIN {p:Prg} {X:List SEnv} {f b:Nat}:∀(m:List Int) (e:SEnv),e.le (m.foldl (fun e j=>e.join (hereX p X f j.toNat (p.cd f j.toNat).length)) e)/\∀j ∈ m,(hereX p X f j.toNat (p.cd f j.toNat).length).le (m.foldl (fun e j=>e.join (hereX p X f j.toNat (p.cd f j.toNat).length)) e)
 | [],e=>⟨SEnv.le_refl e,fun j hj=>by cases hj⟩
 | j :: m,e=>by
  obtain ⟨h1,h2⟩:=xIN (p:=p) (X:=X) (f:=f) (b:=b) m (e.join (hereX p X f j.toNat (p.cd f j.toNat).length))
  refine ⟨SEnv.le_trans (SEnv.le_join_l _ _) h1,fun k hk=>?_⟩
  rcases List.mem_cons.1 hk with rfl | hk
  ·exact SEnv.le_trans (SEnv.le_join_r _ _) h1
  ·exact h2 k hk
theorem xGU (p:Prg) (f b:Nat):hereX p p.ssol f b 0=p.sAt (.blk f b):=by simp [hereX,pastX,Prg.sAt]
theorem xGV {p:Prg} {X:List SEnv} {f b k:Nat} {i:Ins} (h:(p.cd f b)[k]?=some i):hereX p X f b (k + 1)=i.sign (hereX p X f b k) (ansX p X i):=by
 unfold hereX pastX
 rw [xAe h,List.foldl_append];rfl
theorem xIO {p:Prg} (hp:p.OK) {f b j:Nat} {x:Fun} {y:Blk} (hx:p.funs[f]?=some x) (hy:x.blks[b]?=some y) (hj:(j:Int) ∈ y.out) (hjl:j < x.blks.length):(hereX p p.ssol f b y.ins.length).le (p.sAt (.blk f j)):=by
 rw [Prg.sAt_fix (u:=.blk f j) ⟨x,hx,hjl⟩]
 have hm:(b:Int) ∈ x.preds j:=Fun.preds_mem.2 ⟨b,y,rfl,hy,hj⟩
 have:=(xIN (p:=p) (X:=p.ssol) (f:=f) (b:=j) (p.predsN f j) (begX0 p p.ssol f j)).2 b (by rw [(Prg.predsN_of hp hx).2];exact hm)
 rw [Int.toNat_natCast,Prg.cd_of hx hy] at this
 exact this
theorem xKp {p:Prg} {f:Nat} {x:Fun} (hx:p.funs[f]?=some x) (h0:0 < x.blks.length):((p.sAt (.par f)).start x.par x.vars).le (p.sAt (.blk f 0)):=by
 rw [Prg.sAt_fix (u:=.blk f 0) ⟨x,hx,h0⟩]
 have:=(xIN (p:=p) (X:=p.ssol) (f:=f) (b:=0) (p.predsN f 0) (begX0 p p.ssol f 0)).1
 refine SEnv.le_trans ?_ this
 unfold begX0
 rw [if_pos rfl]
 simp only [Prg.parOf,Prg.varsOf,hx]
 exact SEnv.le_refl _
theorem xIP {p:Prg} {X:List SEnv}:∀(l:List Step) (e:SEnv),e.le (l.foldl (callX p X) e)
 | [],e=>SEnv.le_refl e
 | s :: l,e=>by
  refine SEnv.le_trans ?_ (xIP l _)
  unfold callX
  split
  ·exact SEnv.le_refl e
  ·exact SEnv.le_join_l _ _
theorem xP7 {p:Prg} {x:Fun} (hx:p.funs[0]?=some x):SEnv.le (some (allS x.par 7)) (p.sAt (.par 0)):=by
 rw [Prg.sAt_fix (u:=.par 0) (xgS hx).1]
 refine SEnv.le_trans ?_ (xIP (p.callsTo 0) _)
 unfold parX0
 rw [if_pos rfl]
 simp only [Prg.parOf,hx]
 exact SEnv.le_refl _
end Go.Proofs.YtnhfofmhkfdpgaaGreatDoor.Vm
