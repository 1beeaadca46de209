/- A part of the proof: Cq Cr Cs Dc Db Ct Cu Cy. -/
import Derived.Test.YtnhfofmhkfdpgaaGreatDoorQ32
set_option linter.unusedVariables false
set_option linter.unusedSimpArgs false
set_option linter.constructorNameAsVariable false
namespace Go.Proofs.YtnhfofmhkfdpgaaGreatDoor.Vm
open Go Go.RowKit
variable {N:Nat} {g:Glob}
theorem xUp : mrow P 108 "bywash/signs.of" = some (0, some (319, false)) := by kernel_rfl
theorem xUq : mrow P 109 "bywash/signs.of" = some (0, some (320, false)) := by kernel_rfl
theorem xUr : mrow P 111 "bywash/signs.of" = some (0, some (321, false)) := by kernel_rfl
theorem isStruct {x:Option TypeDesc} (hx:(match x with
 | some (.struct _)=>true
 | _=>false)=true):∃ fs,x=some (.struct fs):=by
 split at hx
 ·exact ⟨_,rfl⟩
 ·cases hx
def Unk.fn:Unk→Nat
 | .par f=>f
 | .ans f=>f
 | .blk f _=>f
theorem xUs {u : Unk} {S : St} {K : AV → St → Prop} (hk : ∀ S', Up S S' → K (.int .i64 (u.fn : Int)) S') : CalI P (gl N) (unkV u) "bywash/signs.of" [] S K := by
 cases u with
 | par f =>
  obtain ⟨fs,hu⟩:=isStruct (x:=P.underlying 108) (by kernel_rfl)
  refine CalI.a xUp hu ?_
  refine c319.in (by simp) ?_
  simp [k319]
  exact hk _ (Up.new _ _)
 | ans f =>
  obtain ⟨fs,hu⟩:=isStruct (x:=P.underlying 109) (by kernel_rfl)
  refine CalI.a xUq hu ?_
  refine c320.in (by simp) ?_
  simp [k320]
  exact hk _ (Up.new _ _)
 | blk f b =>
  obtain ⟨fs,hu⟩:=isStruct (x:=P.underlying 111) (by kernel_rfl)
  refine CalI.a xUr hu ?_
  refine c321.in (by simp) ?_
  simp [k321]
  exact hk _ (Up.new _ _)
structure TbI (S2 S:St) (p:Prg) (k:Nat):Prop where
 up:Up S2 S
 nx:S2.next + 4≤S.next
 tb:S.obj (S2.next + 3)=some (.row 3 [[.sl 1 S2.next 0 p.funs.length,.sl 2 (S2.next + 1) 0 p.funs.length,.sl 1 (S2.next + 2) 0 p.funs.length]])
 prs:S.obj (S2.next + 1)=some (.row 2 (els envcS (p.parTo k)))
 ans:S.obj (S2.next + 2)=some (.row 1 (els intc (p.ansTo k)))
 ins:∃ es,RowsG envcS 2 (S2.next + 4) S S2.next es (p.insTo k)
theorem TbI.more {S2 S S':St} {p:Prg} {k:Nat} (h:TbI S2 S p k) (hu:Up S S'):TbI S2 S' p k :=
 have hn:=h.nx
 ⟨h.up.trans hu,yAX hn hu.1,by rw [hu.2 _ (by omega)];exact h.tb,by rw [hu.2 _ (by omega)];exact h.prs,by rw [hu.2 _ (by omega)];exact h.ans,h.ins.imp fun _ hr=>hr.up hu⟩
set_option maxHeartbeats 1000000 in
theorem xGk {p:Prg} (hp:p.OK):Ret P (gl N) false 16 [encP p] (solveE p):=by
 refine Ret.in c16 (by simp) ?_
 have hfl:=(Prg.sane_iff.1 hp.sane).1
 have hroom:p.funs.length≤room:=by simp [room];omega
 have hr200:200≤room:=by simp [room]
 have hul:=Prg.unks_len hp.sane
 simp [k16]
 refine (xD1 p hp.fit).use (n:=9) (by simp [mapOpt,xAc p.funsS.stab]) (by simp [solids,AV.solid,p.funsS.solid]) ?_
 simp [hp.sane]
 refine xHa hp fun ps av qm S1 hu1 hS1 _ _ _=>?_
 simp
 refine xJx hp hS1 fun o S2 ho hu2 ho2 hX=>?_
 simp
 have hu12:=hu1.trans hu2
 have b0:S2.obj 0=some (.row 1 [[p.funsV]]):=by rw [hu12.2 0 (by simp)];simp
 have n2:2≤S2.next:=by have:=hu12.1;simp at this;omega
 have hS2:=hS1.up hu2
 have hXR:XRow S2 o p p.ssol:=⟨hX,ho2,p.ssol_len,p.ssol_ok⟩
 refine Dra.auto [] mix ?_ ?_
 ·kernel_rfl
 have hpsl:=hS2.lt
 have hav:=hS2.all
 simp [classes,b0,p.funsS.len,hroom,hS2.box,hav.len,show ¬ ps=S2.next by omega,show ¬ ps=S2.next + 1 by omega,show ¬ ps=S2.next + 1 + 1 by omega,show ¬ ps=S2.next + 1 + 1 + 1 by omega]
 generalize hS3:((((S2.new (.row 1 (List.replicate p.funs.length [.nilsl]))).new (.row 2 (List.replicate p.funs.length [.bool false,.nilsl]))).new (.row 1 (List.replicate p.funs.length [.int .i64 0]))).new (.row 3 [[.nilsl,.nilsl,.nilsl]])).set (S2.next + 1 + 1 + 1) (.row 3 [[.sl 1 S2.next 0 p.funs.length,.sl 2 (S2.next + 1) 0 p.funs.length,.sl 1 (S2.next + 1 + 1) 0 p.funs.length]])=S3
 have hI0:TbI S2 S3 p 0:=by
  subst hS3
  refine ⟨⟨by simp;omega,fun q hq=>by simp [show ¬ q=S2.next by omega,show ¬ q=S2.next + 1 by omega,show ¬ q=S2.next + 1 + 1 by omega,show ¬ q=S2.next + 1 + 1 + 1 by omega]⟩,by simp,by simp,?_,?_,⟨_,by rw [Prg.insTo_zero];exact RowsG.start (by simp [show ¬ S2.next=S2.next + 1 + 1 by omega,show ¬ S2.next=S2.next + 1 + 1 + 1 by omega]) (by omega) (by simp)⟩⟩
  ·rw [Prg.parTo,xHb,← xAh];simp
  ·rw [Prg.ansTo,xHb,← xAh];simp [intc]
 clear hS3
 refine W.whileI (fun (k:Nat) F S=>k≤p.unks.length∧F 2=.ptr 1 0 0∧F 4=.sl 2 o 0 p.unks.length∧F 5=.ptr (S2.next + 1 + 1 + 1) 0 0∧F 33=av∧F 34=.int .i64 p.unks.length∧F 35=.int .i64 k∧TbI S2 S p k) (fun k=>p.unks.length - k) ?_ 0 _ _ ?_
 ·rintro k F S ⟨hkl,f2,f4,f5,f33,f34,f35,hI⟩
  by_cases hlt:k < p.unks.length
  ·obtain ⟨u,hgu⟩:∃ u,p.unks[k]?=some u:=⟨_,xgG hlt⟩
   obtain ⟨hhas,hat⟩:=Prg.unks_has hgu
   have e4:=wrapS k (by omega)
   have hSk:=hS2.up hI.up
   obtain ⟨qa,hqa,hqo,hix⟩:=hSk.all.idx hgu
   simp [f34,f35,hlt]
   simp [f33,f35,hix,hqo,hgu]
   refine xUs fun S4 hu4=>?_
   have hI4:=hI.more hu4
   have hX4:=hXR.up hI4.up
   have htb:=hI4.tb
   have hpr:=hI4.prs
   have han:=hI4.ans
   obtain ⟨es,hin⟩:=hI4.ins
   have hn4:=hI4.nx
   have hup4:=hI4.up
   have hol:o < S2.next:=ho2
   clear hI hI4 hix hqo
   subst hat
   obtain ⟨hg1,hg2⟩:=hX4.get hhas
   rw [show p.ssol.getD (p.at' u) none=p.sAt u from rfl] at hg1
   cases u with
   | par f =>
    have hfl:f < p.funs.length:=hhas
    obtain ⟨t1,t2,t3⟩:=Prg.tab_par hhas
    simp [Unk.fn]
    refine Dra.auto [] mix ?_ ?_
    ·kernel_rfl
    obtain ⟨e0,he0⟩:∃ e0,(p.parTo (p.at' (.par f)))[f]?=some e0:=⟨_,xgG (by rw [Prg.parTo,xCx];exact hfl)⟩
    simp [classes,f4,f5,htb,hpr,xAd hfl,xAd hg2,hX4.obj,hg1,he0,f2,f33,f34,f35,e4,xAg,t1]
    refine ⟨p.at' (.par f) + 1,by omega,by omega,by omega,hup4.put (by omega) _,by simp;omega,by simp [htb],by simp,by simp [han,t2],es,?_⟩
    rw [t3]
    exact hin.other (by simp) (by simp) fun q hq _=>by simp [show ¬ q=S2.next + 1 by omega]
   | ans f =>
    have hfl:f < p.funs.length:=hhas
    obtain ⟨t1,t2,t3⟩:=Prg.tab_ans hhas
    simp [Unk.fn]
    refine Dra.auto [] mix ?_ ?_
    ·kernel_rfl
    obtain ⟨e0,he0⟩:∃ e0,(p.ansTo (p.at' (.ans f)))[f]?=some e0:=⟨_,xgG (by rw [Prg.ansTo,xCx];exact hfl)⟩
    simp [classes,f4,f5,htb,han,xAd hfl,xAd hg2,hX4.obj,hg1]
    have hok:(p.sAt (.ans f)).ok:=p.ssol_ok _
    refine (xAJ (p.sAt (.ans f)) 0 hok).b (n:=9) (by simp [mapOpt]) (by simp [solids,AV.solid]) ?_
    simp [he0,f2,f33,f34,f35,e4,xAd hfl,han,intc]
    refine ⟨p.at' (.ans f) + 1,by omega,by omega,f4,f5,by omega,hup4.put (by omega) _,by simp;omega,by simp [htb],by simp [hpr,t2],?_,es,?_⟩
    ·rw [← t1,← xAg];simp [intc]
    ·rw [t3]
     exact hin.other (by simp) (by simp) fun q hq _=>by simp [show ¬ q=S2.next + 2 by omega]
   | blk f b =>
    obtain ⟨hf,hb⟩:=Prg.has_blk.1 hhas
    obtain ⟨t1,t2⟩:=Prg.tab_blk hhas
    obtain ⟨t3,t4⟩:=Prg.insTo_put hhas rfl
    obtain ⟨v,hv,hv1,hv2⟩:=hin.idx t3
    simp [Unk.fn]
    refine Dra.autoR ⟨1,fun q=>if q=S2.next + 3 then some (.row 3 [[.sl 1 S2.next 0 p.funs.length,.sl 2 (S2.next + 1) 0 p.funs.length,.sl 1 (S2.next + 2) 0 p.funs.length]]) else none⟩ (xH8 htb) [] [1] mix ?_ ?_
    ·kernel_rfl
    simp [classes,f4,f5,htb,xAd hf,xAd hg2,hX4.obj,hg1,hin.obj,hv]
    refine (hin.up (Up.new _ _)).app hv t3 (xMr _) (by simp [Prg.insRow];simp only [Prg.at'] at hg2;omega) fun S5 n5 k5 hin5=>?_
    simp at n5
    have kq:∀q,q < S2.next + 4→S5.obj q=S4.obj q:=fun q hq=>by rw [k5 q hq];simp [show ¬ q=S4.next by omega]
    have htb5:S5.obj (S2.next + 3)=_:=(kq _ (by omega)).trans htb
    have hin5o:S5.obj S2.next=_:=(kq _ (by omega)).trans hin.obj
    refine ⟨xH8 htb5,?_⟩
    simp [xAd hf,hin5o,hv]
    refine ⟨trivial,?_⟩
    simp [f2,f4,f5,f33,f34,f35,e4]
    rw [t4] at hin5
    refine ⟨p.at' (.blk f b) + 1,by omega,by omega,by omega,⟨by simp;have:=hup4.1;omega,fun q hq=>?_⟩,by simp;omega,by simp [htb5],?_,?_,_,hin5⟩
    ·simp [show ¬ q=S2.next by omega]
     rw [kq q (by omega)];exact hup4.2 q hq
    ·simp [kq (S2.next + 1) (by omega),hpr,t1]
    ·simp [kq (S2.next + 2) (by omega),han,t2]
  ·have:k=p.unks.length:=by omega
   subst this
   obtain ⟨es,hin⟩:=hI.ins
   have hpr:=hI.prs
   have han:=hI.ans
   rw [Prg.insTo_all] at hin
   rw [Prg.parTo_all] at hpr
   rw [Prg.ansTo_all] at han
   have c0:S.obj 1=some (.row 3 [[.nilsl,.nilsl,.nilsl]]):=by
    rw [hI.up.2 1 (by omega),hu12.2 1 (by simp)];simp
   simp [f34,f35,f2,f5,hI.tb,c0]
   refine ⟨8,?_⟩
   generalize hS9:S.set 1 (.row 3 [[.sl 1 S2.next 0 p.funs.length,.sl 2 (S2.next + 1) 0 p.funs.length,.sl 1 (S2.next + 2) 0 p.funs.length]])=S9
   have k9:∀q,2≤q→S9.obj q=S.obj q:=fun q hq=>by rw [← hS9];simp [show ¬ q=1 by omega]
   have n9:S9.next=S.next:=by rw [← hS9];simp
   have q1:=(hin.other (S':=S9) (by omega) (k9 _ n2) fun q hq _=>k9 q (by omega)).pict (n:=p.funs.length) (m:=4) (fun S n x=>xGd x) (by simp [Prg.insS])
   have q2:Vm.pict S9 [] 7 (.sl 2 (S2.next + 1) 0 p.funs.length)=some (.fsl 2 (els envcS p.parS)):=by
    refine xAz ((k9 _ (by omega)).trans hpr) (by simp [Prg.parS]) (by simp [Prg.parS]) fun k e he=>?_
    rw [he]
    obtain ⟨x,rfl⟩:∃ x,e=envcS x:=by
     have:=xmG he
     simp only [els,yAU] at this
     obtain ⟨y,_,rfl⟩:=this
     exact ⟨y,rfl⟩
    exact xGd x
   have q3:Vm.pict S9 [] 7 (.sl 1 (S2.next + 2) 0 p.funs.length)=some (.fsl 1 (els intc p.ansS)):=by
    have h:=xBJ (m:=5) ((k9 _ (by omega)).trans han)
    rw [show p.ansS.length=p.funs.length by simp [Prg.ansS]] at h
    exact h
   simp [mapOpt,q1,q2,q3,solveE]
 ·simp
  exact hI0
noncomputable def Prg.sat (p:Prg) (i j k:Int):SEnv:=match p.blk i j with
 | some y=>if 0≤k∧k≤y.ins.length then hereX p p.ssol i.toNat j.toNat k.toNat else none
 | none=>none
theorem xOG {p:Prg} {i j:Int} {y:Blk} (h:p.blk i j=some y):p.sane=true∧∃ (f b:Nat) (x:Fun),i=(f:Int)∧j=(b:Int)∧p.funs[f]?=some x∧x.live j=true∧x.blks[b]?=some y:=by
 unfold Prg.blk at h
 cases hf:p.fn i with
 | none=>rw [hf] at h;cases h
 | some x =>
  rw [hf] at h
  have hfb:x.blk j=some y:=h
  unfold Prg.fn at hf
  split at hf
  ·rename_i h1
   unfold Fun.blk at hfb
   split at hfb
   ·rename_i h2
    have:=xCG h2
    exact ⟨h1.2,i.toNat,j.toNat,x,by omega,by omega,hf,h2,hfb⟩
   ·cases hfb
  ·cases hf
theorem xFq {p:Prg} {f b k:Nat} {x:Fun} {y:Blk} (hs:p.sane=true) (hf:p.funs[f]?=some x) (hl:x.live (b:Int)=true) (hy:x.blks[b]?=some y) (hk:k≤y.ins.length):p.sat (f:Int) (b:Int) (k:Int)=hereX p p.ssol f b k:=by
 have:p.blk (f:Int) (b:Int)=some y:=by
  unfold Prg.blk Prg.fn
  rw [if_pos ⟨by omega,hs⟩]
  simp [hf,Fun.blk,hl,hy]
 unfold Prg.sat
 rw [this]
 simp [hk]
theorem xIa {p:Prg} (i j k:Int) (hp:p.Fit):Ret P (gl N) false 11 [encP p,.int .i64 i,.int .i64 j,.int .i64 k] (.agg (envcS (p.sat i j k))):=by
 refine Ret.in c11 (by simp) ?_
 simp [k11]
 refine (xEz p i j hp).use (n:=9) (by simp [mapOpt,xAc p.funsS.stab]) (by simp [solids,AV.solid,p.funsS.solid]) ?_
 simp
 cases hb:p.blk i j with
 | none =>
  have hat:p.sat i j k=Option.none:=by unfold Prg.sat;rw [hb]
  simp
  rw [hat]
  exact RK.agg (by simp [AV.stab])
 | some y =>
  obtain ⟨hs,f,b,x,rfl,rfl,hf,hl,hy⟩:=xOG hb
  have hOK:p.OK:=⟨hp,hs⟩
  simp
  refine xAM (fun h1=>?_) (fun h1=>?_) <;> simp [h1,y.insS.len]
  ·refine xAj (fun h2=>?_) (fun h2=>?_) <;> simp [h2]
   ·have hat:p.sat (f:Int) (b:Int) k=Option.none:=by unfold Prg.sat;rw [hb];simp only;rw [if_neg (by omega)]
    rw [hat]
    exact RK.agg (by simp [AV.stab])
   ·obtain ⟨kn,rfl⟩:∃ n:Nat,k=(n:Int):=⟨k.toNat,by omega⟩
    have hkl:kn≤y.ins.length:=by omega
    rw [xFq hs hf hl hy hkl]
    refine xHa hOK fun ps av qm S1 hu1 hS1 _ _ _=>?_
    simp
    refine xJx hOK hS1 fun o S2 ho hu2 ho2 hX=>?_
    simp
    refine xFo hOK (hS1.up hu2) ⟨hX,ho2,p.ssol_len,p.ssol_ok⟩ hf hy hkl ?_
    have c1:(S2.grow (3 + kn)).obj 1=some (.row 2 [[.bool false,.nilsl]]):=by
     have h2:=(hu1.trans hu2).1
     rw [(xBq S2 _).2 1 (by simp at h2;omega),(hu1.trans hu2).2 1 (by simp)];simp
    simp [c1]
    exact RK.envS rfl
  ·have hat:p.sat (f:Int) (b:Int) k=Option.none:=by unfold Prg.sat;rw [hb];simp only;rw [if_neg (by omega)]
   rw [hat]
   exact RK.agg (by simp [AV.stab])
theorem xUt (p:Prg) (i j k:Int):(p.sat i j k).ok:=by
 unfold Prg.sat
 split
 ·split
  ·exact xCI p.ssol_ok _ _ _
  ·exact SEnv.ok_none
 ·exact SEnv.ok_none
theorem xGl {p:Prg} (i j k v:Int) (hp:p.Fit):Ret P (gl N) false 33 [encP p,.int .i64 i,.int .i64 j,.int .i64 k,.int .i64 v] (.int .i64 ((p.sat i j k).get v)):=by
 refine Ret.in c33 (by simp) ?_
 simp [k33]
 refine (xIa i j k hp).use (n:=9) (by simp [mapOpt,xAc p.funsS.stab]) (by simp [solids,AV.solid,p.funsS.solid]) ?_
 simp
 refine (xAJ (p.sat i j k) v (xUt p i j k)).use (n:=9) (by simp [mapOpt]) (by simp [solids,AV.solid]) ?_
 simp
 exact RK.stab rfl
theorem VR.agg_inv {C:Ctx} {v:Value} {cs:List AV} (h:VR C v (.agg cs)):∃ vs:List Value,v=.agg vs.toArray∧VRs C vs cs:=by
 cases h with
 | agg vs _ h=>exact ⟨vs,rfl,h⟩
theorem Cal.preF {P:Program} {f:Nat} {x x2:AV} {rest:List AV} {S S2:St} {o:Nat} {K:AV→St→Prop} (hx:FrV S o x x2) (hz:Fzn S S2 o) (h:Cal P g f (.agg [x2] :: rest) S2 K):Cal P g f (.agg [x] :: rest) S K:=by
 refine ⟨h.1,?_⟩
 intro vs C hS hR hvs hN hG
 subst hS
 have hL:=xKU hz
 have hvs2:VRs { C with S:=S2 } vs (.agg [x2] :: rest):=by
  cases hvs with
  | cons v y vs xs hv hs =>
   obtain ⟨us,rfl,hu⟩:=hv.agg_inv
   cases hu with
   | cons u y us xs hu hus =>
    cases hus
    exact .cons _ _ _ _ (.agg _ _ (.cons _ _ _ _ (FrV.vr hR hz hu hx) .nil)) (hs.mono hL)
 refine Calls.mono (h.2 vs { C with S:=S2 } rfl (xNn hR hz) hvs2 hN hG) ?_
 rintro e w' ⟨v,av,C',rfl,hq,h1,h2,h3,h4⟩
 exact ⟨v,av,C',rfl,hq,h1,hL.trans h2,h3,h4⟩
theorem xME {p:Prg} {f h:Fun} {i:Ins} (h1:i.ok=true) (h2:∀x ∈ i.uses,x < f.vars) (h3:i.def < f.vars) (h4:p.funs[i.f.toNat]?=some h) (h5:h.par=i.n):p.insOK f i=true:=by
 have hv:(i.vars.any fun x=>decide (f.vars≤x))=false:=by
  rw [List.any_eq_false]
  intro x hx
  rw [xFj] at hx
  rcases hx with hx | ⟨_,rfl⟩
  ·have:=h2 x hx;simp;omega
  ·simp;omega
 simp [Prg.insOK,h1,hv,h4,h5]
def exI0:Ins:=⟨0,0,0,0,0,1,0,0,0,0,0⟩
def exI1:Ins:=⟨1,7,0,0,0,0,1,1,0,0,0⟩
def exI2:Ins:=⟨2,9,0,0,0,0,0,0,0,0,0⟩
def exB0:Blk:=⟨true,[exI0,exI1],false,[],true⟩
def exB1:Blk:=⟨true,[exI2],false,[],true⟩
def exF0:Fun:=⟨0,1,[exB0],false⟩
def exF1:Fun:=⟨1,1,[exB1],false⟩
def exP:Prg:=⟨[exF0,exF1],false⟩
theorem xOH:exP.Fit:=by
 refine ⟨by decide,fun f hf=>?_⟩
 simp only [exP,yAS,yBa,or_false] at hf
 rcases hf with rfl | rfl
 ·refine ⟨by decide,fun b hb=>?_,fun b hb=>?_⟩ <;> simp only [exF0,yAO] at hb <;> subst hb <;> decide
 ·refine ⟨by decide,fun b hb=>?_,fun b hb=>?_⟩ <;> simp only [exF1,yAO] at hb <;> subst hb <;> decide
theorem xLv:exP.sane=true:=by
 rw [Prg.sane_iff]
 refine ⟨by decide,fun f hf=>?_,?_⟩
 ·simp only [exP,yAS,yBa,or_false] at hf
  rcases hf with rfl | rfl
  ·have h1:exF0.varsOK:=by decide
   have h2:exF0.blksOK:=by decide
   rw [Prg.funMsg,if_neg (by simpa using h1),if_neg (by simpa using h2)]
   have hb:exP.blkMsg exF0 exB0=[]:=by
    have hr:rises exB0.out=true:=by simp [rises,risesTo,exB0]
    have hi:(exB0.ins.any fun i=>!exP.insOK exF0 i)=false:=by
     rw [List.any_eq_false]
     intro x hx
     simp only [exB0,yAS,yBa,or_false] at hx
     rcases hx with rfl | rfl
     ·rw [xDg (by decide) (by decide) (by decide) (by decide)];simp
     ·rw [xME (h:=exF1) (by decide) (by decide) (by decide) rfl rfl];simp
    rw [Prg.blkMsg,hr,hi]
    decide
   show firstMsg exP exF0 [exB0]=[]
   rw [firstMsg,if_pos hb,firstMsg]
  ·have h1:exF1.varsOK:=by decide
   have h2:exF1.blksOK:=by decide
   rw [Prg.funMsg,if_neg (by simpa using h1),if_neg (by simpa using h2)]
   have hb:exP.blkMsg exF1 exB1=[]:=by
    have hr:rises exB1.out=true:=by simp [rises,risesTo,exB1]
    have hi:(exB1.ins.any fun i=>!exP.insOK exF1 i)=false:=by
     rw [List.any_eq_false]
     intro x hx
     simp only [exB1,yAS,yBa,or_false] at hx
     rcases hx with rfl
     ·rw [xDg (by decide) (by decide) (by decide) (by decide)];simp
    rw [Prg.blkMsg,hr,hi]
    decide
   show firstMsg exP exF1 [exB1]=[]
   rw [firstMsg,if_pos hb,firstMsg]
 ·decide
theorem xUu:exP.OK:=⟨xOH,xLv⟩
theorem xOI:exP.sAt (.par 0)=some []:=by
 rw [Prg.sAt_fix (by show 0 < 2;omega)]
 show (exP.callsTo 0).foldl (callX exP exP.ssol) (parX0 exP 0)=_
 rw [show exP.callsTo 0=[] by decide +kernel]
 rfl
theorem xRM:exP.sAt (.blk 0 0)=some [2]:=by
 rw [Prg.sAt_fix (Prg.has_blk.2 ⟨by decide,by decide⟩)]
 show begXTo exP exP.ssol 0 0 (exP.predsN 0 0)=_
 rw [show exP.predsN 0 0=[] by decide +kernel]
 show (exP.sAt (.par 0)).start 0 1=_
 rw [xOI];decide +kernel
theorem xLw:hereX exP exP.ssol 0 0 1=some [4]:=by
 show pastX exP exP.ssol (exP.sAt (.blk 0 0)) [exI0]=_
 rw [xRM]
 show exI0.sign (some [2]) (ansX exP exP.ssol exI0)=_
 rw [show ansX exP exP.ssol exI0=0 by unfold ansX;rw [if_neg (by decide)]]
 decide +kernel
def exV0:AV:=.fsl 11 (els insc exB0.ins)
def exV1:AV:=.fsl 11 (els insc exB1.ins)
def exW0:AV:=.fsl 3 [[.bool true,exV0,.nilsl]]
def exW1:AV:=.fsl 3 [[.bool true,exV1,.nilsl]]
def exX:AV:=.fsl 3 [[.int .i64 0,.int .i64 1,exW0],[.int .i64 1,.int .i64 1,exW1]]
theorem xOJ:exP.sAt (.par 1)=some [4]:=by
 rw [Prg.sAt_fix (by show 1 < 2;omega)]
 show (exP.callsTo 1).foldl (callX exP exP.ssol) (parX0 exP 1)=_
 rw [show exP.callsTo 1=[(0,0,1,exI1)] by decide +kernel]
 show callX exP exP.ssol none (0,0,1,exI1)=_
 unfold callX
 simp only
 rw [xLw]
 decide +kernel
theorem xRN:exP.sAt (.blk 1 0)=some [4]:=by
 rw [Prg.sAt_fix (Prg.has_blk.2 ⟨by decide,by decide⟩)]
 show begXTo exP exP.ssol 1 0 (exP.predsN 1 0)=_
 rw [show exP.predsN 1 0=[] by decide +kernel]
 show (exP.sAt (.par 1)).start 1 1=_
 rw [xOJ];decide +kernel
theorem xOK:exP.sAt (.ans 1)=some [4]:=by
 rw [Prg.sAt_fix (by show 1 < 2;omega)]
 show some [sgS ((exP.posF 1).foldl (retX exP exP.ssol) 0)]=_
 rw [show exP.posF 1=[(1,0,0,exI2)] by decide +kernel]
 show some [sgS (sgJ 0 ((exP.sAt (.blk 1 0)).get 0))]=_
 rw [xRN];decide +kernel
theorem xRO:exP.sAt (.ans 0)=some [0]:=by
 rw [Prg.sAt_fix (by show 0 < 2;omega)]
 show some [sgS ((exP.posF 0).foldl (retX exP exP.ssol) 0)]=_
 rw [show exP.posF 0=[(0,0,0,exI0),(0,0,1,exI1)] by decide +kernel]
 simp only [List.foldl,retX]
 rw [if_neg (by decide),if_neg (by decide)];decide +kernel
theorem xP8:exP.sat 0 0 2=some [4]:=by
 have h:=xFq (p:=exP) (f:=0) (b:=0) (k:=2) (x:=exF0) (y:=exB0) xLv rfl (by decide +kernel) rfl (by decide)
 rw [show exP.sat 0 0 2=hereX exP exP.ssol 0 0 2 from h]
 show exI1.sign (hereX exP exP.ssol 0 0 1) (ansX exP exP.ssol exI1)=_
 rw [xLw,show ansX exP exP.ssol exI1=4 by
  unfold ansX
  rw [if_pos (by decide)]
  show (exP.sAt (.ans 1)).get 0=_
  rw [xOK];decide +kernel]
 decide +kernel
theorem xRP:exP.parS=[some [],some [4]]:=by
 show [exP.sAt (.par 0),exP.sAt (.par 1)]=_
 rw [xOI,xOJ]
theorem xRQ:exP.ansS=[0,4]:=by
 show [(exP.sAt (.ans 0)).get 0,(exP.sAt (.ans 1)).get 0]=_
 rw [xRO,xOK];decide +kernel
theorem fzn1 {S:St} {o q so sz:Nat} {es eq eq':List (List AV)} (hS:S.obj o=some (.row so es)) (hsol:es.flatten.all AV.solid=true) (hoq:o ≠ q) (hq:S.obj q=some (.row sz eq)) (hf:FrVss S o eq eq'):Fzn S ((S.drop o).set q (.row sz eq')) o:=by
 refine ⟨rfl,?_,fun sz' es' he z hz=>?_,fun r hr=>?_⟩
 ·simp [hoq]
 ·rw [hS] at he;cases he
  exact yAa.1 hsol z hz
 ·by_cases h1:r=q
  ·subst h1
   exact .inr (.inr ⟨sz,eq,eq',hq,by simp,hf⟩)
  ·exact .inr (.inl (by simp [hr,h1]))
def exS0:St:=(((((((St.empty.new (AObj.row 11 (els insc exB0.ins))).new (AObj.row 3 [[AV.bool true,AV.sl 11 0 0 2,AV.nilsl]])).new (AObj.row 11 (els insc exB1.ins))).new (AObj.row 3 [[AV.bool true,AV.sl 11 2 0 1,AV.nilsl]])).new
 (AObj.row 3 [[AV.int IntKind.i64 0,AV.int IntKind.i64 1,AV.sl 3 1 0 1],[AV.int IntKind.i64 1,AV.int IntKind.i64 1,AV.sl 3 3 0 1]])).new (AObj.row 1 [[AV.nilsl]])).set 5 (AObj.row 1 [[AV.sl 3 4 0 2]]))
def exS1:St:=(exS0.drop 0).set 1 (.row 3 [[.bool true,exV0,.nilsl]])
def exS2:St:=(exS1.drop 2).set 3 (.row 3 [[.bool true,exV1,.nilsl]])
def exS3:St:=(exS2.drop 1).set 4 (.row 3 [[.int .i64 0,.int .i64 1,exW0],[.int .i64 1,.int .i64 1,.sl 3 3 0 1]])
def exS4:St:=(exS3.drop 3).set 4 (.row 3 [[.int .i64 0,.int .i64 1,exW0],[.int .i64 1,.int .i64 1,exW1]])
def exS5:St:=(exS4.drop 4).set 5 (.row 1 [[exX]])
theorem exZ1:Fzn exS0 exS1 0:=fzn1 (so:=11) (es:=els insc exB0.ins) rfl (by decide) (by decide) (eq:=[[AV.bool true,AV.sl 11 0 0 2,AV.nilsl]]) rfl ⟨⟨.inl rfl,.inr ⟨11,0,2,els insc exB0.ins,rfl,rfl,by decide,rfl⟩,.inl rfl,trivial⟩,trivial⟩
theorem exZ2:Fzn exS1 exS2 2:=fzn1 (so:=11) (es:=els insc exB1.ins) rfl (by decide) (by decide) (eq:=[[AV.bool true,AV.sl 11 2 0 1,AV.nilsl]]) rfl ⟨⟨.inl rfl,.inr ⟨11,0,1,els insc exB1.ins,rfl,rfl,by decide,rfl⟩,.inl rfl,trivial⟩,trivial⟩
theorem exZ3:Fzn exS2 exS3 1:=fzn1 (so:=3) (es:=[[.bool true,exV0,.nilsl]]) rfl (by decide) (by decide) (eq:=[[AV.int IntKind.i64 0,AV.int IntKind.i64 1,AV.sl 3 1 0 1],[AV.int IntKind.i64 1,AV.int IntKind.i64 1,AV.sl 3 3 0 1]]) rfl
 ⟨⟨.inl rfl,.inl rfl,.inr ⟨3,0,1,[[.bool true,exV0,.nilsl]],rfl,rfl,by decide,rfl⟩,trivial⟩,⟨.inl rfl,.inl rfl,.inl rfl,trivial⟩,trivial⟩
theorem exZ4:Fzn exS3 exS4 3:=fzn1 (so:=3) (es:=[[.bool true,exV1,.nilsl]]) rfl (by decide) (by decide) (eq:=[[AV.int IntKind.i64 0,AV.int IntKind.i64 1,exW0],[AV.int IntKind.i64 1,AV.int IntKind.i64 1,AV.sl 3 3 0 1]]) rfl
 ⟨⟨.inl rfl,.inl rfl,.inl rfl,trivial⟩,⟨.inl rfl,.inl rfl,.inr ⟨3,0,1,[[.bool true,exV1,.nilsl]],rfl,rfl,by decide,rfl⟩,trivial⟩,trivial⟩
theorem exZ5:Fzn exS4 exS5 4:=fzn1 (so:=3) (es:=[[.int .i64 0,.int .i64 1,exW0],[.int .i64 1,.int .i64 1,exW1]]) rfl (by decide) (by decide) (eq:=[[AV.sl 3 4 0 2]]) rfl
 ⟨⟨.inr ⟨3,0,2,[[.int .i64 0,.int .i64 1,exW0],[.int .i64 1,.int .i64 1,exW1]],rfl,rfl,by decide,rfl⟩,trivial⟩,trivial⟩
theorem xQD:AV.agg [exX]=encP exP:=rfl
theorem xGm:Ret P (gl N) false 8 [] (.bool true):=by
 refine Ret.in c8 (by simp) ?_
 simp [k8]
 refine Cal.preF (S:=exS0) (.inl rfl) exZ1 ?_
 refine Cal.preF (.inl rfl) exZ2 ?_
 refine Cal.preF (.inl rfl) exZ3 ?_
 refine Cal.preF (.inl rfl) exZ4 ?_
 refine Cal.preF (x2:=exX) (.inr ⟨3,0,2,_,rfl,rfl,by decide,rfl⟩) exZ5 ?_
 have hst:∀S n,pict S [] (n + 2) (encP exP)=some (encP exP):=fun S n=>by simp [mapOpt,xAc exP.funsS.stab]
 have hsl:(encP exP).solid=true:=by simp [AV.solid,exP.funsS.solid,solids]
 rw [xQD]
 refine (xGk xUu).use (n:=9) (by simp [mapOpt,xAc exP.funsS.stab]) (by simp [solids,exP.funsS.solid]) ?_
 have b5:exS5.obj 5=some (.row 1 [[exX]]):=rfl
 have n5:exS5.next=6:=rfl
 have i1:pk (.indexAddr 1) [.fsl 1 (els intc [0,4]),.int .i64 1]=some (.fptr [.int .i64 4] 0):=rfl
 have i2:pk (.indexAddr 2) [.fsl 2 (els envcS [some [],some [4]]),.int .i64 1]=some (.fptr [.bool true,.fsl 1 [[.int .i64 4]]] 0):=rfl
 have l2:lenV (.fsl 1 (els intc [0,4]))=some 2:=rfl
 have m4:(exP.sat 0 0 2).get 0=4:=by rw [xP8];decide +kernel
 generalize hw:els (fun l=>[encF envcS 2 l]) exP.insS=w
 simp [solveE,xRP,xRQ,n5,b5,i1,l2,hw]
 refine (xGl (p:=exP) 0 0 2 0 xOH).use (n:=9) (by rw [xQD];simp [mapOpt,xAc exP.funsS.stab]) (by simp [AV.plain]) ?_
 rw [m4]
 simp [n5,b5,i2]
 exact RK.eq rfl rfl
instance:PlainE insc:=⟨fun x=>by simp [insc,AV.stab]⟩
theorem xOL {α:Type} {e:α→List AV} {sz:Nat} {S:St} {v:AV} {l m:List α} {K:AV × St→Prop} (h:Has e sz S v l) (hb:Bel S v) (hok:okAll sz (els e m)) (hr:l.length + m.length≤room)
  (hk:∀v' S',Has e sz S' v' (l ++ m)→Bel S' v'→S.next≤S'.next→(∀q,q < S.next→(∀c,v ≠ .sl sz q 0 c)→S'.obj q=S.obj q)→(v'=v ∨ ∀q c,v'=.sl sz q 0 c→S.next≤q)→K (v',S')):Ok (appV sz v S (els e m)) K:=by
 by_cases hm:m=[]
 ·subst hm
  have hl:(lenV v).isSome=true:=by rw [h.len];rfl
  have:appV sz v S (els e ([]:List α))=some (v,S):=by
   unfold appV
   rw [if_pos (by simp [els]),if_pos hl]
  rw [this,ok_some]
  exact hk v S (by rw [List.append_nil];exact h) hb (yAC _) (fun _ _ _=>rfl) (.inl rfl)
 ·have h0:¬ (els e m).length=0:=by rw [xBc];simpa using hm
  have h1:¬ ((els e m).length > room ∨ ¬ okAll sz (els e m)):=by
   rw [xBc]
   rintro (h | h)
   ·omega
   ·exact h hok
  rcases h with ⟨rfl,rfl⟩ | ⟨o,rfl,ho,hne⟩
  ·rw [xFg,if_neg h0,if_neg h1,ok_some]
   refine hk _ _ (.inr ⟨S.next,by simp,?_,by simpa using hm⟩) (Bel.sl (by simp)) (by simp) (fun q hq _=>xA3 (by omega)) (.inr fun q c e=>by cases e;exact yAC _)
   rw [xCc];simp
  ·rw [xHx,if_neg h0,if_neg h1,ho,xFM,yAy,if_pos ⟨rfl,rfl,by simp,by simpa using hr⟩,ok_some]
   refine hk _ _ (.inr ⟨S.next,by simp,?_,by simp [hm]⟩) (Bel.sl (by simp)) (by simp) (fun q hq hv=>?_) (.inr fun q c e=>by cases e;exact yAC _)
   ·have:(S.drop o).next=S.next:=rfl
    rw [← this,xCc];simp [xAs,xBd]
   ·rw [xA3 (by show q ≠ S.next;omega)]
    simp only [xHw]
    rw [if_neg (by rintro rfl;exact hv _ rfl)]
theorem xOM (m:List Ins):okAll 11 (els insc m):=by
 unfold okAll
 simp only [els,List.all_map,yAa,Function.comp]
 intro x _;rfl
def Fun.insQ (f:Fun) (j:Nat):List Ins:=((f.blks.map Blk.ins).take j).flatten
def Fun.insA (f:Fun):List Ins:=(f.blks.map Blk.ins).flatten
def Prg.insQ (p:Prg) (i:Nat):List Ins:=((p.funs.map Fun.insA).take i).flatten
def Prg.insA (p:Prg):List Ins:=(p.funs.map Fun.insA).flatten
theorem Fun.insQ_succ {f:Fun} {j:Nat} {b:Blk} (h:f.blks[j]?=some b):f.insQ (j + 1)=f.insQ j ++ b.ins:=by
 have h':(f.blks.map Blk.ins)[j]?=some b.ins:=by rw [yAN,h];rfl
 unfold Fun.insQ
 rw [xAe h'];simp
theorem Prg.insQ_succ {p:Prg} {j:Nat} {f:Fun} (h:p.funs[j]?=some f):p.insQ (j + 1)=p.insQ j ++ f.insA:=by
 have h':(p.funs.map Fun.insA)[j]?=some f.insA:=by rw [yAN,h];rfl
 unfold Prg.insQ
 rw [xAe h'];simp
theorem Fun.insQ_all (f:Fun):f.insQ f.blks.length=f.insA:=by
 unfold Fun.insQ;rw [yAI (by simp)];rfl
theorem Prg.insQ_all (p:Prg):p.insQ p.funs.length=p.insA:=by
 unfold Prg.insQ;rw [yAI (by simp)];rfl
theorem xJA {l:List (List Ins)} (k:Nat):(l.take k).flatten.Sublist l.flatten:=by
 have h:l.flatten=(l.take k).flatten ++ (l.drop k).flatten:=by rw [← List.flatten_append,List.take_append_drop]
 rw [h];exact List.sublist_append_left _ _
theorem xP9 {p:Prg} {f:Fun} {b:Blk} {k j:Nat} (hf:p.funs[k]?=some f) (hb:f.blks[j]?=some b):(p.insQ k).length + (f.insQ j).length + b.ins.length≤p.insA.length:=by
 have h1:(f.insQ (j + 1)).Sublist f.insA:=xJA (j + 1)
 have h2:(p.insQ (k + 1)).Sublist p.insA:=xJA (k + 1)
 rw [Fun.insQ_succ hb] at h1
 rw [Prg.insQ_succ hf] at h2
 have h3:=h1.length_le
 have h4:=h2.length_le
 simp only [yAR] at h3 h4
 omega
theorem xJB (p:Prg) (hl:p.insA.length < 2 ^ 30) (hf:p.funs.length < 2 ^ 30) (hb:∀f ∈ p.funs,f.blks.length < 2 ^ 30):OwnL P (gl N) insc 11 57 [encP p] p.insA:=by
 refine OwnL.in c57 (by simp) ?_
 simp [k57]
 refine W.whileI (fun (i:Nat) F S=>i≤p.funs.length∧F 1=.ptr 0 0 0∧F 4=.int .i64 i∧S.obj 0=some (.row 1 [[p.funsV]])∧0 < S.next∧Has insc 11 S (F 3) (p.insQ i)∧Bel S (F 3)∧∀q c,F 3=.sl 11 q 0 c→0 < q) (fun i=>p.funs.length - i) ?_ 0 _ _ ?_
 ·rintro i F S ⟨hi,f1,f4,s0,hn,h3,b3,y3⟩
  simp [f1,f4,s0,p.funsS.len]
  by_cases hlt:i < p.funs.length
  ·have e4:=wrapS i (by omega)
   obtain ⟨f,hfi⟩:∃ f,p.funs[i]?=some f:=⟨_,xgG hlt⟩
   have hbl:=hb f (xmG hfi)
   simp [hlt]
   refine W.whileI (fun (j:Nat) F S=>j≤f.blks.length∧F 1=.ptr 0 0 0∧F 4=.int .i64 i∧F 5=.int .i64 j∧S.obj 0=some (.row 1 [[p.funsV]])∧0 < S.next∧Has insc 11 S (F 3) (p.insQ i ++ f.insQ j)∧Bel S (F 3)∧∀q c,F 3=.sl 11 q 0 c→0 < q) (fun j=>f.blks.length - j) ?_ 0 _ _ ?_
   ·clear f1 f4 s0 hn h3 b3 y3
    rintro j F S ⟨hj,f1,f4,f5,s0,hn,h3,b3,y3⟩
    simp [f1,f4,f5,s0,p.funsS.idx hfi,f.blksS.len]
    by_cases hltj:j < f.blks.length
    ·have e5:=wrapS j (by omega)
     obtain ⟨b,hbj⟩:∃ b,f.blks[j]?=some b:=⟨_,xgG hltj⟩
     have hpt:=xP9 hfi hbj
     simp [hltj,f1,f4,f5,s0,p.funsS.idx hfi,f.blksS.idx hbj,b.insS.elems]
     refine xOL h3 b3 (xOM b.ins) (by simp [room];omega) fun v' S' a1 a2 a3 a4 a5=>?_
     simp [f1,f4,f5,e5]
     refine ⟨j + 1,by omega,by omega,by omega,by rw [a4 0 hn fun c e=>absurd (y3 0 c e) (by omega)];exact s0,by omega,by rw [Fun.insQ_succ hbj,← yAr];exact a1,a2,fun q c e=>?_⟩
     rcases a5 with a5 | a5
     ·rw [a5] at e;exact y3 q c e
     ·have:=a5 q c e;omega
    ·have:j=f.blks.length:=by omega
     subst this
     simp [f1,f4,e4]
     exact ⟨i + 1,by omega,by omega,by omega,s0,hn,by rw [Prg.insQ_succ hfi,← f.insQ_all];exact h3,b3,y3⟩
   ·simp [f1,f4]
    exact ⟨s0,hn,by simpa [Fun.insQ] using h3,b3,y3⟩
  ·have:i=p.funs.length:=by omega
   subst this
   rw [p.insQ_all] at h3
   simp
   exact h3
 ·simp [Prg.insQ]
  exact ⟨Has.nil,Bel.nil⟩
theorem xQa {p:Prg} {x:Ins}:x ∈ p.insA ↔ ∃ f ∈ p.funs,∃ b ∈ f.blks,x ∈ b.ins:=by
 unfold Prg.insA Fun.insA
 simp only [yAf,yAU]
 constructor
 ·rintro ⟨l,⟨f,hf,rfl⟩,h⟩
  rw [yAf] at h
  obtain ⟨m,hm,hx⟩:=h
  obtain ⟨b,hb,rfl⟩:=yAU.1 hm
  exact ⟨f,hf,b,hb,hx⟩
 ·rintro ⟨f,hf,b,hb,hx⟩
  exact ⟨_,⟨f,hf,rfl⟩,yAf.2 ⟨_,yAU.2 ⟨b,hb,rfl⟩,hx⟩⟩
theorem xON {p:Prg} (hs:p.sane=true):p.insA.length≤1152:=by
 have hz:∀{α β:Type} {g:α→List β} {m:Nat} (l:List α),(∀a ∈ l,(g a).length≤m)→(l.map g).flatten.length≤l.length * m:=by
  intro α β g m l
  induction l with
  | nil=>intro _;simp
  | cons a l ih =>
   intro h
   have h1:=h a (by simp)
   have h2:=ih fun x hx=>h x (by simp [hx])
   simp only [yAu,yAz,yAR,yAh,yAd,Nat.one_mul]
   omega
 have h1:=hz (g:=Fun.insA) (m:=192) p.funs fun f hf=>by
  have hok:=sane_ok hs hf
  have h2:=hz (g:=Blk.ins) (m:=16) f.blks fun b hb=>(hok.blk hb).2.2.2.1
  have h3:=hok.len.2
  have h4:f.blks.length * 16≤12 * 16:=yAn _ h3
  unfold Fun.insA
  omega
 have h2:=(Prg.sane_iff.1 hs).1
 have h4:p.funs.length * 192≤6 * 192:=yAn _ h2
 unfold Prg.insA
 omega
def Prg.far (p:Prg):Bool:=p.insA.any fun i=>decide (2≤i.kind∧i.kind≤5)
theorem xUv {p:Prg} (h:∀i ∈ p.insA,¬ (2≤i.kind∧i.kind≤5)):p.far=false:=by
 unfold Prg.far;rw [List.any_eq_false];intro i hi;simpa using h i hi
theorem xOO {p:Prg} {i:Ins} (hi:i ∈ p.insA) (h:2≤i.kind∧i.kind≤5):p.far=true:=yBL.2 ⟨i,hi,by simpa using h⟩
theorem xRR {p:Prg} (h:p.far=false):∀i ∈ p.insA,¬ (2≤i.kind∧i.kind≤5):=fun i hi hk=>by rw [xOO hi hk] at h;cases h
theorem xKx {p:Prg} (hs:p.sane=true):Ret P (gl N) false 31 [encP p] (.bool p.far):=by
 refine Ret.in c31 (by simp) ?_
 have hl:=xON hs
 have hfl:=(Prg.sane_iff.1 hs).1
 simp [k31]
 refine (xJB p (by omega) (by omega) fun f hf=>by have:=(sane_ok hs hf).len.2;omega).ret.use (n:=9) (by simp [mapOpt,xAc p.funsS.stab]) (by simp [solids,AV.solid,p.funsS.solid]) ?_
 have hf:FSl insc 11 (encF insc 11 p.insA) p.insA:=xAt
 generalize encF insc 11 p.insA=v at *
 simp
 refine W.whileI (fun (k:Nat) F S=>k≤p.insA.length∧(∀i ∈ p.insA.take k,¬ (2≤i.kind∧i.kind≤5))∧F 3=v∧F 4=.int .i64 k) (fun k=>p.insA.length - k) ?_ 0 _ _ ?_
 ·rintro k F S ⟨hk,hno,f3,f4⟩
  simp [f3,f4,hf.len]
  by_cases hlt:k < p.insA.length
  ·obtain ⟨i,hi⟩:∃ i,p.insA[k]?=some i:=⟨_,xgG hlt⟩
   have e4:=wrapS k (by omega)
   simp [hlt,f3,f4,hf.idx hi]
   have hadd:¬ (2≤i.kind∧i.kind≤5)→∀z ∈ p.insA.take (k + 1),¬ (2≤z.kind∧z.kind≤5):=fun h z hz=>by
    rw [xAe hi] at hz
    rcases yAQ.1 hz with hz | hz
    ·exact hno z hz
    ·rw [yAO] at hz;subst hz;exact h
   by_cases h2:2≤i.kind
   ·by_cases h5:i.kind≤5
    ·simp [h2,h5,f3,f4,hf.idx hi]
     rw [xOO (xmG hi) ⟨h2,h5⟩]
     exact RK.stab rfl
    ·simp [h2,h5,f3,f4,hf.idx hi,e4]
     exact ⟨k + 1,by omega,by omega,fun z hz q=>by have:=hadd (fun h=>h5 h.2) z hz;omega,by omega⟩
   ·simp [h2,f3,f4,e4]
    exact ⟨k + 1,by omega,by omega,fun z hz q=>by have:=hadd (fun h=>h2 h.1) z hz;omega,by omega⟩
  ·have:k=p.insA.length:=by omega
   subst this
   rw [yAV] at hno
   simp
   rw [xUv hno]
   exact RK.stab rfl
 ·simp
theorem xIb {p:Prg} {X:List SEnv} {f b:Nat}:∀(m:List Int) (e:SEnv),e.le (m.foldl (fun e j=>e.join (hereX p X f j.toNat (p.cd f j.toNat).length)) e)∧∀j ∈ m,(hereX p X f j.toNat (p.cd f j.toNat).length).le (m.foldl (fun e j=>e.join (hereX p X f j.toNat (p.cd f j.toNat).length)) e)
 | [],e=>⟨SEnv.le_refl e,fun j hj=>by cases hj⟩
 | j :: m,e=>by
  obtain ⟨h1,h2⟩:=xIb (p:=p) (X:=X) (f:=f) (b:=b) m (e.join (hereX p X f j.toNat (p.cd f j.toNat).length))
  refine ⟨SEnv.le_trans (SEnv.le_join_l _ _) h1,fun k hk=>?_⟩
  rcases yAS.1 hk with rfl | hk
  ·exact SEnv.le_trans (SEnv.le_join_r _ _) h1
  ·exact h2 k hk
theorem xJC (p:Prg) (f b:Nat):hereX p p.ssol f b 0=p.sAt (.blk f b):=by simp [hereX,pastX,Prg.sAt]
theorem xJD {p:Prg} {X:List SEnv} {f b k:Nat} {i:Ins} (h:(p.cd f b)[k]?=some i):hereX p X f b (k + 1)=i.sign (hereX p X f b k) (ansX p X i):=by
 unfold hereX pastX
 rw [xAe h,List.foldl_append];rfl
theorem xIc {p:Prg} (hp:p.OK) {f b j:Nat} {x:Fun} {y:Blk} (hx:p.funs[f]?=some x) (hy:x.blks[b]?=some y) (hj:(j:Int) ∈ y.out) (hjl:j < x.blks.length):(hereX p p.ssol f b y.ins.length).le (p.sAt (.blk f j)):=by
 rw [Prg.sAt_fix (u:=.blk f j) ⟨x,hx,hjl⟩]
 have hm:(b:Int) ∈ x.preds j:=Fun.preds_mem.2 ⟨b,y,rfl,hy,hj⟩
 have:=(xIb (p:=p) (X:=p.ssol) (f:=f) (b:=j) (p.predsN f j) (begX0 p p.ssol f j)).2 b (by rw [(Prg.predsN_of hp hx).2];exact hm)
 rw [yAs,Prg.cd_of hx hy] at this
 exact this
theorem xJE {p:Prg} {f:Nat} {x:Fun} (hx:p.funs[f]?=some x) (h0:0 < x.blks.length):((p.sAt (.par f)).start x.par x.vars).le (p.sAt (.blk f 0)):=by
 rw [Prg.sAt_fix (u:=.blk f 0) ⟨x,hx,h0⟩]
 have:=(xIb (p:=p) (X:=p.ssol) (f:=f) (b:=0) (p.predsN f 0) (begX0 p p.ssol f 0)).1
 refine SEnv.le_trans ?_ this
 unfold begX0
 rw [if_pos rfl]
 simp only [Prg.parOf,Prg.varsOf,hx]
 exact SEnv.le_refl _
theorem xId {p:Prg} {X:List SEnv}:∀(l:List Step) (e:SEnv),e.le (l.foldl (callX p X) e)
 | [],e=>SEnv.le_refl e
 | s :: l,e=>by
  refine SEnv.le_trans ?_ (xId l _)
  unfold callX
  split
  ·exact SEnv.le_refl e
  ·exact SEnv.le_join_l _ _
theorem xOP {p:Prg} {x:Fun} (hx:p.funs[0]?=some x):SEnv.le (some (allS x.par 7)) (p.sAt (.par 0)):=by
 rw [Prg.sAt_fix (u:=.par 0) (xgS hx).1]
 refine SEnv.le_trans ?_ (xId (p.callsTo 0) _)
 unfold parX0
 rw [if_pos rfl]
 simp only [Prg.parOf,hx]
 exact SEnv.le_refl _
def stepSV (l:List Int) (x:Ins) (w:Int):Int :=
 if x.kind=0 then wrap32 x.c else if x.kind=1 then l.getD x.a.toNat 0 else if x.kind=2 then IntKind.i64.wrap (-(l.getD x.a.toNat 0)) else if x.kind=3 then IntKind.i64.wrap (l.getD x.a.toNat 0 + l.getD x.b.toNat 0) else
 if x.kind=4 then IntKind.i64.wrap (l.getD x.a.toNat 0 - l.getD x.b.toNat 0) else if x.kind=5 then IntKind.i64.wrap (l.getD x.a.toNat 0 * l.getD x.b.toNat 0) else w
def stepSL (l:List Int) (x:Ins) (w:Int):List Int:=if x.def < 0 then l else l.set x.def.toNat (stepSV l x w)
def SgT (l:List Int) (e:SEnv):Prop:=e.isSome=true∧∀(k:Nat) u,l[k]?=some u→sgLe (sgOf u) (e.get k)
theorem SgT.le {l:List Int} {e e':SEnv} (h:SgT l e) (hle:e.le e'):SgT l e':=by
 obtain ⟨h1,h2⟩:=h
 refine ⟨?_,fun k u hu=>xAT (xAW _) (SEnv.get_ok _ _) (SEnv.get_ok _ _) (h2 k u hu) (SEnv.get_mono hle k)⟩
 cases e with
 | none=>cases h1
 | some m=>obtain ⟨m',hm',_⟩:=hle m rfl;rw [hm'];rfl
theorem SgT.getD {l:List Int} {e:SEnv} (h:SgT l e) {a:Int} (ha:0≤a∧a < l.length):sgLe (sgOf (l.getD a.toNat 0)) (e.get a):=by
 obtain ⟨k,rfl⟩:∃ k:Nat,a=(k:Int):=⟨a.toNat,by omega⟩
 obtain ⟨u,hu⟩:∃ u,l[k]?=some u:=⟨_,xgG (by omega)⟩
 have:=h.2 k u hu
 simpa [yAA,hu] using this
theorem xRS (u:Int):¬ sgLe (sgOf u) 0:=by
 rcases xBp u with ⟨_,e⟩ | ⟨_,e⟩ | ⟨_,e⟩ <;> rw [e] <;> decide +kernel
theorem xHc {l:List Int} (h:∀u ∈ l,-1073741824≤u∧u≤1073741824) (k:Nat):-1073741824≤l.getD k 0∧l.getD k 0≤1073741824:=by
 rw [yAA]
 cases hk:l[k]? with
 | none=>simp
 | some u=>exact h u (xmG hk)
theorem xEl {a b:Int} (ha:-1073741824≤a∧a≤1073741824) (hb:-1073741824≤b∧b≤1073741824):-1152921504606846976≤a * b∧a * b≤1152921504606846976:=by
 have h1:(a * b).natAbs≤1073741824 * 1073741824:=by
  rw [Int.natAbs_mul]
  exact Nat.mul_le_mul (by omega) (by omega)
 omega
theorem SgT.step {l:List Int} {e:SEnv} (h:SgT l e) {x:Ins} {w ans:Int} (hk7:x.kind ≠ 7) (hs:2≤x.kind∧x.kind≤5→∀u ∈ l,-1073741824≤u∧u≤1073741824) (hc:-2147483648≤x.c∧x.c≤2147483647) (hd:x.def < 0 ∨ (0≤x.def∧x.def < l.length∧0≤x.a∧x.a < l.length∧0≤x.b∧x.b < l.length)):SgT (stepSL l x w) (x.sign e ans):=by
 refine ⟨by rw [Ins.sign_on];exact h.1,?_⟩
 have hon:=h.1
 cases e with
 | none=>cases hon
 | some m =>
 intro k u hu
 unfold Ins.sign
 rw [SEnv.set_get]
 rcases hd with hd | ⟨hd0,hdl,ha0,hal,hb0,hbl⟩
 ·rw [if_neg (by omega)]
  unfold stepSL at hu
  rw [if_pos hd] at hu
  exact h.2 k u hu
 ·unfold stepSL at hu
  rw [if_neg (by omega)] at hu
  by_cases hkd:k=x.def.toNat
  ·subst hkd
   rw [yAF (by omega)] at hu
   cases hu
   obtain ⟨u0,hu0⟩:∃ u,l[x.def.toNat]?=some u:=⟨_,xgG (by omega)⟩
   have h0:=h.2 _ _ hu0
   have hml:x.def < m.length:=by
    refine Decidable.byContradiction fun hn=>xRS u0 ?_
    have:gS m ((x.def.toNat:Nat):Int)=0:=xC8 (by omega)
    rw [← this];exact h0
   rw [if_pos ⟨hd0,hml,by omega⟩]
   have ga:=h.getD ⟨ha0,hal⟩
   have gb:=h.getD ⟨hb0,hbl⟩
   have oa:=SEnv.get_ok (some m) x.a
   have ob:=SEnv.get_ok (some m) x.b
   have sa:=fun h=>xHc (hs h) x.a.toNat
   have sb:=fun h=>xHc (hs h) x.b.toNat
   unfold stepSV Ins.sgn
   generalize l.getD x.a.toNat 0=ua at *
   generalize l.getD x.b.toNat 0=ub at *
   by_cases k0:x.kind=0
   ·simp only [k0,if_true,reduceIte]
    rw [xEc hc,xAv (xAW _)];exact xAw (xAW _)
   by_cases k1:x.kind=1
   ·simp only [k0,k1,if_true,if_false,Int.reduceEq,reduceIte]
    rw [xAv oa];exact ga
   by_cases k2:x.kind=2
   ·have sa:=sa (by omega)
    have sb:=sb (by omega)
    have hmul:=xEl sa sb
    simp only [k0,k1,k2,if_true,if_false,Int.reduceEq,reduceIte]
    rw [xAa (by omega),xAv (xBz _)];exact xJn oa ga
   by_cases k3:x.kind=3
   ·have sa:=sa (by omega)
    have sb:=sb (by omega)
    have hmul:=xEl sa sb
    simp only [k0,k1,k2,k3,if_true,if_false,Int.reduceEq,reduceIte]
    rw [xAa (by omega),xAv (xBx _ _)];exact xJm oa ob ga gb
   by_cases k4:x.kind=4
   ·have sa:=sa (by omega)
    have sb:=sb (by omega)
    have hmul:=xEl sa sb
    simp only [k0,k1,k2,k3,k4,if_true,if_false,Int.reduceEq,reduceIte]
    rw [xAa (by omega),xAv (xFm _ _)];exact xOl oa ob ga gb
   by_cases k5:x.kind=5
   ·have sa:=sa (by omega)
    have sb:=sb (by omega)
    have hmul:=xEl sa sb
    simp only [k0,k1,k2,k3,k4,k5,if_true,if_false,Int.reduceEq,reduceIte]
    rw [xAa (by omega),xAv (xBy _ _)];exact xOk oa ob ga gb
   simp only [k0,k1,k2,k3,k4,k5,hk7,if_false]
   exact xQz (xAW _)
  ·rw [yAH (Ne.symm hkd)] at hu
   rw [if_neg (by omega)]
   exact h.2 k u hu
def beginS (n k:Nat) (w:List Int):List Int:=(List.range n).map fun v:Nat=>if v < k then (w.getD v 0).tmod 100 else 0
theorem xBr (n k:Nat) (w:List Int):(beginS n k w).length=n:=by simp [beginS]
theorem xFc {p:Prg} {x:Fun} {k:Nat} {w:List Int} (hx:p.funs[0]?=some x) (h0:0 < x.blks.length) (hk:(k:Int)≤x.par) (hv:(x.wid:Int)=x.vars):SgT (beginS x.wid k w) (p.sAt (.blk 0 0)):=by
 refine SgT.le (e:=(p.sAt (.par 0)).start x.par x.vars) ?_ (xJE hx h0)
 obtain ⟨m,hm,hle⟩:=xOP hx _ rfl
 rw [hm]
 refine ⟨rfl,fun j u hu=>?_⟩
 have hj:j < x.wid:=by have:=(xgS hu).1;rwa [xBr] at this
 have hu':u=if j < k then (w.getD j 0).tmod 100 else 0:=by
  simp only [beginS,yAN,yBI hj,yBT,xoI] at hu
  exact hu.symm
 show sgLe (sgOf u) (gS (startS x.par x.vars m) j)
 unfold startS
 rw [xEg,if_pos ⟨by omega,by have:x.wid=capN x.vars:=rfl;omega⟩,yAs]
 by_cases hp:(j:Int) < x.par
 ·rw [if_pos hp]
  have h7:gS (allS x.par 7) j=7:=by
   rw [allS,xMp (v:=sgS 7)]
   ·decide +kernel
   ·rw [yAv,if_pos]
    unfold capN
    have:x.wid≤64:=by have:x.wid=capN x.vars:=rfl;rw [this];unfold capN;omega
    omega
  have h8:=hle.2 j
  rw [h7] at h8
  rw [xG7]
  exact xAT (xAW _) ⟨by omega,by omega⟩ (xBK _ _) (xQz (xAW _)) h8
 ·rw [if_neg hp]
  rw [hu',if_neg (by omega)]
  decide +kernel
end Go.Proofs.YtnhfofmhkfdpgaaGreatDoor.Vm
namespace Go.Proofs.YtnhfofmhkfdpgaaGreatDoor.Vm
open Go Go.RowKit
variable {N:Nat} {g:Glob}
open Classical in
noncomputable def Fun.cRow (x:Fun) (f:Nat):List Int:=((x.posTo f x.blks.length).filter fun s=>decide (s.2.2.2.kind=7∧x.Way s.2.1)).map fun s=>s.2.2.2.f
noncomputable def Prg.cG (p:Prg):List (List Int):=(List.range p.funs.length).map fun f=>match p.funs[f]? with
 | some x=>x.cRow f
 | none=>[]
theorem xOQ (p:Prg):p.cG.length=p.funs.length:=by simp [Prg.cG]
theorem xQF {p:Prg} {f:Nat} {x:Fun} (hx:p.funs[f]?=some x):p.cG[f]?=some (x.cRow f):=by
 have:=(xgS hx).1
 simp only [Prg.cG,yAN,yBI this,yBT,hx]
def Prg.Cld (p:Prg) (f:Nat):Prop:=Rch (cleanG p.cG) 0 f
theorem xQb {p:Prg} {f h:Nat} {x:Fun} (hx:p.funs[f]?=some x) (hh:h < p.funs.length) (hm:(h:Int) ∈ x.cRow f) (hc:p.Cld f):p.Cld h:=by
 refine Rch.step hc (l:=cleanL p.cG.length (x.cRow f)) ?_ ?_
 ·unfold cleanG;rw [yAN,xQF hx];rfl
 ·rw [xAp,xOQ];exact ⟨hm,by omega,by omega⟩
theorem xLx {x:Fun} {f:Nat} {h:Int}:h ∈ x.cRow f ↔ ∃ (b k:Nat) (y:Blk) (i:Ins),x.blks[b]?=some y∧y.ins[k]?=some i∧i.kind=7∧x.Way b∧i.f=h:=by
 unfold Fun.cRow
 simp only [yAU,yAp,decide_eq_true_eq]
 constructor
 ·rintro ⟨s,⟨hs,h7,hw⟩,rfl⟩
  obtain ⟨_,_,y,q1,q2⟩:=Fun.posTo_mem.1 hs
  exact ⟨_,_,y,_,q1,q2,h7,hw,rfl⟩
 ·rintro ⟨b,k,y,i,q1,q2,h7,hw,rfl⟩
  exact ⟨(f,b,k,i),⟨Fun.posTo_mem.2 ⟨rfl,(xgS q1).1,y,q1,q2⟩,h7,hw⟩,rfl⟩
theorem SEnv.le_on {a b:SEnv} (h:a.le b) (ha:a.isSome=true):b.isSome=true:=by
 cases a with
 | none=>cases ha
 | some l=>obtain ⟨m,hm,_⟩:=h l rfl;rw [hm];rfl
theorem xKA (p:Prg) (X:List SEnv):∀(l:List Ins) (e:SEnv),(pastX p X e l).isSome=e.isSome
 | [],e=>rfl
 | i :: l,e=>by
  show (pastX p X (i.sign e _) l).isSome=_
  rw [xKA p X l,Ins.sign_on]
theorem xKB (p:Prg) (f b k:Nat):(hereX p p.ssol f b k).isSome=(p.sAt (.blk f b)).isSome:=xKA _ _ _ _
theorem xJF {p:Prg} {X:List SEnv}:∀(l:List Step) (e:SEnv) (s:Step),s ∈ l→(hereX p X s.1 s.2.1 s.2.2.1).isSome=true→(l.foldl (callX p X) e).isSome=true
 | [],_,_,hs,_=>by cases hs
 | t :: l,e,s,hs,hh=>by
  rcases yAS.1 hs with rfl | hs
  ·refine SEnv.le_on (xId l _) ?_
   unfold callX
   cases hx:hereX p X s.1 s.2.1 s.2.2.1 with
   | none=>rw [hx] at hh;cases hh
   | some m=>rw [SEnv.join_on];simp
  ·exact xJF l _ s hs hh
theorem xQG {p:Prg} (hp:p.OK) (hn:0 < p.funs.length) {f:Nat} (h:p.Cld f):(p.sAt (.par f)).isSome=true∧∀x b,p.funs[f]?=some x→x.Way b→(p.sAt (.blk f b)).isSome=true:=by
 have blk:∀f,(p.sAt (.par f)).isSome=true→∀x b,p.funs[f]?=some x→x.Way b→(p.sAt (.blk f b)).isSome=true:=by
  intro f hf x b hx hw
  unfold Fun.Way at hw
  induction hw with
  | base =>
   refine SEnv.le_on (xJE hx (hp.fun hx).len.1) ?_
   cases hs:p.sAt (.par f) with
   | none=>rw [hs] at hf;cases hf
   | some l=>rfl
  | step _ hl hb ih =>
   obtain ⟨y,hy,hby,hbl⟩:=xEd hl hb
   refine SEnv.le_on (xIc hp hx hy hby hbl) ?_
   rw [xKB];exact ih
 have par:(p.sAt (.par f)).isSome=true:=by
  unfold Prg.Cld at h
  induction h with
  | base =>
   obtain ⟨x,hx⟩:∃ x,p.funs[0]?=some x:=⟨_,xgG hn⟩
   exact SEnv.le_on (xOP hx) rfl
  | @step a c l _ hl hb ih =>
   have ha:=(xgS hl).1
   have hcl:(cleanG p.cG).length=p.funs.length:=by simp [cleanG,xOQ]
   obtain ⟨x,hx⟩:∃ x,p.funs[a]?=some x:=⟨_,xgG (by omega)⟩
   unfold cleanG at hl
   rw [yAN,xQF hx] at hl
   cases hl
   rw [xAp,xOQ] at hb
   obtain ⟨b,k,y,i,hy,hi,h7,hw,hf⟩:=xLx.1 hb.1
   have hfl:c < p.funs.length:=by omega
   rw [Prg.sAt_fix (u:=.par c) hfl]
   refine xJF (p.callsTo c) _ (a,b,k,i) (yAp.2 ⟨Prg.pos_mem.2 ⟨x,y,hx,hy,hi⟩,by simp [isCall,h7,hf]⟩) ?_
   rw [xKB]
   exact blk a ih x b hx hw
 exact ⟨par,fun x b hx hw=>blk f par x b hx hw⟩
def Prg.Rcd (p:Prg):Unk→Prop
 | .par f=>p.Cld f
 | .ans _=>True
 | .blk f b=>p.Cld f∧∃ x,p.funs[f]?=some x∧x.Way b
open Classical in
noncomputable def Prg.onY (p:Prg):List SEnv:=p.unks.map fun u=>if p.Rcd u then p.sAt u else none
theorem xKC (p:Prg):p.onY.length=p.unks.length:=by simp [Prg.onY]
open Classical in
theorem onY_at {p:Prg} {u:Unk} (h:p.has u):p.onY.getD (p.at' u) none=if p.Rcd u then p.sAt u else none:=by
 rw [yAA,Prg.onY,yAN,Prg.unks_at h];rfl
theorem xHd (p:Prg) (X:List SEnv) (l:List Ins):pastX p X none l=none:=by
 have:=xKA p X l none
 cases h:pastX p X none l with
 | none=>rfl
 | some m=>rw [h] at this;cases this
theorem xUw (p:Prg):XLe p.onY p.ssol:=fun k=>by
 rw [yAA,Prg.onY,yAN]
 cases hu:p.unks[k]? with
 | none=>exact SEnv.le_none _
 | some u =>
  have hk:=(Prg.unks_has hu).2
  simp only [yBT,Option.getD_some]
  split
  ·unfold Prg.sAt;rw [hk];exact SEnv.le_refl _
  ·exact SEnv.le_none _
theorem xQc {p:Prg} (hp:p.OK):p.ssys.Post p.onY:=by
 classical
 refine ⟨⟨xKC p,fun e he=>?_⟩,fun k a ha=>?_⟩
 ·unfold Prg.onY at he
  obtain ⟨u,_,rfl⟩:=yAU.1 he
  split
  ·exact p.ssol_ok _
  ·exact SEnv.ok_none
 ·have hk:k < p.unks.length:=by rw [← xKC];exact (xgS ha).1
  obtain ⟨u,hu⟩:∃ u,p.unks[k]?=some u:=⟨_,xgG hk⟩
  obtain ⟨hh,rfl⟩:=Prg.unks_has hu
  have h1:=onY_at hh
  rw [yAA,ha] at h1
  simp only [Option.getD_some] at h1
  show SEnv.le (evX p p.onY (p.at' u)) a
  rw [xQB hh,h1]
  by_cases hr:p.Rcd u
  ·rw [if_pos hr,Prg.sAt_fix hh]
   exact xLo (xUw p) u
  ·rw [if_neg hr]
   have hnone:evU p p.onY u=none:=by
    cases u with
    | ans f=>exact absurd trivial hr
    | par f =>
     have hf0:f ≠ 0:=fun e=>hr (e ▸ Rch.base)
     show (p.callsTo f).foldl (callX p p.onY) (parX0 p f)=none
     have h0:parX0 p f=none:=by simp [parX0,hf0]
     rw [h0]
     have all:∀l:List Step,(∀s ∈ l,s ∈ p.callsTo f)→l.foldl (callX p p.onY) none=none:=by
      intro l hl
      induction l with
      | nil=>rfl
      | cons s l ih =>
       rw [yAe]
       have hs:=hl s (by simp)
       have hx:callX p p.onY none s=none:=by
        obtain ⟨hs1,hs2⟩:=yAp.1 hs
        obtain ⟨x,y,hx,hy,hi⟩:=Prg.pos_mem.1 hs1
        have hbk:p.has (.blk s.1 s.2.1):=⟨x,hx,(xgS hy).1⟩
        have hno:¬ p.Rcd (.blk s.1 s.2.1):=fun ⟨hc,x',hx',hw⟩=>by
         rw [hx] at hx';cases hx'
         simp only [isCall,decide_eq_true_eq] at hs2
         exact hr (xQb hx hh (xLx.2 ⟨_,_,y,_,hy,hi,hs2.1,hw,hs2.2⟩) hc)
        have:hereX p p.onY s.1 s.2.1 s.2.2.1=none:=by
         unfold hereX;rw [onY_at hbk,if_neg hno];exact xHd _ _ _
        unfold callX;rw [this]
       rw [hx];exact ih fun t ht=>hl t (by simp [ht])
     exact all _ fun s hs=>hs
    | blk f b =>
     obtain ⟨x,hx,hb⟩:=hh
     have hfl:p.has (.par f):=(xgS hx).1
     have hnr:¬ (p.Cld f∧x.Way b):=fun ⟨h1,h2⟩=>hr ⟨h1,x,hx,h2⟩
     show begXTo p p.onY f b (p.predsN f b)=none
     rw [(Prg.predsN_of hp hx).2]
     have h0:begX0 p p.onY f b=none:=by
      unfold begX0
      by_cases hb0:b=0
      ·subst hb0
       have h1:p.onY.getD (p.at' (.par f)) none=none:=(onY_at hfl).trans (if_neg fun h=>hnr ⟨h,Rch.base⟩)
       show SEnv.start (p.parOf f) (p.varsOf f) (p.onY.getD (p.at' (.par f)) none)=none
       rw [h1];rfl
      ·rw [if_neg hb0]
     unfold begXTo
     rw [h0]
     have all:∀l:List Int,(∀j ∈ l,j ∈ x.preds b)→l.foldl (fun (e:SEnv) j=>e.join (hereX p p.onY f j.toNat (p.cd f j.toNat).length)) (none:SEnv)=none:=by
      intro l hl
      induction l with
      | nil=>rfl
      | cons j l ih =>
       rw [yAe]
       obtain ⟨m,z,rfl,hz,hzb⟩:=Fun.preds_mem.1 (hl j (by simp))
       have hm:=(xgS hz).1
       have hon:z.on=true:=by
        cases hon:z.on
        ·have:=(((hp.fun hx).blk (xmG hz)).1 hon).2
         rw [this] at hzb;cases hzb
        ·rfl
       have hno:¬ p.Rcd (.blk f m):=fun ⟨hc,x',hx',hw⟩=>by
        rw [hx] at hx';cases hx'
        obtain ⟨l,hl1,hl2⟩:=xJe hz hon hzb hb
        exact hnr ⟨hc,Rch.step hw hl1 hl2⟩
       have hn:hereX p p.onY f ((m:Int).toNat) (p.cd f (m:Int).toNat).length=none:=by
        rw [yAs]
        unfold hereX;rw [onY_at (u:=.blk f m) ⟨x,hx,hm⟩,if_neg hno];exact xHd _ _ _
       rw [hn]
       exact ih fun t ht=>hl t (by simp [ht])
     exact all _ fun j hj=>hj
   rw [hnone];exact SEnv.le_none _
theorem xQH {p:Prg} (hp:p.OK) {u:Unk} (h:p.has u) (hon:(p.sAt u).isSome=true):p.Rcd u:=by
 classical
 refine Decidable.byContradiction fun hn=>?_
 have h1:=onY_at h
 rw [if_neg hn] at h1
 have hl:p.at' u < p.onY.length:=by rw [xKC];exact Prg.at_lt h
 have h2:=p.ssol_least.low p.onY (xQc hp) (p.at' u) (p.sAt u) (p.onY[p.at' u]'hl) (Prg.sAt_get h) (xgG _)
 rw [yAA,xgG hl] at h1
 simp only [Option.getD_some] at h1
 rw [h1] at h2
 have:=SEnv.le_on h2 hon
 cases this
theorem xRT {p:Prg} (hp:p.OK) {f b:Nat} {x:Fun} (hx:p.funs[f]?=some x) (hb:b < x.blks.length):(p.sAt (.blk f b)).isSome=true ↔ p.Cld f∧x.Way b:=by
 have hf:=(xgS hx).1
 constructor
 ·intro h
  obtain ⟨h1,x',hx',h2⟩:=xQH hp (u:=.blk f b) ⟨x,hx,hb⟩ h
  rw [hx] at hx';cases hx'
  exact ⟨h1,h2⟩
 ·rintro ⟨h1,h2⟩
  exact (xQG hp (by omega) h1).2 x b hx h2
end Go.Proofs.YtnhfofmhkfdpgaaGreatDoor.Vm
