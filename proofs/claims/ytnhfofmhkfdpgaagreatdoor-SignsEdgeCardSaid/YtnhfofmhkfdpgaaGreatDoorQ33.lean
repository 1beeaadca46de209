/- A part of the proof: Cm Cn Co Cp. -/
import Derived.KernelRfl
import Derived.Test.YtnhfofmhkfdpgaaGreatDoorQ32
set_option linter.unusedVariables false
set_option linter.unusedSimpArgs false
set_option linter.constructorNameAsVariable false
namespace Go.Proofs.YtnhfofmhkfdpgaaGreatDoor.Vm
open Go Go.RowKit
variable {N:Nat} {g:Glob}
theorem xIK {S':St} {a:Nat} {x:AObj} (h:S'.obj a=some x):Sub (⟨1,fun q=>if q=a then some x else none⟩:St) S':=fun q z hz=>by
 simp only at hz
 split at hz
 ·rename_i e;subst e;rw [h];exact hz
 ·cases hz
theorem xTp {S':St} {a b:Nat} {x y:AObj} (h:S'.obj a=some x) (h2:S'.obj b=some y):Sub (⟨1,fun q=>if q=a then some x else if q=b then some y else none⟩:St) S':=fun q z hz=>by
 simp only at hz
 split at hz
 ·rename_i e;subst e;rw [h];exact hz
 ·split at hz
  ·rename_i e;subst e;rw [h2];exact hz
  ·cases hz
set_option maxHeartbeats 1000000 in
theorem xRD {S:St} {p:Prg} {ps qm o:Nat} {av:AV} {X:List SEnv} {u:Unk} {K:AV->St->Prop} (hp:p.OK) (hS:SysO S p ps av qm) (hx:XRow S o p X) (hu:p.has u)
  (hk:∀S',Up S S'->K (.agg (envcS (evU p X u))) S'):Cal P (gl N) 81 [.ptr ps 0 0,.int .i64 ((p.at' u:Nat):Int),.sl 2 o 0 p.unks.length] S K:=by
 refine c81.in (by simp) ?_
 have npq:¬ ps=S.next:=by have:=hS.lt;omega
 obtain ⟨qa,rfl,hqa,hix⟩:=hS.all.idx (Prg.unks_at hu)
 have hqb:=hS.bel _ _ _ rfl
 have nqa:¬ qa=S.next:=by omega
 have hget:=Prg.unks_at hu
 simp [k81,hS.box,npq,hix,nqa,hqa,hget]
 generalize hS0:S.new (.row 2 [[.bool false,.nilsl]])=S0
 have hu0:Up S S0:=by rw [<- hS0];exact Up.new _ _
 have o0:S0.obj S.next=some (.row 2 [[.bool false,.nilsl]]):=by rw [<- hS0];simp
 have n0:S0.next=S.next + 1:=by rw [<- hS0];simp
 clear hS0
 cases u with
 | par f =>
  obtain ⟨z,hz⟩:∃ x,p.funs[f]?=some x:=⟨_,xgG hu⟩
  simp
  generalize hS1:(S0.new (.row 1 [[.int .i64 0]])).set S0.next (.row 1 [[.int .i64 (f:Int)]])=S1
  have hu1:Up S0 S1:=by rw [<- hS1];exact (Up.new _ _).put (Nat.le_refl _) _
  clear hS1
  refine xNH hp (hS.up (hu0.trans hu1)) (hx.up (hu0.trans hu1)) hz fun S2 hu2=>?_
  have o2:S2.obj S.next=some (.row 2 [[.bool false,.nilsl]]):=by rw [(hu1.trans hu2).2 _ (by omega)];exact o0
  simp [o2]
  exact hk _ (((hu0.trans hu1).trans hu2).put (Nat.le_refl _) _)
 | ans f =>
  obtain ⟨z,hz⟩:∃ x,p.funs[f]?=some x:=⟨_,xgG hu⟩
  simp
  generalize hS1:(S0.new (.row 1 [[.int .i64 0]])).set S0.next (.row 1 [[.int .i64 (f:Int)]])=S1
  have hu1:Up S0 S1:=by rw [<- hS1];exact (Up.new _ _).put (Nat.le_refl _) _
  clear hS1
  refine xNI hp (hS.up (hu0.trans hu1)) (hx.up (hu0.trans hu1)) hz fun S2 hu2=>?_
  have o2:S2.obj S.next=some (.row 2 [[.bool false,.nilsl]]):=by rw [(hu1.trans hu2).2 _ (by omega)];exact o0
  have hk':∀S',Up S S'->K (.agg (envcS (some [sgS (answX p X f)]))) S':=hk
  simp only [xBh] at hk'
  simp [o2]
  exact hk' _ (((hu0.trans hu1).trans hu2).put (Nat.le_refl _) _)
 | blk f b =>
  obtain ⟨z,hz,hb⟩:=hu
  obtain ⟨hP,hPN⟩:=Prg.predsN_of hp (f:=f) (b:=b) hz
  have hE:evU p X (.blk f b)=begXTo p X f b (z.preds b):=by show begXTo p X f b (p.predsN f b)=_;rw [hPN]
  rw [hE] at hk
  have hbl:=(hp.fun hz).len.2
  have hpl:(z.preds (b:Int)).length<=12:=Nat.le_trans (z.predsTo_len _ _) hbl
  have hpm:∀j ∈ z.preds (b:Int),∃ (m:Nat) (y:Blk),j=(m:Int)/\z.blks[m]?=some y:=fun j hj=>by
   obtain ⟨m,y,h1,h2,_⟩:=Fun.preds_mem.1 hj
   exact ⟨m,y,h1,h2⟩
  have hC:=(xET (N:=N) p f b hp.fit).ret
  rw [hP] at hC
  generalize z.preds (b:Int)=L at *
  have hLf:FSl intc 1 (encF intc 1 L) L:=xAl
  have hpar:p.has (.par f):=(xgS hz).1
  have hfp:=xBZ hpar
  obtain ⟨hg1,hg2⟩:=hx.get hpar
  have hB0:begXTo p X f b []=begX0 p X f b:=rfl
  have hb1:b=0->begX0 p X f b=(X.getD (p.at' (.par f)) none).start z.par z.vars:=fun h=>by unfold begX0;rw [if_pos h];simp [Prg.parOf,Prg.varsOf,hz]
  have hb2:b ≠ 0->begX0 p X f b=none:=fun h=>by unfold begX0;rw [if_neg h]
  have heo:=hx.ok (p.at' (.par f))
  generalize X.getD (p.at' (.par f)) none=ep at *
  simp
  generalize hS1:(((S0.new (.row 2 [[.int .i64 0,.int .i64 0]])).set S0.next (.row 2 [[.int .i64 (f:Int),.int .i64 (b:Int)]])).new (.row 2 [[.bool false,.nilsl]])).set (S0.next + 1) (.row 2 [[.bool false,.nilsl]])=S1
  have hu1:Up S0 S1:=by rw [<- hS1];exact (((Up.new _ _).put (Nat.le_refl _) _).trans (Up.new _ _)).put (by omega) _
  have o19:S1.obj (S.next + 1)=some (.row 2 [[.int .i64 (f:Int),.int .i64 (b:Int)]]):=by rw [<- hS1];simp [n0]
  have o1A:S1.obj (S.next + 2)=some (.row 2 [[.bool false,.nilsl]]):=by rw [<- hS1];simp [n0]
  have n1:S1.next=S.next + 3:=by rw [<- hS1];simp [n0]
  clear hS1
  simp only [n0]
  have hu01:=hu0.trans hu1
  have hS1:=hS.up hu01
  have hx1:=hx.up hu01
  refine Bra.cut (fun F' S2=>F' 0=.ptr ps 0 0/\F' 2=.sl 2 o 0 p.unks.length/\F' 6=.ptr S.next 0 0/\F' 9=.ptr (S.next + 1) 0 0/\F' 10=.ptr (S.next + 2) 0 0/\Up S0 S2/\S.next + 3<=S2.next/\S2.obj (S.next + 1)=some (.row 2 [[.int .i64 (f:Int),.int .i64 (b:Int)]])/\S2.obj (S.next + 2)=some (.row 2 [envcS (begX0 p X f b)])) ?_ ?_
  ·refine xAj (fun h0=>?_) (fun h0=>?_)
   ·rw [hb1 h0]
    have hfi:=p.funsS.idx hz
    simp
    refine Dra.auto [] mix ?_ ?_
    ·kernel_rfl
    simp [classes,o19,hS1.box,hS1.map,hfi,xDY,-KK.fits,xCR,hfp,xAd hg2,hx1.obj,hg1]
    refine (xKe z ep heo).b (n:=9) (by simp [mapOpt,xAc z.blksS.stab]) (by simp [solids,AV.solid,z.blksS.solid]) ?_
    simp [o1A]
    exact ⟨hu1.put (by omega) _,by omega,o19⟩
   ·rw [hb2 h0]
    simp
    exact ⟨hu1,by omega,o19,o1A⟩
  ·rintro F S2 ⟨f0,f2,f6,f9,f10,hu2,hn2,o29,o2A⟩
   have hS2:=hS.up (hu0.trans hu2)
   simp
   refine Dra.auto [] mix ?_ ?_
   ·kernel_rfl
   simp [classes,f0,f9,o29,hS2.box]
   refine hC.b (n:=9) (by simp [mapOpt,xAc p.funsS.stab]) (by simp [solids,AV.solid,p.funsS.solid]) ?_
   simp [hLf.len]
   refine W.whileI (fun (k:Nat) F S3=>k<=L.length/\F 0=.ptr ps 0 0/\F 2=.sl 2 o 0 p.unks.length/\F 6=.ptr S.next 0 0/\F 9=.ptr (S.next + 1) 0 0/\F 10=.ptr (S.next + 2) 0 0/\F 73=encF intc 1 L/\F 74=.int .i64 L.length/\F 75=.int .i64 k/\Up S0 S3/\S.next + 3<=S3.next/\S3.obj (S.next + 1)=some (.row 2 [[.int .i64 (f:Int),.int .i64 (b:Int)]])/\S3.obj (S.next + 2)=some (.row 2 [envcS (begXTo p X f b (L.take k))])) (fun k=>L.length - k) ?_ 0 _ _ ?_
   ·rintro k F S3 ⟨hkl,f0,f2,f6,f9,f10,f73,f74,f75,hu3,hn3,o39,o3A⟩
    by_cases hlt:k < L.length
    ·obtain ⟨j,hj⟩:∃ j,L[k]?=some j:=⟨_,xgG hlt⟩
     have e4:=wrapS k (by omega)
     obtain ⟨m,y,rfl,hy⟩:=hpm j (xmG hj)
     have hst:begXTo p X f b (L.take (k + 1))=(begXTo p X f b (L.take k)).join (hereX p X f m y.ins.length):=by
      unfold begXTo
      rw [xAi _ _ _ _ _ hj]
      simp only [Int.toNat_natCast,Prg.cd_of hz hy]
     have hok:=xKd (p:=p) hx.ok f b (L.take k)
     have hH:=xCn (p:=p) hx.ok f m y.ins.length
     generalize begXTo p X f b (L.take k)=ee at *
     have hS3:=hS.up (hu0.trans hu3)
     have hx3:=hx.up (hu0.trans hu3)
     have hps:ps < S.next:=hS.lt
     simp [f74,f75,hlt]
     simp [f73,f75,hLf.idx hj,intc]
     refine Dra.autoR ⟨1,fun q=>if q=ps then S3.obj ps else if q=S.next + 2 then S3.obj (S.next + 2) else none⟩ (fun q z h=>?_) [12] [0,9] mix ?_ ?_
     ·simp only at h
      split at h
      ·rename_i e;subst e;exact h
      ·split at h
       ·rename_i e;subst e;exact h
       ·cases h
     ·kernel_rfl
     simp [classes,f0,f2,f9,f10,o39,o3A,hS3.box,show ¬ S.next + 2=ps by omega]
     refine ⟨y.insV,xGQ (av:=.sl 1 qa 0 p.unks.length) (mv:=.map qm) (by simp) hz hy,?_⟩
     simp [y.insS.len,f2]
     have sub:∀S',Up S3 S'->Sub (⟨1,fun q=>if q=ps then some (.row 3 [[p.funsV,.sl 1 qa 0 p.unks.length,.map qm]]) else if q=S.next + 2 then some (.row 2 [envcS ee]) else none⟩:St) S':=fun S' hh=>xTp (by rw [hh.2 _ (by omega)];exact hS3.box) (by rw [hh.2 _ (by omega)];exact o3A)
     refine ⟨_,_,xFP hp hS3 hx3 hz hy (Nat.le_refl _) ⟨rfl,rfl⟩,sub _ (xBt _ _),?_⟩
     simp
     refine ⟨_,_,(xII ee (hereX p X f m y.ins.length) hok hH).use (n:=9) (by simp [mapOpt]) (by simp [solids,AV.solid]) ⟨rfl,rfl⟩,sub _ (xBt _ _),?_⟩
     have oAg:(S3.grow (3 + y.ins.length)).obj (S.next + 2)=some (.row 2 [envcS ee]):=by rw [(xBt S3 _).2 _ (by omega)];exact o3A
     have o9g:(S3.grow (3 + y.ins.length)).obj (S.next + 1)=some (.row 2 [[.int .i64 (f:Int),.int .i64 (b:Int)]]):=by rw [(xBt S3 _).2 _ (by omega)];exact o39
     have hug:=xBt S3 (3 + y.ins.length)
     generalize S3.grow (3 + y.ins.length)=S4 at *
     simp [f10,oAg]
     refine ⟨trivial,?_⟩
     simp [f0,f2,f6,f9,f10,f73,f74,f75,e4]
     exact ⟨k + 1,by omega,by omega,by omega,(hu3.trans hug).put (by omega) _,by have:=hug.1;omega,by simp [o9g],by rw [hst]⟩
    ·have:k=L.length:=by omega
     subst this
     rw [List.take_length] at o3A
     have o3:S3.obj S.next=some (.row 2 [[.bool false,.nilsl]]):=by rw [hu3.2 _ (by omega)];exact o0
     simp [f74,f75,f6,f10,o3A,o3]
     exact hk _ ((hu0.trans hu3).put (Nat.le_refl _) _)
   ·simp [f0,f2,f6,f9,f10,hB0]
    exact ⟨hu2,hn2,o29,o2A⟩
end Go.Proofs.YtnhfofmhkfdpgaaGreatDoor.Vm
namespace Go.Proofs.YtnhfofmhkfdpgaaGreatDoor.Vm
set_option maxRecDepth 100000
open Go Go.RowKit
variable {N:Nat} {g:Glob}
@[simp] theorem xUp (u:Unk):(unkV u).cells=[unkV u]:=by cases u <;> rfl
structure MkS (S0 S:St) (p:Prg) (l:List Unk) (A:Nat->Option AObj) (av:AV):Prop where
 cell:S.obj (S0.next + 3)=some (.row 1 [[.ptr (S0.next + 2) 0 0]])
 box:S.obj (S0.next + 2)=some (.row 3 [[p.funsV,av,.map (S0.next + 1)]])
 map:S.obj (S0.next + 1)=some (.map (unkE l 0))
 all:Has unkc 1 S av l
 bel:Bel S av
 new:∀q n,av=.sl 1 q 0 n->S0.next + 4<=q
 up:Up S0 S
 nx:S0.next + 4<=S.next
 ex:∀a x,A a=some x->S.obj a=some x/\S0.next + 4<=a/\a < S.next/\∀n,av ≠ .sl 1 a 0 n
theorem xIL {S0 S:St} {p:Prg} {l:List Unk} {A:Nat->Option AObj} {av:AV} {u:Unk} {K:AV->St->Prop} (h:MkS S0 S p l A av) (hu:u ∉ l) (hl:l.length + 1<=room) (hk:∀av' S',MkS S0 S' p (l ++ [u]) A av'->K (.tuple []) S') :
  Cal P (gl N) 76 [unkV u,.ptr (S0.next + 3) 0 0] S K:=by
 refine c76.in (by simp) ?_
 have hput:=xMq (z:=.int .i64 ((l.length:Nat):Int)) 0 hu
 have hsn:=xKg (u:=u) (l:=l) 0
 rw [Nat.zero_add] at hsn
 rw [<- hsn] at hput
 have hc:=h.cell
 have hb:=h.box
 have hm:=h.map
 have hn:=h.nx
 have hlen:lenV av=some l.length:=h.all.len
 simp [k76]
 refine Dra.auto [] mix ?_ ?_
 ·kernel_rfl
 simp [classes,hc,hb,hm,hlen,xDY,-KK.fits,xCR,hput]
 generalize hS1:S.set (S0.next + 1) (.map (unkE (l ++ [u]) 0))=S1
 have n1:S1.next=S.next:=by rw [<- hS1];simp
 have o1:∀q,q ≠ S0.next + 1->S1.obj q=S.obj q:=fun q hq=>by rw [<- hS1];simp [hq]
 have m1:S1.obj (S0.next + 1)=some (.map (unkE (l ++ [u]) 0)):=by rw [<- hS1];simp
 clear hS1
 have hall1:Has unkc 1 S1 av l:=h.all.keep fun q ⟨len,hq⟩=>o1 q (by have:=h.new _ _ hq;omega)
 have hbel1:Bel S1 av:=fun sz q a e=>by rw [n1];exact h.bel sz q a e
 have c1:S1.obj (S0.next + 3)=some (.row 1 [[.ptr (S0.next + 2) 0 0]]):=by rw [o1 _ (by omega)];exact hc
 have b1:S1.obj (S0.next + 2)=some (.row 3 [[p.funsV,av,.map (S0.next + 1)]]):=by rw [o1 _ (by omega)];exact hb
 refine Dra.autoR ⟨1,fun q=>if q=S0.next + 3 then some (.row 1 [[.ptr (S0.next + 2) 0 0]]) else none⟩ (xIK c1) [] [0] mix ?_ ?_
 ·kernel_rfl
 simp [classes,c1,b1]
 refine xA7 (e:=unkc) (x:=u) (hall1.new hbel1) (by cases u <;> rfl) hl fun S' k1 k2 k3=>?_
 simp only [xCL] at k1 k2 k3
 have k4:∀q,q < S.next->(∀len,av ≠ .sl 1 q 0 len)->S'.obj q=S1.obj q:=fun q hq hv=>by
  rw [k3 q (by omega) hv];simp [show ¬ q=S1.next by omega]
 have nav:∀q,q < S0.next + 4->∀len,av ≠ .sl 1 q 0 len:=fun q hq len e=>by have:=h.new _ _ e;omega
 have c2:S'.obj (S0.next + 3)=some (.row 1 [[.ptr (S0.next + 2) 0 0]]):=by rw [k4 _ (by omega) (nav _ (by omega))];exact c1
 have b2:S'.obj (S0.next + 2)=some (.row 3 [[p.funsV,av,.map (S0.next + 1)]]):=by rw [k4 _ (by omega) (nav _ (by omega))];exact b1
 refine ⟨xIK c2,?_⟩
 simp [b2]
 refine ⟨trivial,?_⟩
 simp
 refine hk (.sl 1 (S1.next + 1) 0 (l.length + 1)) _ ⟨by simp [c2],by simp,?_,?_,?_,?_,?_,?_,?_⟩
 ·simp
  rw [k4 _ (by omega) (nav _ (by omega))];exact m1
 ·exact k1.keep fun q ⟨len,hq⟩=>by cases hq;simp [show ¬ S1.next=S0.next + 1 by omega]
 ·exact Bel.sl (by simp;omega)
 ·intro q n e;cases e;omega
 ·refine ⟨by simp;omega,fun q hq=>?_⟩
  simp [show ¬ q=S0.next + 2 by omega]
  rw [k4 q (by omega) (nav q (by omega)),o1 q (by omega)]
  exact h.up.2 q hq
 ·simp;omega
 ·intro a x ha
  obtain ⟨e1,e2,e3,e4⟩:=h.ex a x ha
  refine ⟨?_,e2,by simp;omega,fun n e=>by cases e;omega⟩
  simp [show ¬ a=S0.next + 2 by omega]
  rw [k4 a (by omega) e4,o1 a (by omega)]
  exact e1
theorem MkS.with {S0 S:St} {p:Prg} {l:List Unk} {A:Nat->Option AObj} {av:AV} (h:MkS S0 S p l A av) {S':St} {x:AObj} (hu:Up S S') (ho:S'.obj S.next=some x) (hn:S.next < S'.next):MkS S0 S' p l (fun a=>if a=S.next then some x else none) av :=
 have hnx:=h.nx
 ⟨by rw [hu.2 _ (by omega)];exact h.cell,by rw [hu.2 _ (by omega)];exact h.box,by rw [hu.2 _ (by omega)];exact h.map,h.all.keep fun q ⟨len,hq⟩=>hu.2 q (h.bel _ _ _ hq),h.bel.mono hu.1,h.new,h.up.trans hu,by have:=hu.1;omega,fun a y ha=>by
  split at ha
  ·rename_i e;subst e;cases ha
   exact ⟨ho,hnx,hn,fun n e=>by have:=h.bel _ _ _ e;omega⟩
  ·cases ha⟩
theorem MkS.less {S0 S:St} {p:Prg} {l:List Unk} {A:Nat->Option AObj} {av:AV} (h:MkS S0 S p l A av):MkS S0 S p l (fun _=>none) av :=
 ⟨h.cell,h.box,h.map,h.all,h.bel,h.new,h.up,h.nx,fun a x ha=>by cases ha⟩
theorem xNJ {p:Prg} {f j:Nat} {x:Fun} {u:Unk} (hx:p.funs[f]?=some x) (hu:(x.unks f)[j]?=some u):u ∉ p.unksTo f ++ (x.unks f).take j:=by
 intro hm
 have hfl:=(xgS hx).1
 have hat:p.unks[p.base f + j]?=some u:=Prg.unks_seg hx hu
 have h1:=(Prg.unks_has hat).2
 rcases List.mem_append.1 hm with hm | hm
 ·obtain ⟨k,hk⟩:=List.getElem?_of_mem hm
  have h2:=(Prg.unksTo_has (by omega) hk).2
  have h3:=(xgS hk).1
  unfold Prg.base at h1
  omega
 ·obtain ⟨k,hk⟩:=List.getElem?_of_mem hm
  rw [List.getElem?_take] at hk
  split at hk
  ·have h2:=(Prg.unks_has (Prg.unks_seg hx hk)).2
   omega
  ·cases hk
set_option maxHeartbeats 1000000 in
theorem xHL {S0:St} {p:Prg} {K:AV->St->Prop} (hp:p.OK) (hk:∀ps av qm S',Up S0 S'->SysO S' p ps av qm->S0.next<=ps->S0.next<=qm->(∀q n,av=.sl 1 q 0 n->S0.next<=q)->K (.ptr ps 0 0) S'):Cal P (gl N) 41 [encP p] S0 K:=by
 refine Cal.inF (by kernel_rfl) ?_
 have hfl:=(Prg.sane_iff.1 hp.sane).1
 have hroom:200<=room:=by simp [room]
 have z1:¬ S0.next=S0.next + 1:=by omega
 have z2:¬ S0.next=S0.next + 1 + 1:=by omega
 have z3:¬ S0.next=S0.next + 1 + 1 + 1:=by omega
 have z4:¬ S0.next + 1=S0.next + 1 + 1:=by omega
 have z5:¬ S0.next + 1=S0.next + 1 + 1 + 1:=by omega
 have z6:¬ S0.next + 1 + 1=S0.next + 1 + 1 + 1:=by omega
 conv=>arg 3;reduce
 simp [p.funsS.len,z1,z2,z3,z4,z5,z6]
 refine W.whileI (fun (f:Nat) F S=>f<=p.funs.length/\F 3=.ptr (S0.next + 3) 0 0/\F 4=.func (.func 76) [] [.ptr (S0.next + 3) 0 0]/\F 14=p.funsV/\F 15=.int .i64 p.funs.length/\F 16=.int .i64 f/\∃ av,MkS S0 S p (p.unksTo f) (fun _=>none) av) (fun f=>p.funs.length - f) ?_ 0 _ _ ?_
 ·rintro f F S ⟨hf,f3,f4,f14,f15,f16,av,hM⟩
  by_cases hlt:f < p.funs.length
  ·obtain ⟨x,hx⟩:∃ x,p.funs[f]?=some x:=⟨_,xgG hlt⟩
   have e4:=wrapS f (by omega)
   have hbl:=(hp.fun hx).len.2
   have hul:=Prg.unks_len hp.sane
   have hb1:=Prg.base_succ hx
   have hbt:p.base (f + 1)<=84:=by
    have:(p.unksTo (f + 1)).length<=p.unks.length:=rangeLen _ (by omega)
    unfold Prg.base;omega
   have hfr:=fun j u=>@xNJ p f j x u hx
   have hst:=Prg.unksTo_succ hx
   have hbase:(p.unksTo f).length=p.base f:=rfl
   have hu0:(x.unks f).take 0=[]:=rfl
   have hu1:(x.unks f).take 1=[.par f]:=rfl
   have hu2:(x.unks f).take 2=[.par f,.ans f]:=rfl
   have hub:∀b,b < x.blks.length->(x.unks f)[b + 2]?=some (.blk f b):=fun b hb=>by simp [Fun.unks,hb]
   have hsuc:∀b,b < x.blks.length->(x.unks f).take (b + 3)=(x.unks f).take (b + 2) ++ [.blk f b]:=fun b hb=>xAe (hub b hb)
   simp [f15,f16,hlt]
   simp [f14,f16,p.funsS.idx hx,f4]
   generalize hS1:(S.new (.row 3 [[.int .i64 0,.int .i64 0,.nilsl]])).set S.next (.row 3 [[.int .i64 x.par,.int .i64 x.vars,x.blksV]])=S1
   have hup1:Up S S1:=by rw [<- hS1];exact (Up.new _ _).put (Nat.le_refl _) _
   have o1:S1.obj S.next=some (.row 3 [[.int .i64 x.par,.int .i64 x.vars,x.blksV]]):=by rw [<- hS1];simp
   have n1:S.next < S1.next:=by rw [<- hS1];simp
   clear hS1
   have hM1:=hM.with hup1 o1 n1
   refine xIL hM1 (by have:=hfr 0 (.par f) (by simp [Fun.unks]);simpa [hu0] using this) (by omega) fun av2 S2 hM2=>?_
   simp [f4]
   refine xIL hM2 (by have:=hfr 1 (.ans f) (by simp [Fun.unks]);simpa [hu1] using this) (by simp;omega) fun av3 S3 hM3=>?_
   have o3:=(hM3.ex S.next (.row 3 [[.int .i64 x.par,.int .i64 x.vars,x.blksV]]) (by simp)).1
   simp [o3,x.blksS.len]
   refine W.whileI (fun (b:Nat) F S4=>b<=x.blks.length/\F 3=.ptr (S0.next + 3) 0 0/\F 4=.func (.func 76) [] [.ptr (S0.next + 3) 0 0]/\F 5=.int .i64 f/\F 14=p.funsV/\F 15=.int .i64 p.funs.length/\F 16=.int .i64 f/\F 33=.int .i64 x.blks.length/\F 34=.int .i64 b/\∃ av,MkS S0 S4 p (p.unksTo f ++ (x.unks f).take (b + 2)) (fun _=>none) av) (fun b=>x.blks.length - b) ?_ 0 _ _ ?_
   ·rintro b F S4 ⟨hb,f3,f4,f5,f14,f15,f16,f33,f34,av4,hM4⟩
    by_cases hltb:b < x.blks.length
    ·have e5:=wrapS b (by omega)
     simp [f33,f34,hltb]
     simp [f4,f5,f34]
     refine xIL hM4 (hfr (b + 2) _ (hub b hltb)) (by simp;omega) fun av5 S5 hM5=>?_
     simp [f3,f4,f5,f14,f15,f16,f33,f34,e5]
     exact ⟨b + 1,by omega,by omega,by omega,av5,by rw [hsuc b hltb,<- List.append_assoc];exact hM5⟩
    ·have:b=x.blks.length:=by omega
     subst this
     have hall:(x.unks f).take (x.blks.length + 2)=x.unks f:=List.take_of_length_le (by rw [Fun.unks_len];exact Nat.le_refl _)
     rw [hall,<- hst] at hM4
     simp [f33,f34,f3,f4,f14,f15,f16,e4]
     exact ⟨f + 1,by omega,by omega,by omega,av4,hM4⟩
   ·simp [f3,f4,f14,f15,f16,hu2]
    exact ⟨av3,by simpa using hM3.less⟩
  ·have:f=p.funs.length:=by omega
   subst this
   simp [f15,f16,f3,hM.cell]
   refine hk _ av _ S hM.up ⟨hM.box,hM.map,hM.all,hM.bel,by have:=hM.nx;omega,by have:=hM.nx;omega⟩ (by omega) (by omega) fun q n e=>by have:=hM.new _ _ e;omega
 ·simp
  refine ⟨.nilsl,?_⟩
  refine ⟨by simp,by simp,by simp [unkE,Prg.unksTo],.inl ⟨rfl,rfl⟩,Bel.nil,fun q n e=>(by cases e),?_,by simp,fun a x ha=>by cases ha⟩
  exact ⟨by simp;omega,fun q hq=>by simp [show ¬ q=S0.next by omega,show ¬ q=S0.next + 1 by omega,show ¬ q=S0.next + 2 by omega,show ¬ q=S0.next + 3 by omega]⟩
end Go.Proofs.YtnhfofmhkfdpgaaGreatDoor.Vm
namespace Go.Proofs.YtnhfofmhkfdpgaaGreatDoor.Vm
open Go Go.RowKit
variable {N:Nat} {g:Glob}
def senvEl:El SEnv where
 c1 e:=.bool e.isSome
 c2 e:=match e with
  | none=>.nilsl
  | some l=>.fsl 1 (els intc l)
 o1 e:=rfl
 o2 e:=by cases e <;> rfl
 s1 e:=rfl
 s2 e:=by cases e <;> rfl
 d1 e:=rfl
 d2 e:=by cases e <;> rfl
theorem xFQ (e:SEnv):senvEl.e e=envcS e:=by cases e <;> rfl
theorem xFa (x:List SEnv):els senvEl.e x=els envcS x:=by
 unfold els
 exact List.map_congr_left fun e _=>xFQ e
theorem xXX (G:List (List Int)):GrV (.fsl 1 (els prc G)) G:=by
 refine .inr ⟨G.map (encF intc 1),by simp [els,prc],by simp,fun k w m hw hm=>?_⟩
 rw [List.getElem?_map,hm] at hw
 cases hw
 exact xAl
theorem NewL.val {S0 S:St} {v:AV} {l:List Int} (h:NewL S0 S v l):v.cells=[v]/\v.one=true:=by
 rcases h.has with ⟨rfl,_⟩ | ⟨q,rfl,_,_⟩ <;> exact ⟨rfl,rfl⟩
theorem xV3 {p:Prg} (hp:p.OK) {k:Nat}:(p.rdX k).length < 2 ^ 30/\∀j ∈ p.rdX k,0<=j/\j < (p.unks.length:Int):=by
 have hw:∀f b j,(∃ x y,p.funs[f]?=some x/\x.blks[b]?=some y)->j ∈ p.withinL f b->0<=j/\j < (p.unks.length:Int):=by
  rintro f b j ⟨x,y,hf,hy⟩ hj
  refine ⟨xHK j hj,?_⟩
  rw [Prg.withinL,List.mem_cons] at hj
  rcases hj with rfl | hj
  ·have:=Prg.at_lt (p:=p) (u:=.blk f b) ⟨x,hf,(xgS hy).1⟩
   omega
  ·obtain ⟨i,hi,rfl⟩:=List.mem_map.1 hj
   rw [Prg.cd_of hf hy] at hi
   obtain ⟨hi1,hi2⟩:=List.mem_filter.1 hi
   have:=((hp.blk hf hy).2.1 i hi1 (by simpa using hi2)).2
   have:=Prg.at_lt (p:=p) (u:=.ans i.f.toNat) this
   omega
 unfold Prg.rdX
 cases hu:p.unks[k]? with
 | none=>simp
 | some u =>
  have hh:=(Prg.unks_has hu).1
  cases u with
  | par f =>
   have hlen:(p.callsTo f).length<=1152:=Nat.le_trans (List.length_filter_le _ _) (by have:=(Prg.pos_len hp.sane).1;omega)
   have:=xB9 (h:=fun s:Step=>p.withinL s.1 s.2.1) (B:=17) (p.callsTo f) fun t _=>xAS hp t.1 t.2.1
   refine ⟨by show ((p.callsTo f).flatMap fun s=>p.withinL s.1 s.2.1).length < _;omega,fun j hj=>?_⟩
   obtain ⟨s,hs,h⟩:=List.mem_flatMap.1 hj
   obtain ⟨z,y,h1,h2,_⟩:=Prg.pos_mem.1 (List.mem_filter.1 hs).1
   exact hw _ _ j ⟨z,y,h1,h2⟩ h
  | ans f =>
   obtain ⟨x,hx⟩:∃ x,p.funs[f]?=some x:=⟨_,xgG hh⟩
   have hbl:=(hp.fun hx).len.2
   have e:p.rdU (.ans f)=(List.range x.blks.length).flatMap fun b=>p.withinL f b:=by simp [Prg.rdU,hx]
   show (p.rdU (.ans f)).length < 2 ^ 30/\∀j ∈ p.rdU (.ans f),0<=j/\j < (p.unks.length:Int)
   rw [e]
   have:=xB9 (h:=fun b:Nat=>p.withinL f b) (B:=17) (List.range x.blks.length) fun t _=>xAS hp f t
   refine ⟨by simp at this;simp;omega,fun j hj=>?_⟩
   obtain ⟨b,hb,h⟩:=List.mem_flatMap.1 hj
   obtain ⟨y,hy⟩:∃ y,x.blks[b]?=some y:=⟨_,xgG (by simpa using hb)⟩
   exact hw _ _ j ⟨x,y,hx,hy⟩ h
  | blk f b =>
   obtain ⟨x,hx,hb⟩:=hh
   have hbl:=(hp.fun hx).len.2
   obtain ⟨_,hPN⟩:=Prg.predsN_of hp (f:=f) (b:=b) hx
   have e:p.rdU (.blk f b)=(if b=0 then [((p.at' (.par f):Nat):Int)] else []) ++ (x.preds b).flatMap fun j=>p.withinL f j.toNat:=by simp only [Prg.rdU];rw [hPN]
   show (p.rdU (.blk f b)).length < 2 ^ 30/\∀j ∈ p.rdU (.blk f b),0<=j/\j < (p.unks.length:Int)
   rw [e]
   have h1:=xB9 (h:=fun j:Int=>p.withinL f j.toNat) (B:=17) (x.preds b) fun t _=>xAS hp f t.toNat
   have h2:(x.preds (b:Int)).length<=12:=Nat.le_trans (x.predsTo_len _ _) hbl
   have h3:(if b=0 then [((p.at' (.par f):Nat):Int)] else []).length<=1:=by split <;> simp
   refine ⟨by rw [List.length_append];omega,fun j hj=>?_⟩
   rcases List.mem_append.1 hj with hj | hj
   ·split at hj
    ·rw [List.mem_singleton] at hj;subst hj
     have:=Prg.at_lt (p:=p) (u:=.par f) (xgS hx).1
     omega
    ·cases hj
   ·obtain ⟨i,hi,h⟩:=List.mem_flatMap.1 hj
    obtain ⟨m,y,rfl,hy,_⟩:=Fun.preds_mem.1 hi
    exact hw _ _ j ⟨x,y,hx,hy⟩ h
structure SvI (S S1 S2:St) (p:Prg) (k:Nat):Prop where
 up:Up S S2
 nx:S1.next<=S2.next
 oX:S2.obj S.next=some (.row 2 (List.replicate p.unks.length [.bool false,.nilsl]))
 rows:∃ es:List (List AV),S2.obj (S.next + 1)=some (.row 1 es)/\es.length=p.unks.length/\(∀j,k<=j->j < p.unks.length->es[j]?=some [.nilsl])/\∀j,j < k->∃ v,es[j]?=some [v]/\NewL S1 S2 v (p.rdX j)
 ids:∃ q:List Int,q.length=p.unks.length/\S2.obj (S.next + 2)=some (.row 1 (els intc q))/\∀j,j < k->q[j]?=some (j:Int)
set_option maxHeartbeats 1000000 in
theorem xKk {S:St} {p:Prg} {ps qm:Nat} {av:AV} {K:AV->St->Prop} (hp:p.OK) (hS:SysO S p ps av qm)
  (hk:∀o S',S.next<=o->Up S S'->o < S'.next->S'.obj o=some (.row 2 (els envcS p.ssol))->K (.sl 2 o 0 p.unks.length) S'):Cal P (gl N) 43 [.ptr ps 0 0] S K:=by
 refine c43.in (by simp) ?_
 have hul:=Prg.unks_len hp.sane
 have hroom:p.unks.length<=room:=by simp [room];omega
 have hlen:=hS.all.len
 have hps:=hS.lt
 have e0:∀k,k < 3->¬ ps=S.next + k:=fun k hk=>by omega
 have a0:=e0 0 (by omega)
 have a1:=e0 1 (by omega)
 have a2:=e0 2 (by omega)
 rw [Nat.add_zero] at a0
 simp [k43,hS.box,hlen,hroom,a0,a1,a2]
 generalize hS1:((S.new (.row 2 (List.replicate p.unks.length [.bool false,.nilsl]))).new (.row 1 (List.replicate p.unks.length [.nilsl]))).new (.row 1 (List.replicate p.unks.length [.int .i64 0]))=S1
 have hu1:Up S S1:=by rw [<- hS1];exact ((Up.new _ _).trans (Up.new _ _)).trans (Up.new _ _)
 have n1:S1.next=S.next + 3:=by rw [<- hS1];simp
 have oX:S1.obj S.next=some (.row 2 (List.replicate p.unks.length [.bool false,.nilsl])):=by rw [<- hS1];simp [show ¬ S.next=S.next + 1 + 1 by omega]
 have oR:S1.obj (S.next + 1)=some (.row 1 (List.replicate p.unks.length [.nilsl])):=by rw [<- hS1];simp
 have oE:S1.obj (S.next + 2)=some (.row 1 (List.replicate p.unks.length [.int .i64 0])):=by rw [<- hS1];simp
 clear hS1
 refine W.whileI (fun (k:Nat) F S2=>k<=p.unks.length/\F 0=.ptr ps 0 0/\F 3=.sl 2 S.next 0 p.unks.length/\F 4=.sl 1 (S.next + 1) 0 p.unks.length/\F 5=.sl 1 (S.next + 2) 0 p.unks.length/\F 29=av/\F 30=.int .i64 p.unks.length/\F 31=.int .i64 k/\SvI S S1 S2 p k) (fun k=>p.unks.length - k) ?_ 0 _ _ ?_
 ·rintro k F S2 ⟨hkl,f0,f3,f4,f5,f29,f30,f31,hu,hn2,oX,⟨es,oR,hes,hen,hev⟩,q,hq,oE,hqv⟩
  by_cases hlt:k < p.unks.length
  ·obtain ⟨u,hgu⟩:∃ u,p.unks[k]?=some u:=⟨_,xgG hlt⟩
   obtain ⟨hhas,hat⟩:=Prg.unks_has hgu
   have e4:=wrapS k (by omega)
   have hS2:=hS.up hu
   obtain ⟨qa,hqa,hqo,hix⟩:=hS2.all.idx hgu
   have hrd:p.rdX k=p.rdU u:=by unfold Prg.rdX;rw [hgu]
   have hek:=hen k (Nat.le_refl _) hlt
   have hqk:∃ e,q[k]?=some e:=⟨_,xgG (by omega)⟩
   simp [f30,f31,hlt]
   simp [f29,f31,hix,hqo,hgu,f0,f4,f5]
   refine xPW hp hS2 hhas fun v S3 hu3 hN=>?_
   obtain ⟨hvc,hvo⟩:=hN.val
   have hnx:=hu3.1
   have oR3:S3.obj (S.next + 1)=some (.row 1 es):=by rw [hu3.2 _ (by omega)];exact oR
   have oE3:S3.obj (S.next + 2)=some (.row 1 (els intc q)):=by rw [hu3.2 _ (by omega)];exact oE
   have oX3:S3.obj S.next=some (.row 2 (List.replicate p.unks.length [.bool false,.nilsl])):=by rw [hu3.2 _ (by omega)];exact oX
   obtain ⟨qk,hqk⟩:=hqk
   simp [hek,hvc,hvo,xAd hlt,oR3,oE3,hqk,intc]
   generalize hS4:(S3.set (S.next + 1) (.row 1 (es.set k [v]))).set (S.next + 2) (.row 1 ((els intc q).set k [.int .i64 (k:Int)]))=S4
   have n4:S4.next=S3.next:=by rw [<- hS4];simp
   have q4:∀r,r ≠ S.next + 1->r ≠ S.next + 2->S4.obj r=S3.obj r:=fun r h1 h2=>by rw [<- hS4];simp [h1,h2]
   have oR4:S4.obj (S.next + 1)=some (.row 1 (es.set k [v])):=by rw [<- hS4];simp
   have oE4:S4.obj (S.next + 2)=some (.row 1 (els intc (q.set k (k:Int)))):=by rw [<- hS4];simp [<- xAg,intc]
   clear hS4
   have keepN:∀{w l},NewL S1 S3 w l->NewL S1 S4 w l:=fun {w l} h=>⟨h.has.keep fun r ⟨len,hr⟩=>q4 r (by have:=h.new _ _ hr;omega) (by have:=h.new _ _ hr;omega),fun sz r c hr=>by rw [n4];exact h.bel sz r c hr,h.new⟩
   simp [f0,f3,f4,f5,f29,f30,f31,e4]
   refine ⟨k + 1,by omega,by omega,by omega,⟨⟨by rw [n4];exact Nat.le_trans hu.1 hnx,fun r hr=>?_⟩,by omega,?_,⟨es.set k [v],oR4,by simp [hes],fun j hj hjl=>?_,fun j hj=>?_⟩,q.set k (k:Int),by simp [hq],oE4,fun j hj=>?_⟩⟩
   ·rw [q4 r (by omega) (by omega),hu3.2 r (by have:=hu.1;omega)];exact hu.2 r hr
   ·rw [q4 _ (by omega) (by omega)];exact oX3
   ·rw [List.getElem?_set_ne (by omega)];exact hen j (by omega) hjl
   ·by_cases hjk:j=k
    ·subst hjk
     exact ⟨v,List.getElem?_set_self (by omega),by rw [hrd];exact keepN (hN.older hn2)⟩
    ·obtain ⟨w,h1,h2⟩:=hev j (by omega)
     exact ⟨w,by rw [List.getElem?_set_ne (Ne.symm hjk)];exact h1,keepN (h2.keep hu3)⟩
   ·by_cases hjk:j=k
    ·subst hjk
     exact List.getElem?_set_self (by omega)
    ·rw [List.getElem?_set_ne (Ne.symm hjk)];exact hqv j (by omega)
  ·have:k=p.unks.length:=by omega
   subst this
   have hG:((List.range p.unks.length).map p.rdX).length=p.unks.length:=by simp
   have hGk:∀(k:Nat) (m:List Int),((List.range p.unks.length).map p.rdX)[k]?=some m->p.rdX k=m/\k < p.unks.length:=fun k m hm=>by
    rw [List.getElem?_map] at hm
    by_cases hk:k < p.unks.length
    ·rw [List.getElem?_range hk] at hm;exact ⟨Option.some.inj hm,hk⟩
    ·rw [List.getElem?_eq_none (by simpa using hk)] at hm;cases hm
   have hpict:Vm.pict S2 [] 9 (.sl 1 (S.next + 1) 0 p.unks.length)=some (.fsl 1 (els prc ((List.range p.unks.length).map p.rdX))):=by
    refine xAr oR hes (by simp) fun k e he=>?_
    have hk:k < p.unks.length:=by have:=(xgS he).1;omega
    obtain ⟨v,h1,h2⟩:=hev k hk
    rw [h1] at he;cases he
    have:=h2.has.pict (n:=6)
    simp [mapOpt,this,els,prc,hk]
   simp [f30,f31,f0,f3,f4,f5]
   refine xFv (Y:=p.ssys) (E:=senvEl) (G:=(List.range p.unks.length).map p.rdX) (z:=.bool false) c80 (by show p.unks.length<=100;omega) rfl hpict (xXX _) (by rw [hG];rfl) ?_ (fun k m hm=>(hGk k m hm).1) ?_ (by rw [xFa,oX];exact congrArg some (congrArg (AObj.row 2) (xAh (e:=envcS) (n:=p.unks.length) (x:=none)))) (by omega) rfl ?_ ?_
   ·intro m hm
    simp only [List.mem_map,List.mem_range] at hm
    obtain ⟨k,hk,rfl⟩:=hm
    exact xV3 hp
   ·refine ⟨fun S3 x k K' hx hk hn3 hr hkeep hK'=>?_,fun a b ha hb=>⟨decide (a=b),by simp,?_⟩⟩
    ·rw [xFa] at hr
     have hk':k < p.unks.length:=hk
     obtain ⟨u,hgu⟩:∃ u,p.unks[k]?=some u:=⟨_,xgG hk'⟩
     obtain ⟨hhas,hat⟩:=Prg.unks_has hgu
     have hS2:=hS.up hu
     have hS3:SysO S3 p ps av qm:=by
      have hq:∀q,q < S.next->S3.obj q=S2.obj q:=fun q hq=>hkeep q (by have:=hu.1;omega) (by omega)
      exact ⟨by rw [hq _ hS.lt];exact hS2.box,by rw [hq _ hS.lm];exact hS2.map,hS2.all.keep fun q ⟨len,he⟩=>hq q (hS.bel _ _ _ he),fun sz q c he=>Nat.lt_of_lt_of_le (hS2.bel sz q c he) hn3,Nat.lt_of_lt_of_le hS2.lt hn3,Nat.lt_of_lt_of_le hS2.lm hn3⟩
     have hxr:XRow S3 S.next p x:=⟨hr,by omega,hx.len,xPT hx.ok⟩
     have hev':p.ssys.ev x k=evU p x u:=by show evX p x k=_;unfold evX;rw [hgu]
     simp
     rw [<- hat]
     refine xRD hp hS3 hxr hhas fun S4 hu4=>?_
     have:=hK' S4 hu4
     rw [xFQ,hev'] at this
     exact this
    ·rw [xFQ,xFQ]
     exact xNE a b ha
   ·intro S3 hu3 a ha
    have ha':a < p.unks.length:=ha
    refine ⟨.ptr (S.next + 2) a 0,by rw [xAd ha',Nat.zero_add],?_⟩
    have:=hqv a ha'
    simp [hu3.2 (S.next + 2) (by omega),oE,this,intc]
   ·intro S3 hr hn3 hkeep
    rw [xFa] at hr
    simp [f3]
    refine hk S.next S3 (Nat.le_refl _) ⟨by have:=hu.1;omega,fun q hq=>?_⟩ (by omega) hr
    rw [hkeep q (by have:=hu.1;omega) (by omega)];exact hu.2 q hq
 ·simp
  refine ⟨hu1,Nat.le_refl _,oX,⟨_,oR,by simp,fun j hj hjl=>by simp [hjl],fun j hj=>by omega⟩,List.replicate p.unks.length 0,by simp,by rw [oE];simp [els,intc],fun j hj=>by omega⟩
section
variable {α:Type} {e:α->List AV} {sz:Nat}
structure RowsG (e:α->List AV) (sz B:Nat) (S:St) (oo:Nat) (es:List (List AV)) (L:List (List α)):Prop where
 lt:oo < B
 le:B<=S.next
 obj:S.obj oo=some (.row 1 es)
 len:es.length=L.length
 row:∀(k:Nat) (l:List α),L[k]?=some l->∃ v,es[k]?=some [v]/\Has e sz S v l/\∀o n,v=.sl sz o 0 n->B<=o/\o < S.next
 inj:∀(j k o a b:Nat),es[j]?=some [.sl sz o 0 a]->es[k]?=some [.sl sz o 0 b]->j=k
theorem RowsG.other {B:Nat} {S S':St} {oo:Nat} {es:List (List AV)} {L:List (List α)} (h:RowsG e sz B S oo es L) (hn:S.next<=S'.next) (ho:S'.obj oo=S.obj oo) (hq:∀q,B<=q->q < S.next->S'.obj q=S.obj q):RowsG e sz B S' oo es L:=by
 refine ⟨h.lt,Nat.le_trans h.le hn,by rw [ho];exact h.obj,h.len,fun k l hl=>?_,h.inj⟩
 obtain ⟨v,hv,hc,hb⟩:=h.row k l hl
 exact ⟨v,hv,hc.keep fun q ⟨n,hqn⟩=>hq q (hb _ _ hqn).1 (hb _ _ hqn).2,fun o n ho=>⟨(hb o n ho).1,Nat.lt_of_lt_of_le (hb o n ho).2 hn⟩⟩
theorem RowsG.up {B:Nat} {S S':St} {oo:Nat} {es:List (List AV)} {L:List (List α)} (h:RowsG e sz B S oo es L) (hu:Up S S'):RowsG e sz B S' oo es L :=
 h.other hu.1 (hu.2 _ (Nat.lt_of_lt_of_le h.lt h.le)) fun q _ hq=>hu.2 q hq
theorem RowsG.idx {B:Nat} {S:St} {oo:Nat} {es:List (List AV)} {L:List (List α)} (h:RowsG e sz B S oo es L) {k:Nat} {l:List α} (hl:L[k]?=some l):∃ v,es[k]?=some [v]/\v.one=true/\v.cells=[v]:=by
 obtain ⟨v,hv,hc,_⟩:=h.row k l hl
 refine ⟨v,hv,?_⟩
 rcases hc with ⟨rfl,_⟩ | ⟨o,rfl,_⟩ <;> exact ⟨rfl,rfl⟩
theorem RowsG.app {B:Nat} {S:St} {oo:Nat} {es:List (List AV)} {L:List (List α)} {b:Nat} {v:AV} {l:List α} {a:α} {K:AV × St->Prop} (h:RowsG e sz B S oo es L) (hv:es[b]?=some [v]) (hl:L[b]?=some l) (hok:okEl sz (e a)=true) (hr:l.length + 1<=room)
  (hk:∀S',S'.next=S.next + 1->(∀q,q < B->S'.obj q=S.obj q)->RowsG e sz B (S'.set oo (.row 1 (es.set b [.sl sz S.next 0 (l.length + 1)]))) oo (es.set b [.sl sz S.next 0 (l.length + 1)]) (L.set b (l ++ [a]))->K (.sl sz S.next 0 (l.length + 1),S')):Ok (appV sz v S [e a]) K:=by
 have hoo:=h.lt
 have hle:=h.le
 have hblt:b < es.length:=(xgS hv).1
 have old:∀(k o c:Nat),es[k]?=some [.sl sz o 0 c]->B<=o/\o < S.next:=by
  intro k o c hk
  obtain ⟨m,hm⟩:∃ m,L[k]?=some m:=⟨_,xgG (by rw [<- h.len];exact (xgS hk).1)⟩
  obtain ⟨u,hu,_,hc⟩:=h.row k m hm
  rw [hk] at hu;cases hu
  exact hc _ _ rfl
 obtain ⟨v1,hv1,hH,hb⟩:=h.row b l hl
 rw [hv] at hv1;cases hv1
 refine xOs hH hok hr fun S' hnew hn hold=>?_
 have hS'q:S'.obj S.next=some (.row sz (els e (l ++ [a]))):=by
  rcases hnew with ⟨h1,_⟩ | ⟨o,h1,h2,_⟩
  ·cases h1
  ·injection h1 with _ h1 _ _;subst h1;exact h2
 refine hk S' hn (fun q hq=>hold q (by omega) fun c e=>?_) ⟨hoo,by simp;omega,by simp,by simp [h.len],?_,?_⟩
 ·have:=hb _ _ e
  omega
 ·intro k m hm
  by_cases hk:k=b
  ·subst hk
   rw [List.getElem?_set_self (by rw [<- h.len];exact hblt)] at hm
   cases hm
   refine ⟨_,by rw [List.getElem?_set_self hblt],.inr ⟨S.next,by simp,?_,by simp⟩,fun o n e=>?_⟩
   ·simp [show ¬ S.next=oo by omega,hS'q]
   ·cases e;simp;omega
  ·rw [List.getElem?_set_ne (Ne.symm hk)] at hm
   obtain ⟨u,hu,hc,hub⟩:=h.row k m hm
   refine ⟨u,by rw [List.getElem?_set_ne (Ne.symm hk)];exact hu,hc.keep fun q ⟨n,hqn⟩=>?_,fun o n e=>?_⟩
   ·have h1:=hub _ _ hqn
    rw [show (S'.set oo (.row 1 (es.set b [.sl sz S.next 0 (l.length + 1)]))).obj q=S'.obj q by simp [show ¬ q=oo by omega]]
    refine hold q (by omega) fun c e=>hk ?_
    subst e;subst hqn
    exact h.inj k b q _ _ hu hv
   ·have h1:=hub _ _ e
    simp;omega
 ·intro j k o c d hj hk
  by_cases hjb:j=b
  ·by_cases hkb:k=b
   ·rw [hjb,hkb]
   ·rw [hjb,List.getElem?_set_self hblt] at hj
    rw [List.getElem?_set_ne (Ne.symm hkb)] at hk
    cases hj
    have:=old k _ _ hk
    omega
  ·rw [List.getElem?_set_ne (Ne.symm hjb)] at hj
   by_cases hkb:k=b
   ·rw [hkb,List.getElem?_set_self hblt] at hk
    cases hk
    have:=old j _ _ hj
    omega
   ·rw [List.getElem?_set_ne (Ne.symm hkb)] at hk
    exact h.inj j k o c d hj hk
theorem RowsG.start {S:St} {o B n:Nat} (ho:S.obj o=some (.row 1 (List.replicate n [.nilsl]))) (h1:o < B) (h2:B<=S.next):RowsG e sz B S o (List.replicate n [.nilsl]) (List.replicate n []):=by
 refine ⟨h1,h2,ho,by simp,fun k l hl=>⟨.nilsl,?_,.inl ⟨rfl,(List.mem_replicate.1 (xmG hl)).2⟩,fun o n e=>(by cases e)⟩,fun j k o a b hj=>?_⟩
 ·have:=(xgS hl).1
  simp at this
  rw [List.getElem?_replicate,if_pos this]
 ·have:=(List.mem_replicate.1 (xmG hj)).2
  simp at this
theorem Has.pictE (hp:∀(S:St) (n:Nat) (x:α),mapOpt (Vm.pict S [] (n + 1)) (e x)=some (e x)) {S:St} {v:AV} {l:List α} {n:Nat} (h:Has e sz S v l):Vm.pict S [] (n + 2) v=some (encF e sz l):=by
 rcases h with ⟨rfl,rfl⟩ | ⟨o,rfl,ho,hne⟩
 ·simp [encF]
 ·rw [xAr (ys:=els e l) ho (by simp) (by simp) fun k x hx=>?_]
  ·simp [encF,hne]
  ·rw [hx]
   obtain ⟨y,rfl⟩:∃ y,x=e y:=by
    have:=xmG hx
    simp only [els,List.mem_map] at this
    obtain ⟨y,_,rfl⟩:=this
    exact ⟨y,rfl⟩
   exact hp S n y
theorem RowsG.pict (hp:∀(S:St) (n:Nat) (x:α),mapOpt (Vm.pict S [] (n + 1)) (e x)=some (e x)) {B:Nat} {S:St} {oo:Nat} {es:List (List AV)} {L:List (List α)} {m n:Nat} (h:RowsG e sz B S oo es L) (hn:L.length=n):Vm.pict S [] (m + 3) (.sl 1 oo 0 n)=some (.fsl 1 (els (fun l=>[encF e sz l]) L)):=by
 subst hn
 refine xAr h.obj h.len (by simp) fun k e' he=>?_
 have hlt:=(xgS he).1
 obtain ⟨l,hl⟩:∃ l,L[k]?=some l:=⟨_,xgG (by rw [<- h.len];exact hlt)⟩
 obtain ⟨v,hv,hc,_⟩:=h.row k l hl
 rw [hv] at he;cases he
 simp [mapOpt,hc.pictE hp (n:=m),els,hl]
end
def mapIf {α:Type} (n:Nat) (at':Nat->Nat) (v:Nat->α) (d:α) (k:Nat):List α:=(List.range n).map fun f=>if at' f < k then v f else d
theorem xCF {α:Type} {n:Nat} {at':Nat->Nat} {v:Nat->α} {d:α} {k:Nat}:(mapIf n at' v d k).length=n:=by simp [mapIf]
theorem xDx {α:Type} {n:Nat} {at':Nat->Nat} {v:Nat->α} {d:α} {k:Nat} (h:∀f,f < n->at' f ≠ k):mapIf n at' v d (k + 1)=mapIf n at' v d k:=by
 refine List.map_congr_left fun f hf=>?_
 have:=h f (List.mem_range.1 hf)
 by_cases hk:at' f < k
 ·rw [if_pos (by omega),if_pos hk]
 ·rw [if_neg (by omega),if_neg hk]
theorem xKl {α:Type} {n:Nat} {at':Nat->Nat} {v:Nat->α} {d:α} {k f:Nat} (hf:f < n) (hk:at' f=k) (h:∀j,j < n->j ≠ f->at' j ≠ k):(mapIf n at' v d k).set f (v f)=mapIf n at' v d (k + 1):=by
 refine List.ext_getElem? fun j=>?_
 by_cases hj:j=f
 ·subst hj
  rw [List.getElem?_set_self (by rw [xCF];exact hf)]
  simp [mapIf,hf,hk]
 ·rw [List.getElem?_set_ne (Ne.symm hj)]
  by_cases hjn:j < n
  ·have:=h j hjn hj
   simp only [mapIf,List.getElem?_map,List.getElem?_range hjn,Option.map_some,xoI]
   by_cases hlt:at' j < k
   ·rw [if_pos hlt,if_pos (show at' j < k + 1 by omega)]
   ·rw [if_neg hlt,if_neg (show ¬ at' j < k + 1 by omega)]
  ·rw [List.getElem?_eq_none (by rw [xCF];omega),List.getElem?_eq_none (by rw [xCF];omega)]
theorem xHM {α:Type} {n:Nat} {at':Nat->Nat} {v:Nat->α} {d:α}:mapIf n at' v d 0=List.replicate n d:=by
 refine List.ext_getElem? fun j=>?_
 by_cases hjn:j < n
 ·simp [mapIf,hjn]
 ·rw [List.getElem?_eq_none (by rw [xCF];omega),List.getElem?_eq_none (by simp;omega)]
theorem xKm {α:Type} {n:Nat} {at':Nat->Nat} {v:Nat->α} {d:α} {k:Nat} (h:∀f,f < n->at' f < k):mapIf n at' v d k=(List.range n).map v :=
 List.map_congr_left fun f hf=>by rw [if_pos (h f (List.mem_range.1 hf))]
def Prg.nb (p:Prg) (f:Nat):Nat:=match p.funs[f]? with
 | some x=>x.blks.length
 | none=>0
theorem Prg.nb_of {p:Prg} {f:Nat} {x:Fun} (h:p.funs[f]?=some x):p.nb f=x.blks.length:=by simp [Prg.nb,h]
noncomputable def Prg.insRow (p:Prg) (f m:Nat):List SEnv:=(List.range m).map fun b=>p.sAt (.blk f b)
noncomputable def Prg.insTo (p:Prg) (k:Nat):List (List SEnv):=(List.range p.funs.length).map fun f=>p.insRow f (min (p.nb f) (k - (p.base f + 2)))
noncomputable def Prg.parTo (p:Prg) (k:Nat):List SEnv:=mapIf p.funs.length (fun f=>p.at' (.par f)) (fun f=>p.sAt (.par f)) none k
noncomputable def Prg.ansTo (p:Prg) (k:Nat):List Int:=mapIf p.funs.length (fun f=>p.at' (.ans f)) (fun f=>(p.sAt (.ans f)).get 0) 0 k
noncomputable def Prg.insS (p:Prg):List (List SEnv):=(List.range p.funs.length).map fun f=>p.insRow f (p.nb f)
noncomputable def Prg.parS (p:Prg):List SEnv:=(List.range p.funs.length).map fun f=>p.sAt (.par f)
noncomputable def Prg.ansS (p:Prg):List Int:=(List.range p.funs.length).map fun f=>(p.sAt (.ans f)).get 0
theorem Prg.insTo_len {p:Prg} {k:Nat}:(p.insTo k).length=p.funs.length:=by simp [Prg.insTo]
theorem Prg.insTo_get {p:Prg} {k f:Nat} (h:f < p.funs.length):(p.insTo k)[f]?=some (p.insRow f (min (p.nb f) (k - (p.base f + 2)))):=by simp [Prg.insTo,h]
theorem Prg.has_blk {p:Prg} {f b:Nat}:p.has (.blk f b) ↔ f < p.funs.length/\b < p.nb f:=by
 constructor
 ·rintro ⟨x,hx,hb⟩
  exact ⟨(xgS hx).1,by rw [Prg.nb_of hx];exact hb⟩
 ·rintro ⟨h1,h2⟩
  obtain ⟨x,hx⟩:∃ x,p.funs[f]?=some x:=⟨_,xgG h1⟩
  exact ⟨x,hx,by rw [<- Prg.nb_of hx];exact h2⟩
theorem xPX {p:Prg} {k f:Nat} (hf:f < p.funs.length) (h:∀b,p.has (.blk f b)->p.at' (.blk f b) ≠ k):min (p.nb f) (k + 1 - (p.base f + 2))=min (p.nb f) (k - (p.base f + 2)):=by
 by_cases h1:p.base f + 2<=k/\k < p.base f + 2 + p.nb f
 ·exact absurd (by simp only [Prg.at'];omega) (h (k - (p.base f + 2)) (Prg.has_blk.2 ⟨hf,by omega⟩))
 ·omega
theorem Prg.insTo_same {p:Prg} {k:Nat} (h:∀f b,p.has (.blk f b)->p.at' (.blk f b) ≠ k):p.insTo (k + 1)=p.insTo k :=
 List.map_congr_left fun f hf=>by rw [xPX (List.mem_range.1 hf) (h f)]
theorem Prg.insTo_put {p:Prg} {k f b:Nat} (hu:p.has (.blk f b)) (hk:p.at' (.blk f b)=k):(p.insTo k)[f]?=some (p.insRow f b)/\(p.insTo k).set f (p.insRow f b ++ [p.sAt (.blk f b)])=p.insTo (k + 1):=by
 obtain ⟨hf,hb⟩:=Prg.has_blk.1 hu
 have e1:min (p.nb f) (k - (p.base f + 2))=b:=by simp only [Prg.at'] at hk;omega
 have e2:min (p.nb f) (k + 1 - (p.base f + 2))=b + 1:=by simp only [Prg.at'] at hk;omega
 refine ⟨by rw [Prg.insTo_get hf,e1],List.ext_getElem? fun j=>?_⟩
 by_cases hj:j=f
 ·subst hj
  rw [List.getElem?_set_self (by rw [Prg.insTo_len];exact hf),Prg.insTo_get hf,e2]
  simp [Prg.insRow,List.range_succ]
 ·rw [List.getElem?_set_ne (Ne.symm hj)]
  by_cases hjn:j < p.funs.length
  ·rw [Prg.insTo_get hjn,Prg.insTo_get hjn,xPX hjn fun b' hh he=>hj ?_]
   have:=Prg.at_inj hh hu (by rw [he,hk])
   cases this;rfl
  ·rw [List.getElem?_eq_none (by rw [Prg.insTo_len];omega),List.getElem?_eq_none (by rw [Prg.insTo_len];omega)]
theorem Prg.insTo_zero {p:Prg}:p.insTo 0=List.replicate p.funs.length []:=by
 refine List.ext_getElem? fun j=>?_
 by_cases hj:j < p.funs.length
 ·rw [Prg.insTo_get hj]
  simp [Prg.insRow,hj]
 ·rw [List.getElem?_eq_none (by rw [Prg.insTo_len];omega),List.getElem?_eq_none (by simp;omega)]
theorem Prg.insTo_all {p:Prg}:p.insTo p.unks.length=p.insS:=by
 refine List.map_congr_left fun f hf=>?_
 rw [List.mem_range] at hf
 rw [show min (p.nb f) (p.unks.length - (p.base f + 2))=p.nb f by
  by_cases h0:p.nb f=0
  ·omega
  ·have:=Prg.at_lt (p:=p) (u:=.blk f (p.nb f - 1)) (Prg.has_blk.2 ⟨hf,by omega⟩)
   simp only [Prg.at'] at this
   omega]
theorem Prg.parTo_all {p:Prg}:p.parTo p.unks.length=p.parS:=xKm fun f hf=>Prg.at_lt (p:=p) (u:=.par f) hf
theorem Prg.ansTo_all {p:Prg}:p.ansTo p.unks.length=p.ansS:=xKm fun f hf=>Prg.at_lt (p:=p) (u:=.ans f) hf
theorem Prg.tab_par {p:Prg} {f:Nat} (hu:p.has (.par f)):(p.parTo (p.at' (.par f))).set f (p.sAt (.par f))=p.parTo (p.at' (.par f) + 1)/\p.ansTo (p.at' (.par f) + 1)=p.ansTo (p.at' (.par f))/\p.insTo (p.at' (.par f) + 1)=p.insTo (p.at' (.par f)) :=
 ⟨xKl hu rfl fun j hj hne he=>hne (by cases Prg.at_inj (u:=.par j) (v:=.par f) hj hu he;rfl),xDx fun j hj he=>(by cases Prg.at_inj (u:=.ans j) (v:=.par f) hj hu he),Prg.insTo_same fun f' b' hh he=>(by cases Prg.at_inj hh hu he)⟩
theorem Prg.tab_ans {p:Prg} {f:Nat} (hu:p.has (.ans f)):(p.ansTo (p.at' (.ans f))).set f ((p.sAt (.ans f)).get 0)=p.ansTo (p.at' (.ans f) + 1)/\p.parTo (p.at' (.ans f) + 1)=p.parTo (p.at' (.ans f))/\p.insTo (p.at' (.ans f) + 1)=p.insTo (p.at' (.ans f)) :=
 ⟨xKl hu rfl fun j hj hne he=>hne (by cases Prg.at_inj (u:=.ans j) (v:=.ans f) hj hu he;rfl),xDx fun j hj he=>(by cases Prg.at_inj (u:=.par j) (v:=.ans f) hj hu he),Prg.insTo_same fun f' b' hh he=>(by cases Prg.at_inj hh hu he)⟩
theorem Prg.tab_blk {p:Prg} {f b:Nat} (hu:p.has (.blk f b)):p.parTo (p.at' (.blk f b) + 1)=p.parTo (p.at' (.blk f b))/\p.ansTo (p.at' (.blk f b) + 1)=p.ansTo (p.at' (.blk f b)) :=
 ⟨xDx fun j hj he=>(by cases Prg.at_inj (u:=.par j) (v:=.blk f b) hj hu he),xDx fun j hj he=>(by cases Prg.at_inj (u:=.ans j) (v:=.blk f b) hj hu he)⟩
noncomputable def solveE (p:Prg):AV:=.agg [.fsl 1 (els (fun l=>[encF envcS 2 l]) p.insS),.fsl 2 (els envcS p.parS),.fsl 1 (els intc p.ansS)]
end Go.Proofs.YtnhfofmhkfdpgaaGreatDoor.Vm
