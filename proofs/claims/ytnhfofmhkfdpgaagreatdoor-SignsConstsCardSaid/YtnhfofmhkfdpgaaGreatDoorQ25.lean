/- A part of the proof: Rh Ri Rl Ro Rq Rm Rr Rs Rv Rt Oa. -/
import Derived.Test.YtnhfofmhkfdpgaaGreatDoorQ24
set_option linter.unusedVariables false
set_option linter.unusedSimpArgs false
set_option linter.constructorNameAsVariable false
namespace Go.Proofs.YtnhfofmhkfdpgaaGreatDoor.Vm
open Go Go.RowKit
variable {N:Nat} {g:Glob}
def prc (m:List Int):List AV:=[encF intc 1 m]
structure CFun (S:St) (p:Nat) (f:Fun) (prV:AV):Prop where
 box:S.obj p=some (.row 4 [[.int .i64 f.par,.int .i64 f.vars,f.blksV,prV]])
 pre:Has prc 1 S prV ((List.range f.blks.length).map fun i:Nat=>f.preds i)
 lt:p < S.next
theorem xI9 {S:St} {p o i:Nat} {f:Fun} {prV:AV} {x:List Env} {K:AV→St→Prop} (hf:f.Small) (hS:CFun S p f prV) (hb:Bel S prV) (hi:i < f.blks.length) (hx:S.obj o=some (.row 2 (els envc x))) (ho:o < S.next) (hxl:x.length=f.blks.length) (hxo:∀e ∈ x,Env.fit f.wid e)
  (hk:∀S',Up S S'→K (.agg (envc (f.cev x i))) S'):Cal P (gl N) 101 [.ptr p 0 0,.int .i64 (i:Int),.sl 2 o 0 f.blks.length] S K:=by
 refine c101.in (by simp) ?_
 have hwl:=f.wid_lt
 have hbox:=hS.box
 have hlt:=hS.lt
 have hbl:=hf.blks
 obtain ⟨r,hr1,hr2,hr3⟩:=hS.pre.idx (k:=i) (x:=f.preds i) (by simp [hi])
 have hrl:r < S.next:=hb _ _ _ hr1
 have hpf:FSl intc 1 (encF intc 1 (f.preds i)) (f.preds i):=xAt
 have hpm:∀j ∈ f.preds i,∃ k:Nat,j=(k:Int)∧k < f.blks.length:=fun j hj=>by
  obtain ⟨k,y,h1,h2,_⟩:=Fun.preds_mem.1 hj
  exact ⟨k,h1,(xgS h2).1⟩
 have hpl:(f.preds i).length≤f.blks.length:=f.predsTo_len _ _
 have hgr:((List.range f.blks.length).map fun i:Nat=>f.preds i)[i]?=some (f.preds i):=by simp [hi]
 generalize hm:f.preds i=m at *
 simp [k101,hbox,show ¬ p=S.next by omega,show ¬ p=S.next + 1 by omega]
 refine xAj (fun h0=>?_) (fun h0=>?_)
 all_goals simp [hbox,show ¬ p=S.next by omega,show ¬ p=S.next + 1 by omega]
 all_goals try
  refine (xI4 f).use (n:=9) (by simp [mapOpt,xAc f.blksS.stab]) (by simp [solids,AV.solid,f.blksS.solid]) ?_
  simp [hbox,show ¬ p=S.next by omega,show ¬ p=S.next + 1 by omega]
 all_goals
  simp [hr3,hr2,hgr,prc,show ¬ r=S.next by omega,show ¬ r=S.next + 1 by omega,hpf.len]
  refine W.whileI (fun (a:Nat) F S2=>a≤m.length∧F 0=.ptr p 0 0∧F 2=.sl 2 o 0 f.blks.length∧F 6=.ptr S.next 0 0∧F 7=.ptr (S.next + 1) 0 0∧F 24=encF intc 1 m∧F 25=.int .i64 m.length∧F 26=.int .i64 a∧Up S S2∧S.next + 2≤S2.next ∧
   S2.obj S.next=some (.row 2 [[.bool false,.nilsl]])∧S2.obj (S.next + 1)=some (.row 2 [envc (f.cevTo x i (m.take a))])) (fun a=>m.length - a) ?_ 0 _ _ ?_
  ·rintro a F S2 ⟨ha,f0,f2,f6,f7,f24,f25,f26,hup,hn2,s6,s7⟩
   by_cases hlt2:a < m.length
   ·have e4:=wrapS a (by omega)
    obtain ⟨j,hj⟩:∃ j,m[a]?=some j:=⟨_,xgG hlt2⟩
    obtain ⟨jn,rfl,hjn⟩:=hpm j (xmG hj)
    obtain ⟨ej,hej⟩:∃ e,x[jn]?=some e:=⟨_,xgG (by omega)⟩
    obtain ⟨y,hy⟩:∃ y,f.blks[jn]?=some y:=⟨_,xgG hjn⟩
    have hst:f.cevTo x i (m.take (a + 1))=(f.cevTo x i (m.take a)).join (pastL ej y.ins):=by
     unfold Fun.cevTo
     rw [xAi _ _ _ _ _ hj]
     simp [yAA,hej,Fun.code,hy]
    have hb2:S2.obj p=some (.row 4 [[.int .i64 f.par,.int .i64 f.vars,f.blksV,prV]]):=by rw [hup.2 p hlt];exact hbox
    have hx2:S2.obj o=some (.row 2 (els envc x)):=by rw [hup.2 o ho];exact hx
    have hil:=hf.ins y (xmG hy)
    have hfe:ej.fit f.wid:=hxo ej (xmG hej)
    simp [f25,f26,hlt2]
    simp [f24,f26,hpf.idx hj,intc]
    refine Dra.auto [] mix ?_ ?_
    ·kernel_rfl
    simp [classes,f0,f2,f7,s7,xAd hjn,hx2,hej,hb2,f.blksS.idx hy]
    refine (xF4 ej y.ins y.insV y.insS (by omega) (hfe.small hwl)).b (n:=9) (by simp [mapOpt]) (by simp [solids,AV.solid,y.insS.solid]) ?_
    simp
    refine (xI3 (f.cevTo x i (m.take a)) (pastL ej y.ins) ((f.cevTo_fit hxo i _).small hwl) ((xB4 hfe).small hwl)).b (n:=9) (by simp [mapOpt]) (by simp [solids,AV.solid]) ?_
    simp [f0,f2,f6,f7,f24,f25,f26,e4,s7]
    exact ⟨a + 1,by omega,by omega,by omega,hup.put (by omega) _,hn2,s6,by rw [hst]⟩
   ·have:a=m.length:=by omega
    subst this
    rw [yAV] at s7
    have hcv:f.cevTo x i m=f.cev x i:=by rw [← hm];rfl
    rw [hcv] at s7
    simp [f25,f26,f7,f6,s7,s6]
    exact hk _ (hup.put (yAC _) _)
  ·simp [h0]
   refine ⟨⟨by simp;omega,fun q hq=>by simp [show ¬ q=S.next by omega,show ¬ q=S.next + 1 by omega]⟩,?_⟩
   simp [Fun.cevTo,h0,Fun.start]
def Fun.pgr (f:Fun):List (List Int):=(List.range f.blks.length).map fun i:Nat=>f.preds i
theorem xNW {S:St} {f:Fun} {prV:AV} (h:Has prc 1 S prV f.pgr) (hne:0 < f.blks.length) {n:Nat}:Vm.pict S [] (n + 3) prV=some (.fsl 1 (els prc f.pgr)):=by
 rcases h with ⟨_,h⟩ | ⟨q,rfl,hq,_⟩
 ·simp [Fun.pgr] at h;rw [h] at hne;simp at hne
 ·refine xAz hq (by simp) (by simp) fun k e he=>?_
  simp only [els,yAN] at he ⊢
  cases hz:f.pgr[k]? with
  | none=>rw [hz] at he;cases he
  | some m =>
   rw [hz] at he;cases he
   have hf:FSl intc 1 (encF intc 1 m) m:=xAt
   simp [mapOpt,prc,xAc hf.stab]
theorem xT4 (f:Fun):GrV (.fsl 1 (els prc f.pgr)) f.pgr:=by
 refine .inr ⟨f.pgr.map (encF intc 1),by simp [els,prc],by simp,fun k w m hw hm=>?_⟩
 rw [yAN,hm] at hw
 cases hw
 exact xAt
theorem xDv (p:Prg) (i:Int) (hp:p.Fit) {f:Fun} (hf:p.fn i=some f):Ret P (gl N) false 63 [encP p,.int .i64 i] (.fsl 2 (els envc f.cin)):=by
 have hok:=xRn hf
 have hl:=hok.len
 have hsm:=xK2 hp hf
 refine Ret.in c63 (by simp) ?_
 simp [k63]
 refine (xD2 p i hp).use (n:=9) (by simp [mapOpt,xAc p.funsS.stab]) (by simp [solids,AV.solid,p.funsS.solid]) ?_
 simp [hf]
 have hpr:∀b,p.preds i b=f.preds b:=fun b=>by simp [Prg.preds,hf]
 refine W.whileI (fun (a:Nat) F S=>a≤f.blks.length∧F 1=.int .i64 i∧F 2=.ptr 0 0 0∧F 5=.ptr 1 0 0∧F 7=.ptr 2 0 0∧Has natc 1 S (F 8) (List.range a)∧Bel S (F 8)∧F 25=.int .i64 f.blks.length∧F 26=.int .i64 a∧2 < S.next∧(∀q c sz,F 8=.sl sz q 0 c→3≤q) ∧
  S.obj 0=some (.row 1 [[p.funsV]])∧S.obj 1=some (.row 3 [func f])∧∃ pv,S.obj 2=some (.row 4 [[.int .i64 f.par,.int .i64 f.vars,f.blksV,pv]])∧pv.one=true∧Has prc 1 S pv ((List.range a).map fun i:Nat=>f.preds i)∧Bel S pv∧Sep (F 8) pv∧(∀q c sz,pv=.sl sz q 0 c→3≤q)) (fun a=>f.blks.length - a) ?_ 0 _ _ ?_
 ·rintro a F S ⟨ha,f1,f2,f5,f7,h8,b8,f25,f26,hn,n8,s0,s1,pv,s2,o2,hpv,bpv,hsep,npv⟩
  by_cases hlt:a < f.blks.length
  ·have e4:=wrapS a (by omega)
   have hl12:=hl.2
   simp [f25,f26,hlt]
   refine Dra.auto [] mix ?_ ?_
   ·kernel_rfl
   simp [classes,f1,f2,f7,s0,s2,f26]
   refine (xED p i a hp).ret.b (n:=9) (by simp [mapOpt,xAc p.funsS.stab]) rfl ?_
   rw [hpr]
   have hcl:(encF intc 1 (f.preds a)).cells=[encF intc 1 (f.preds a)]:=FSl.cells xAt
   simp [hcl]
   refine xBi (e:=prc) (x:=f.preds a) (hpv.new bpv) (by have:=xKa (xAt (e:=intc) (sz:=1) (l:=f.preds a));simp [okEl,prc,this]) (by simp [room];omega) fun S1 k1 k2 k3=>?_
   simp at k2 k3
   have o1:∀q,q < 3→S1.obj q=S.obj q:=fun q hq=>by
    rw [k3 q (by omega) fun len h=>by have:=npv _ _ _ h;omega,if_neg (by omega)]
   have h81:Has natc 1 S1 (F 8) (List.range a):=h8.keep fun q ⟨len,hq⟩=>by
    have hq1:=b8 _ _ _ hq
    rw [k3 q (by omega) fun c hc=>hsep _ _ _ _ _ hq hc,if_neg (by omega)]
   simp [f7,o1 2 (by omega),s2]
   generalize hS2:S1.set 2 (.row 4 [[.int .i64 f.par,.int .i64 f.vars,f.blksV,.sl 1 (S.next + 1) 0 (a + 1)]])=S2
   have n2:S2.next=S.next + 2:=by rw [← hS2];simp [k2]
   have o2:∀q,q ≠ 2→S2.obj q=S1.obj q:=fun q hq=>by rw [← hS2];simp [hq]
   have o22:S2.obj 2=some (.row 4 [[.int .i64 f.par,.int .i64 f.vars,f.blksV,.sl 1 (S.next + 1) 0 (a + 1)]]):=by rw [← hS2];simp
   clear hS2
   have h82:Has natc 1 S2 (F 8) (List.range a):=h81.keep fun q ⟨len,hq⟩=>o2 q fun e=>by have:=n8 _ _ _ hq;omega
   have b82:Bel S2 (F 8):=b8.mono (by omega)
   refine xBi (e:=natc) (x:=a) (h82.new b82) rfl (by simp [room];omega) fun S3 m1 m2 m3=>?_
   simp at m2 m3
   have o3:∀q,q < S2.next→(∀len,F 8 ≠ .sl 1 q 0 len)→S3.obj q=S2.obj q:=fun q hq hv=>by rw [m3 q (by omega) hv,if_neg (by omega)]
   simp [f1,f2,f5,f7,f25,f26,e4]
   simp only [xDW,List.length_map,List.length_range] at k1
   simp only [xDW,List.length_range] at m1
   have q8:∀q,q < 3→∀len,F 8 ≠ .sl 1 q 0 len:=fun q hq len h=>by have:=n8 _ _ _ h;omega
   refine ⟨a + 1,by omega,by omega,by rw [yAo];exact m1,Bel.sl (by omega),by omega,by omega,by omega,?_,?_,.sl 1 (S.next + 1) 0 (a + 1),?_,rfl,?_,Bel.sl (by omega),?_,?_⟩
   ·rw [o3 0 (by omega) (q8 0 (by omega)),o2 0 (by omega),o1 0 (by omega)];exact s0
   ·rw [o3 1 (by omega) (q8 1 (by omega)),o2 1 (by omega),o1 1 (by omega)];exact s1
   ·rw [o3 2 (by omega) (q8 2 (by omega))];exact o22
   ·rw [yAo,List.map_append]
    refine Has.keep (S:=S2) (k1.keep fun q ⟨len,hq⟩=>?_) fun q ⟨len,hq⟩=>?_
    ·cases hq;exact o2 _ (by omega)
    ·cases hq;exact o3 _ (by omega) fun c h=>by have:=b8 _ _ _ h;omega
   ·intro sz sz' q a b h1 h2
    cases h1
    simp at h2;omega
   ·intro q c sz h
    cases h;omega
  ·have:a=f.blks.length:=by omega
   subst this
   have hroom:f.blks.length≤room:=by simp [room];omega
   simp [f25,f26,f5,s1,hroom,f7,s2,show ¬ 2=S.next by omega]
   generalize hS1:S.new (.row 2 (List.replicate f.blks.length [.bool false,.nilsl]))=S1
   have n1:S1.next=S.next + 1:=by rw [← hS1];simp
   have o1:∀q,q < S.next→S1.obj q=S.obj q:=fun q hq=>by rw [← hS1];simp [show ¬ q=S.next by omega]
   have oo:S1.obj S.next=some (.row 2 (els envEl.e (List.replicate f.blks.length Option.none))):=by rw [← hS1];simp [els,El.e,envEl]
   clear hS1
   have hpv1:Has prc 1 S1 pv f.pgr:=hpv.keep fun q ⟨len,hq⟩=>o1 q (bpv _ _ _ hq)
   have h81:Has natc 1 S1 (F 8) (List.range f.blks.length):=h8.keep fun q ⟨len,hq⟩=>o1 q (b8 _ _ _ hq)
   refine solver_RunGN (Y:=f.csys) (E:=envEl) (G:=f.pgr) (z:=.bool false) c102 (by have:=hl.2;show f.blks.length≤100;omega) (by rw [hpv1.len];simp [Fun.pgr];rfl) (xNW hpv1 hl.1) (xT4 f) (by simp [Fun.pgr];rfl) ?_ ?_ ?_ oo (by omega) (by rw [h81.len];simp;rfl) ?_ ?_
   ·intro m hm
    simp only [Fun.pgr,yAU,yAg] at hm
    obtain ⟨k,hk,rfl⟩:=hm
    have h1:=f.predsTo_len (k:Int) f.blks.length
    refine ⟨by show (f.preds k).length < 2 ^ 30;unfold Fun.preds;omega,fun j hj=>?_⟩
    obtain ⟨k2,y,rfl,h2,_⟩:=Fun.preds_mem.1 hj
    have:=(xgS h2).1
    exact ⟨by omega,by show (k2:Int) < f.blks.length;omega⟩
   ·intro k m hm
    simp only [Fun.pgr,yAN] at hm
    by_cases hk:k < f.blks.length
    ·rw [yBI hk] at hm
     exact yBH hm
    ·rw [yAG (by simpa using hk)] at hm;cases hm
   ·refine ⟨fun S2 x k K' hx hk hn2 hr hkeep hK'=>?_,fun a b ha hb=>⟨decide (a=b),by simp,?_⟩⟩
    ·rw [xI8] at hr
     have hb2:S2.obj 2=some (.row 4 [[.int .i64 f.par,.int .i64 f.vars,f.blksV,pv]]):=by rw [hkeep 2 (by omega) (by omega),o1 2 (by omega)];exact s2
     have hp2:Has prc 1 S2 pv f.pgr:=hpv1.keep fun q ⟨len,hq⟩=>hkeep q (by have:=bpv _ _ _ hq;omega) (by have:=bpv _ _ _ hq;omega)
     simp
     refine xI9 (x:=x) hsm ⟨hb2,hp2,by omega⟩ (bpv.mono (by omega)) hk hr (by omega) hx.len hx.ok fun S3 hup=>?_
     have:=hK' S3 hup
     rwa [xHW] at this
    ·rw [xHW,xHW]
     exact xKf a b (Env.fit.small ha f.wid_lt)
   ·intro S2 hup a ha
    rcases h81 with ⟨_,h⟩ | ⟨q,hq,ho,_⟩
    ·have:f.blks.length=0:=by simpa using h
     omega
    ·have hq1:=b8 _ _ _ hq
     have ha':a < f.blks.length:=ha
     refine ⟨.ptr q a 0,by rw [hq,xAd (by simpa using ha')];simp,?_⟩
     simp [hup.2 q (by omega),ho,ha',natc,els]
   ·intro S2 hr hn2 hkeep
    rw [xI8] at hr
    simp
    refine ⟨9,?_⟩
    have hlen:f.cin.length=f.blks.length:=f.cin_len
    refine xAz hr (by simp;exact hlen) (by simp;exact hlen) fun k e he=>?_
    simp only [els,yAN] at he ⊢
    cases hz:f.csys.sol[k]? with
    | none=>rw [hz] at he;cases he
    | some m =>
     rw [hz] at he;cases he
     have hz':f.cin[k]?=some m:=hz
     rw [hz']
     exact xMa m
 ·simp
  exact ⟨Has.nil,Bel.nil,Has.nil,Bel.nil,Sep.nilL⟩
noncomputable def Prg.cin (p:Prg) (i:Int):List Env:=match p.fn i with
 | none=>[]
 | some f=>f.cin
noncomputable def Fun.cat (f:Fun) (j:Nat) (k:Nat):Env:=pastL (f.cin.getD j Option.none) ((f.code j).take k)
noncomputable def Prg.cat (p:Prg) (i j k:Int):Env:=match p.fn i with
 | none=>Option.none
 | some f=>match f.blk j with
  | none=>Option.none
  | some b=>if 0≤k∧k≤b.ins.length then f.cat j.toNat k.toNat else Option.none
theorem FSl.upto {α:Type} {e:α→List AV} {sz:Nat} {v:AV} {l:List α} (h:FSl e sz v l) {k:Nat} (hk:k≤l.length):∃ v',pk (.slice sz false true false) [v,.int .i64 (k:Int)]=some v'∧FSl e sz v' (l.take k):=by
 rcases h with rfl | ⟨rfl,rfl⟩
 ·refine ⟨.fsl sz (els e (l.take k)),?_,.inl rfl⟩
  simp [pk,bnds,hk,els]
 ·refine ⟨.nilsl,?_,.inr ⟨rfl,by simp⟩⟩
  have:k=0:=by simpa using hk
  subst this
  simp [pk,bnds]
theorem xJa (p:Prg) (i j k:Int) (hp:p.Fit):Ret P (gl N) false 36 [encP p,.int .i64 i,.int .i64 j,.int .i64 k] (encE (p.cat i j k)):=by
 refine Ret.in c36 (by simp) ?_
 simp [k36]
 refine (xEz p i j hp).use (n:=9) (by simp [mapOpt,xAc p.funsS.stab]) (by simp [solids,AV.solid,p.funsS.solid]) ?_
 simp
 cases hb:p.blk i j with
 | none =>
  have hat:p.cat i j k=Option.none:=by
   unfold Prg.cat
   split
   ·rfl
   ·rename_i f hf
    have:f.blk j=Option.none:=by simpa [Prg.blk,hf] using hb
    rw [this]
  simp
  rw [hat]
  exact RK.agg (by simp [AV.stab])
 | some b =>
  obtain ⟨f,hf,hfb⟩:∃ f,p.fn i=some f∧f.blk j=some b:=by
   unfold Prg.blk at hb
   cases hf:p.fn i with
   | none=>rw [hf] at hb;cases hb
   | some f=>rw [hf] at hb;exact ⟨f,rfl,hb⟩
  have hbj:f.live j=true∧f.blks[j.toNat]?=some b:=by
   unfold Fun.blk at hfb
   split at hfb
   ·rename_i h;exact ⟨h,hfb⟩
   ·cases hfb
  have hat:p.cat i j k=if 0≤k∧k≤b.ins.length then f.cat j.toNat k.toNat else Option.none:=by
   unfold Prg.cat
   rw [hf];simp only [hfb]
  simp
  refine xAM (fun h1=>?_) (fun h1=>?_) <;> simp [h1,b.insS.len]
  ·refine xAj (fun h2=>?_) (fun h2=>?_) <;> simp [h2]
   ·rw [hat,if_neg (by omega)]
    exact RK.agg (by simp [AV.stab])
   ·obtain ⟨kn,rfl⟩:∃ n:Nat,k=(n:Int):=⟨k.toNat,by omega⟩
    obtain ⟨jn,rfl⟩:∃ n:Nat,j=(n:Int):=⟨j.toNat,by have:=(xCG hbj.1).1;omega⟩
    obtain ⟨v',hv',hvf⟩:=b.insS.upto (k:=kn) (by omega)
    have hbl:=(xK2 hp hf).ins b (xmG hbj.2)
    have hjl:=(xCG hbj.1).2.1
    have hci:f.cin[jn]?=some (f.cin.getD jn Option.none):=by
     have:jn < f.cin.length:=by rw [f.cin_len];omega
     simp [yAA,xgG this]
    have hcf:FSl envc 2 (.fsl 2 (els envc f.cin)) f.cin:=FSl.mk
    have hco:f.code jn=b.ins:=by have:=hbj.2;simp only [yAs] at this;simp [Fun.code,this]
    refine Dra.auto [] mix ?_ ?_
    ·kernel_rfl
    simp [classes]
    refine (xDv p i hp hf).b (n:=9) (by simp [mapOpt,xAc p.funsS.stab]) (by simp [solids,AV.solid,p.funsS.solid]) ?_
    simp [hcf.idx hci,hv']
    refine (xF4 (f.cin.getD jn Option.none) (b.ins.take kn) v' hvf (by simp;omega) ((f.cin_fit jn).small f.wid_lt)).b (n:=9) (by simp [mapOpt,xAc hvf.stab]) (by simp [solids,AV.solid,hvf.solid]) ?_
    simp
    rw [hat,if_pos (by omega)]
    exact RK.env (by simp [Fun.cat,hco])
  ·rw [hat,if_neg (by omega)]
   exact RK.agg (by simp [AV.stab])
theorem xJb (p:Prg) (i j k v:Int) (hp:p.Fit):Ret P (gl N) false 32 [encP p,.int .i64 i,.int .i64 j,.int .i64 k,.int .i64 v] (encV ((p.cat i j k).get v)):=by
 refine Ret.in c32 (by simp) ?_
 simp [k32]
 refine (xJa p i j k hp).use (n:=9) (by simp [mapOpt,xAc p.funsS.stab]) (by simp [solids,AV.solid,p.funsS.solid]) ?_
 simp
 refine (xDG (p.cat i j k) v).use (n:=9) (by simp [mapOpt]) rfl ?_
 simp
 exact RK.agg (by simp [AV.stab])
@[simp] theorem xUa {d op b yes no}:GuaD d op b .none yes no=no:=_root_.id rfl
theorem xNY {n:Nat} {x:Ins} {e:Env} (he:e.fit n) (h:x.def < 0):x.flat e=e:=by
 cases e with
 | none=>rfl
 | some l =>
  rw [Ins.flat,Env.set_of he _ (x.number_ok _),if_neg (by omega)]
theorem xC5 {f:Fun} {j:Nat} {b:Blk} (hb:f.blks[j]?=some b):f.code j=b.ins:=by simp [Fun.code,hb]
theorem xPG {f:Fun} {j:Nat} {b:Blk} {n:Nat} {x:Ins} (hb:f.blks[j]?=some b) (hx:b.ins[n]?=some x):f.cat j (n + 1)=x.flat (f.cat j n):=by
 unfold Fun.cat pastL
 rw [xC5 hb,xAi _ _ _ _ _ hx]
theorem xRw {p:Prg} {i:Int} {f:Fun} (hf:p.fn i=some f) {j:Nat} {b:Blk} (hb:f.blks[j]?=some b) (hon:b.on=true) {k:Nat} (hk:k≤b.ins.length):p.cat i j k=f.cat j k:=by
 have h:f.blk (j:Int)=some b:=by
  have:f.live (j:Int)=true:=by simp [Fun.live,hb,hon]
  simp [Fun.blk,this,hb]
 unfold Prg.cat
 rw [hf];simp only [h]
 rw [if_pos (by omega)];rfl
theorem FunOK.wid {p:Prg} {f:Fun} (h:FunOK p f):(f.wid:Int)=f.vars:=by
 have:=h.vars
 unfold Fun.varsOK at this
 unfold Fun.wid capN
 omega
theorem xJc (n:Int):wrap32 n=(n + 2147483648) % 4294967296 - 2147483648:=by unfold wrap32;rw [IntKind.wrap_i32]
theorem xEc {n:Int} (h:-2147483648≤n∧n≤2147483647):wrap32 n=n:=by rw [xJc];omega
def stepV (l:List Int) (x:Ins) (w:Int):Int :=
 if x.kind=0 then x.c else if x.kind=1 then l.getD x.a.toNat 0 else if x.kind=2 then wrap32 (IntKind.i64.wrap (0 - l.getD x.a.toNat 0)) else if x.kind=3 then wrap32 (i64add (l.getD x.a.toNat 0) (l.getD x.b.toNat 0)) else
 if x.kind=4 then wrap32 (i64sub (l.getD x.a.toNat 0) (l.getD x.b.toNat 0)) else if x.kind=5 then wrap32 (i64mul (l.getD x.a.toNat 0) (l.getD x.b.toNat 0)) else wrap32 w
def stepL (l:List Int) (x:Ins) (w:Int):List Int:=if x.def < 0 then l else l.set x.def.toNat (stepV l x w)
def Tells (n:Nat) (l:List Int) (e:Env):Prop:=l.length=n∧∃ m,e=some m∧m.length=n∧okL m∧∀(k:Nat) u v,l[k]?=some u→m[k]?=some v→(-2147483648≤u∧u≤2147483647)∧(⟨1,u⟩:Val).le v
theorem Tells.le {n:Nat} {l:List Int} {e e':Env} (h:Tells n l e) (he:e'.fit n) (hle:e.le e'):Tells n l e':=by
 obtain ⟨h1,m,rfl,h2,h3,h4⟩:=h
 obtain ⟨m',rfl,h5⟩:=hle m rfl
 obtain ⟨g1,g2⟩:=he m' rfl
 refine ⟨h1,m',rfl,g1,g2,fun k u v hu hv=>?_⟩
 have hk:=(xgS hu).1
 obtain ⟨z,hz⟩:∃ z,m[k]?=some z:=⟨_,xgG (by omega)⟩
 obtain ⟨q1,q2⟩:=h4 k u z hu hz
 exact ⟨q1,Val.le_trans (h3 z (xmG hz)) q2 (h5 k z v hz hv)⟩
theorem Tells.isSome {n:Nat} {l:List Int} {e:Env} (h:Tells n l e):e.isSome=true:=by
 obtain ⟨_,m,rfl,_⟩:=h;rfl
theorem Tells.get {n:Nat} {l:List Int} {e:Env} (h:Tells n l e) {a:Int} (ha:0≤a∧a < n):∃ u,l.getD a.toNat 0=u∧(-2147483648≤u∧u≤2147483647)∧(⟨1,u⟩:Val).le (e.get a)∧(e.get a).ok=true:=by
 obtain ⟨h1,m,rfl,h2,h3,h4⟩:=h
 obtain ⟨k,rfl⟩:∃ k:Nat,a=(k:Int):=⟨a.toNat,by omega⟩
 obtain ⟨u,hu⟩:∃ z,l[k]?=some z:=⟨_,xgG (by omega)⟩
 obtain ⟨z,hz⟩:∃ z,m[k]?=some z:=⟨_,xgG (by omega)⟩
 obtain ⟨q1,q2⟩:=h4 k u z hu hz
 refine ⟨u,by simp [yAA,hu],q1,?_,Env.get_ok _ _⟩
 have:Env.get (some m) k=z:=xCk h3 hz
 rw [this];exact q2
theorem xF8 {u:Int} {v:Val} (hv:v.ok=true) (h:(⟨1,u⟩:Val).le v):v=⟨2,0⟩ ∨ v=⟨1,u⟩:=by
 rcases h with h | h | h
 ·cases h
 ·exact .inl (Val.ok_top hv h)
 ·exact .inr h.symm
theorem xDi {op:Int→Int→Int} {u v:Int} {a b:Val} (hu:-2147483648≤u∧u≤2147483647) (hv:-2147483648≤v∧v≤2147483647) (ha:a.ok=true) (hb:b.ok=true) (h1:(⟨1,u⟩:Val).le a) (h2:(⟨1,v⟩:Val).le b):(⟨1,wrap32 (op u v)⟩:Val).le (a.each op b):=by
 rw [Val.each_of ha hb]
 rcases xF8 ha h1 with rfl | rfl <;> rcases xF8 hb h2 with rfl | rfl <;> simp
 all_goals first | exact .inr (.inl rfl) | exact Val.le_refl _
theorem Tells.step {n:Nat} {l:List Int} {e:Env} (h:Tells n l e) {x:Ins} {w:Int} (hc:-2147483648≤x.c∧x.c≤2147483647) (hd:x.def < 0 ∨ (0≤x.def∧x.def < n∧0≤x.a∧x.a < n∧0≤x.b∧x.b < n)):Tells n (stepL l x w) (x.flat e):=by
 have hfit:e.fit n:=by
  obtain ⟨_,m,rfl,h2,h3,_⟩:=h
  exact Env.fit_some h2 h3
 rcases hd with hd | ⟨hd0,hdl,ha0,hal,hb0,hbl⟩
 ·rw [xNY hfit hd]
  unfold stepL
  rw [if_pos hd];exact h
 ·have hval:(-2147483648≤stepV l x w∧stepV l x w≤2147483647)∧(⟨1,stepV l x w⟩:Val).le (x.number e):=by
   obtain ⟨ua,ga,ra,la,oa⟩:=h.get ⟨ha0,hal⟩
   obtain ⟨ub,gb,rb,lb,ob⟩:=h.get ⟨hb0,hbl⟩
   unfold stepV Ins.number
   rw [ga,gb]
   by_cases k0:x.kind=0
   ·simp only [k0,if_true]
    exact ⟨hc,by rw [xEc hc];exact Val.le_refl _⟩
   by_cases k1:x.kind=1
   ·simp only [k0,k1,if_true,if_false]
    exact ⟨ra,la⟩
   by_cases k2:x.kind=2
   ·simp only [k0,k1,k2,if_true,if_false]
    refine ⟨xBG _,?_⟩
    have z:wrap32 0=0:=rfl
    rw [z]
    exact xDi (op:=i64sub) (u:=0) (by omega) ra rfl oa (Val.le_refl _) la
   by_cases k3:x.kind=3
   ·simp only [k0,k1,k2,k3,if_true,if_false]
    exact ⟨xBG _,xDi ra rb oa ob la lb⟩
   by_cases k4:x.kind=4
   ·simp only [k0,k1,k2,k3,k4,if_true,if_false]
    exact ⟨xBG _,xDi ra rb oa ob la lb⟩
   by_cases k5:x.kind=5
   ·simp only [k0,k1,k2,k3,k4,k5,if_true,if_false]
    exact ⟨xBG _,xDi ra rb oa ob la lb⟩
   simp only [k0,k1,k2,k3,k4,k5,if_false]
   exact ⟨xBG _,.inr (.inl rfl)⟩
  obtain ⟨h1,m,rfl,h2,h3,h4⟩:=h
  have hnum:=x.number_ok (some m)
  unfold Ins.flat
  rw [Env.set_of hfit _ hnum,if_pos ⟨hd0,hdl⟩]
  unfold stepL
  rw [if_neg (by omega)]
  refine ⟨by simp [h1],_,rfl,by simp [h2],fun v hv=>?_,fun k u v hu hv=>?_⟩
  ·rcases yAP hv with hv | rfl
   ·exact h3 v hv
   ·exact hnum
  ·by_cases hk:k=x.def.toNat
   ·subst hk
    rw [yAF (by omega)] at hu hv
    cases hu;cases hv
    exact hval
   ·rw [yAH (Ne.symm hk)] at hu hv
    exact h4 k u v hu hv
noncomputable instance (f:Fun) (b k:Nat) (x:Ins):Decidable (f.isOne b k x):=Classical.propDecidable _
theorem xKi {f:Fun} {b:Nat} (hb:b < f.blks.length):f.cin.getD b Option.none=f.cev f.cin b:=by
 have hl:b < f.cin.length:=by rw [f.cin_len];exact hb
 have h:=f.cin_least.fix b f.cin[b] (xgG hl)
 rw [yAA,xgG hl]
 exact h
theorem xPH (f:Fun) (b:Nat):f.cat b 0=f.cin.getD b Option.none:=by simp [Fun.cat,pastL]
theorem xKj {f:Fun} {b:Nat} {B:Blk} (hB:f.blks[b]?=some B):f.cat b B.ins.length=pastL (f.cin.getD b Option.none) (f.code b):=by
 unfold Fun.cat
 rw [xC5 hB,yAV]
inductive Rch (G:List (List Int)) (a0:Nat):Nat→Prop
 | base:Rch G a0 a0
 | step {a b:Nat} {l:List Int} (h:Rch G a0 a) (hl:G[a]?=some l) (hb:(b:Int) ∈ l):Rch G a0 b
noncomputable def marks (n:Nat) (T:Nat→Prop):List Bool:=open Classical in (List.range n).map fun x=>decide (T x)
def Blk.gout (b:Blk):List Int:=if b.on=true then b.out else []
def Fun.gout (f:Fun):List (List Int):=f.blks.map Blk.gout
def Fun.Way (f:Fun) (b:Nat):Prop:=Rch (cleanG (cleanG f.gout)) 0 b
theorem xPI (f:Fun):(cleanG f.gout).length=f.blks.length:=by simp [cleanG,Fun.gout]
theorem xN1 {f:Fun} {a:Nat} {x:Blk} (hx:f.blks[a]?=some x):(cleanG (cleanG f.gout))[a]?=some (cleanL (cleanG f.gout).length (cleanL f.gout.length x.gout)):=by
 have h1:f.gout[a]?=some x.gout:=by unfold Fun.gout;rw [yAN,hx];rfl
 have h2:(cleanG f.gout)[a]?=some (cleanL f.gout.length x.gout):=by unfold cleanG;rw [yAN,h1];rfl
 generalize cleanG f.gout=C at h2 ⊢
 unfold cleanG;rw [yAN,h2];rfl
theorem xLa {f:Fun} {b:Nat} {x:Blk}:(b:Int) ∈ cleanL (cleanG f.gout).length (cleanL f.gout.length x.gout) ↔ (b:Int) ∈ x.gout∧b < f.blks.length:=by
 have h:f.gout.length=f.blks.length:=by simp [Fun.gout]
 rw [xAp,xAp,xPI,h]
 constructor
 ·rintro ⟨⟨h1,_,h2⟩,_⟩;exact ⟨h1,by omega⟩
 ·rintro ⟨h1,h2⟩;exact ⟨⟨h1,by omega,by omega⟩,by omega,by omega⟩
theorem xEd {f:Fun} {a b:Nat} {l:List Int} (hl:(cleanG (cleanG f.gout))[a]?=some l) (hb:(b:Int) ∈ l):∃ x,f.blks[a]?=some x∧(b:Int) ∈ x.out∧b < f.blks.length:=by
 cases hx:f.blks[a]? with
 | none =>
  have h1:a < (cleanG (cleanG f.gout)).length:=(xgS hl).1
  have h2:(cleanG (cleanG f.gout)).length=f.blks.length:=by simp [cleanG,Fun.gout]
  rw [List.getElem?_eq_none_iff] at hx
  omega
 | some x =>
  rw [xN1 hx] at hl
  cases hl
  obtain ⟨h1,h2⟩:=xLa.1 hb
  refine ⟨x,rfl,?_,h2⟩
  unfold Blk.gout at h1
  split at h1
  ·exact h1
  ·cases h1
theorem xJe {f:Fun} {a b:Nat} {x:Blk} (hx:f.blks[a]?=some x) (hon:x.on=true) (hb:(b:Int) ∈ x.out) (hbl:b < f.blks.length):∃ l,(cleanG (cleanG f.gout))[a]?=some l∧(b:Int) ∈ l :=
 ⟨_,xN1 hx,xLa.2 ⟨by unfold Blk.gout;rw [if_pos hon];exact hb,hbl⟩⟩
theorem xEE {p:Prg} {f:Fun} (hok:FunOK p f):∀(c:List Ins) {l:List Int} {e:Env},(∀x ∈ c,p.insOK f x=true)→Tells f.wid l e→∃ l',Tells f.wid l' (pastL e c)
 | [],l,e,_,h=>⟨l,h⟩
 | x :: c,l,e,hc,h=>by
  obtain ⟨h1,h2⟩:=ins_ab hok (hc x (by simp))
  exact xEE hok c (fun y hy=>hc y (by simp [hy])) (h.step (w:=0) h1 h2)
theorem xJf {p:Prg} {f:Fun} (hok:FunOK p f) {b:Nat} (h:f.Way b):∃ l,Tells f.wid l (f.cin.getD b Option.none):=by
 unfold Fun.Way at h
 induction h with
 | base=>exact ⟨_,(begin_tells f []).le (f.cin_fit 0) (start_le hok.len.1)⟩
 | step _ hl hb ih =>
  obtain ⟨l,hl'⟩:=ih
  obtain ⟨x,hx,hbx,hbl⟩:=xEd hl hb
  obtain ⟨l',h'⟩:=xEE hok x.ins (hok.blk (xmG hx)).2.2.2.2 hl'
  refine ⟨l',h'.le (f.cin_fit _) ?_⟩
  have:=pred_le hx hbx hbl
  rw [xKj hx,xC5 hx] at this
  exact this
theorem xJg:∀l:List Ins,pastL Option.none l=Option.none
 | []=>rfl
 | x :: l=>by
  show pastL (x.flat Option.none) l=Option.none
  rw [show x.flat Option.none=Option.none from rfl]
  exact xJg l
theorem xJh:∀m:List Int,m.foldl (fun (e:Env) (_:Int)=>e.join Option.none) (Option.none:Env)=Option.none
 | []=>rfl
 | _ :: m=>by
  rw [yAe]
  exact xJh m
noncomputable def Fun.onY (f:Fun):List Env:=open Classical in (List.range f.blks.length).map fun i=>if f.Way i then f.cin.getD i Option.none else Option.none
theorem Fun.onY_at {f:Fun} {i:Nat} (h:i < f.blks.length):(open Classical in f.onY.getD i Option.none=if f.Way i then f.cin.getD i Option.none else Option.none):=by
 rw [yAA,Fun.onY,yAN,yBI h]
 rfl
theorem xHX {p:Prg} {f:Fun} (hok:FunOK p f) {b:Nat} (hb:b < f.blks.length) (h:¬ f.Way b):f.cin.getD b Option.none=Option.none:=by
 have hl:f.onY.length=f.blks.length:=by simp [Fun.onY]
 have hfit:∀e ∈ f.onY,Env.fit f.wid e:=fun e he=>by
  unfold Fun.onY at he
  obtain ⟨i,_,rfl⟩:=yAU.1 he
  split
  ·exact f.cin_fit i
  ·exact Env.fit_none _
 have hle:∀(k:Nat) a b,f.onY[k]?=some a→f.cin[k]?=some b→Env.le a b:=fun k a b ha hb=>by
  have hk:k < f.blks.length:=by rw [← hl];exact (xgS ha).1
  have h1:=Fun.onY_at hk
  rw [yAA,ha,yAA,hb] at h1
  simp only [Option.getD_some] at h1
  rw [h1]
  split
  ·exact Env.le_refl _
  ·exact Env.le_none _
 have post:f.csys.Post f.onY:=by
  refine ⟨⟨hl,hfit⟩,fun i a ha=>?_⟩
  have hi:i < f.blks.length:=by rw [← hl];exact (xgS ha).1
  have h1:=Fun.onY_at hi
  rw [yAA,ha] at h1
  simp only [Option.getD_some] at h1
  rw [h1]
  by_cases hw:f.Way i
  ·rw [if_pos hw]
   have:=f.csys.mono f.onY f.cin i hl f.cin_len hfit f.cin_least.fit.ok hle hi
   have e:f.csys.ev f.cin i=f.cin.getD i Option.none:=(xKi hi).symm
   rw [e] at this
   exact this
  ·rw [if_neg hw]
   have e:f.csys.ev f.onY i=Option.none:=by
    show f.cev f.onY i=Option.none
    unfold Fun.cev Fun.cevTo
    have hi0:¬ i=0:=fun e=>hw (e ▸ Rch.base)
    rw [if_neg hi0,xF7 (h':=fun _=>Option.none) _ _ fun j hj=>?_]
    ·exact xJh _
    ·obtain ⟨k,x,rfl,hx,hxi⟩:=Fun.preds_mem.1 hj
     have hk:k < f.blks.length:=(xgS hx).1
     have hon:x.on=true:=by
      cases hon:x.on
      ·have:=((hok.blk (xmG hx)).1 hon).2
       rw [this] at hxi;cases hxi
      ·rfl
     have hnk:¬ f.Way k:=fun hk'=>by
      obtain ⟨l,hl1,hl2⟩:=xJe hx hon hxi hi
      exact hw (Rch.step hk' hl1 hl2)
     rw [yAs,Fun.onY_at hk,if_neg hnk]
     exact xJg _
   rw [e]
   exact Env.le_none _
 have hcl:b < f.cin.length:=by rw [f.cin_len];exact hb
 have h2:=f.cin_least.low f.onY post b f.cin[b] (f.onY[b]'(by omega)) (xgG _) (xgG _)
 have h1:=Fun.onY_at hb
 rw [if_neg h,yAA,xgG (by omega)] at h1
 simp only [Option.getD_some] at h1
 rw [h1] at h2
 rw [yAA,xgG hcl]
 show f.cin[b]=Option.none
 cases hc:f.cin[b] with
 | none=>rfl
 | some l =>
  rw [hc] at h2
  obtain ⟨m,hm,_⟩:=h2 l rfl
  cases hm
end Go.Proofs.YtnhfofmhkfdpgaaGreatDoor.Vm
namespace Go.Proofs.YtnhfofmhkfdpgaaGreatDoor.Vm
open Go Go.RowKit
set_option maxRecDepth 100000
variable {N:Nat} {g:Glob}
structure SFam (nf:Nat→Nat):Prop where
 c0:Fun' P (nf 0) 53 [] (sk0 nf)
 c1:Fun' P (nf 1) 18 [(.tmp 8)] (sk1 nf)
 c2:Fun' P (nf 2) 41 [(.tmp 12)] (sk2 nf)
 c3:Fun' P (nf 3) 34 [] (sk3 nf)
 c4:Fun' P (nf 4) 178 [(.tmp 10),(.tmp 11)] (sk4 nf)
 c5:Fun' P (nf 5) 90 [(.tmp 10)] (sk5 nf)
 c6:Fun' P (nf 6) 82 [] (sk6 nf)
 c7:Fun' P (nf 7) 60 [] (sk7 nf)
 c8:Fun' P (nf 8) 67 [] (sk8 nf)
 c9:Fun' P (nf 9) 63 [(.tmp 8),(.tmp 9)] (sk9 nf)
 c10:Fun' P (nf 10) 148 [] (sk10 nf)
 c11:Fun' P (nf 11) 141 [(.tmp 8)] (sk11 nf)
 c12:Fun' P (nf 12) 32 [(.tmp 10),(.tmp 11)] (sk12 nf)
 c13:Fun' P (nf 13) 14 [] (sk13 nf)
theorem famI:SFam nI:=⟨c254,c274,c275,c258,c261,c260,c273,c255,c256,c257,c231,c259,c283,c176⟩
theorem famR:SFam nR:=⟨c287,c296,c297,c291,c294,c293,c295,c288,c289,c290,c282,c292,c298,c271⟩
def Srt {α:Type} (c:α→AV) (S:St) (o:Nat) (l:List α) (S':St):Prop:=Keeps (·=o) S S'∧S'.obj o=some (.row 1 (els (cel c) l))
structure Cmp {α:Type} (g:Glob) (c:α→AV) (f:Nat) (cap:List AV) (L:List α) (o:Nat) (S:St) (cm:α→α→Int):Prop where
 one:∀x,(c x).one=true
 lt:o < S.next
 len:L.length < 2 ^ 40
 cal:∀a ∈ L,∀b ∈ L,∀(l':List α) (S':St),Srt c S o l' S'→Cal P g f ([c a,c b] ++ cap) S' (fun v S''=>v=.int .i64 (cm a b)∧S''=S')
section
variable {α:Type} {c:α→AV} {f:Nat} {cap:List AV} {L:List α} {o:Nat} {S:St} {cm:α→α→Int}
theorem Srt.put {l l':List α} {S':St} (h:Srt c S o l S'):Srt c S o l' (S'.set o (.row 1 (els (cel c) l'))):=by
 refine ⟨⟨by simpa using h.1.1,fun a ha hn=>?_⟩,by simp⟩
 rw [xJY,if_neg hn]
 exact h.1.2 a ha hn
theorem Srt.new {l:List α} {S':St} (h:Srt c S o l S') (hC:Cmp g c f cap L o S cm) (x:AObj):Srt c S o l (S'.new x):=by
 have hlt:=hC.lt
 have hn:=h.1.1
 refine ⟨⟨by simp;omega,fun a ha hn2=>?_⟩,?_⟩
 ·simp [show ¬ a=S'.next by omega]
  exact h.1.2 a ha hn2
 ·simp [show ¬ o=S'.next by omega]
  exact h.2
theorem Srt.set {l:List α} {S':St} (h:Srt c S o l S') {q:Nat} (hq:S.next≤q) (hC:Cmp g c f cap L o S cm) (x:AObj):Srt c S o l (S'.set q x):=by
 have hlt:=hC.lt
 refine ⟨⟨by simpa using h.1.1,fun a ha hn2=>?_⟩,?_⟩
 ·simp [show ¬ a=q by omega]
  exact h.1.2 a ha hn2
 ·simp [show ¬ o=q by omega]
  exact h.2
theorem Cmp.cells (hC:Cmp g c f cap L o S cm) (x:α):(c x).cells=[c x]:=xC2 (hC.one x)
theorem xPJ {nf:Nat→Nat} (H:SFam nf) (hC:Cmp g c f cap L o S cm) {a b:Nat} (hab:a≤b) (hb:b≤L.length) {l:List α} {S1:St} {K:AV→St→Prop} (hl:l.Perm L) (hS:Srt c S o l S1)
  (hk:∀l' S',l'.Perm L→Srt c S o l' S'→K (.tuple []) S'):Cal P g (nf 0) [.sl 1 o 0 L.length,.int .i64 (a:Int),.int .i64 (b:Int),.func (.func f) [] cap] S1 K:=by
 refine H.c0.in (by simp) ?_
 have hc1:=hC.one
 have hcc:=hC.cells
 have hlen:=hC.len
 have e1:=wrapS a (by omega)
 simp [sk0,e1]
 refine W.whileI (fun (i:Nat) F S'=>a + 1≤i∧i≤b + 1∧F 0=.sl 1 o 0 L.length∧F 1=.int .i64 a∧F 2=.int .i64 b∧F 3=.func (.func f) [] cap∧F 8=.int .i64 i∧∃ l':List α,l'.Perm L∧Srt c S o l' S') (fun i=>b + 1 - i) ?_ (a + 1) _ _ ?_
 ·rintro i F S' ⟨hi1,hi2,h0,h1,h2,h3,h8,l',hp,hs⟩
  by_cases hlt:i < b
  ·have e4:=wrapS i (by omega)
   simp [h2,h8,hlt]
   refine W.whileI (fun (j:Nat) F S'=>a≤j∧j≤i∧F 0=.sl 1 o 0 L.length∧F 1=.int .i64 a∧F 2=.int .i64 b∧F 3=.func (.func f) [] cap∧F 8=.int .i64 i∧F 9=.int .i64 j∧∃ l':List α,l'.Perm L∧Srt c S o l' S') (fun j=>j) ?_ i _ _ ?_
   ·clear h0 h1 h2 h3 h8 hp hs l'
    rintro j F S' ⟨hja,hj,h0,h1,h2,h3,h8,h9,l',hp,hs⟩
    have hpl:=hp.length_eq
    by_cases hj0:a < j
    ·have hjl:j < L.length:=by omega
     have hjl1:j - 1 < L.length:=by omega
     have e5:IntKind.i64.wrap ((j:Int) - 1)=((j - 1:Nat):Int):=by rw [xAa (by omega)];omega
     obtain ⟨x,hx⟩:∃ x,l'[j]?=some x:=⟨_,xgG (by omega)⟩
     obtain ⟨y,hy⟩:∃ y,l'[j - 1]?=some y:=⟨_,xgG (by omega)⟩
     have hxm:x ∈ L:=hp.mem_iff.1 (xmG hx)
     have hym:y ∈ L:=hp.mem_iff.1 (xmG hy)
     have ho:=hs.2
     simp
     refine Dra.auto [14] mix ?_ ?_
     ·kernel_rfl
     simp [classes,h0,h1,h3,h9,hj0,e5,xAd hjl,xAd hjl1,hx,hy,cel,ho]
     refine ⟨_,_,hC.cal x hxm y hym l' S' hs,?_⟩
     simp
     by_cases hc:cm x y < 0
     ·simp [hc]
      refine Dra.auto [] mix ?_ ?_
      ·kernel_rfl
      simp [classes,h0,h1,h3,h9,hj0,e5,xAd hjl,xAd hjl1,hx,hy,cel,hc1,hcc,ho,show ¬ j=j - 1 by omega]
      refine ⟨j - 1,by omega,by omega,by omega,h2,h8,rfl,(l'.set j y).set (j - 1) x,(xAm hx hy).trans hp,?_⟩
      have:=hs.put (l':=(l'.set j y).set (j - 1) x)
      rw [← xAg,← xAg] at this
      rw [xAk]
      exact this
     ·simp [hc,h8,e4,h0,h1,h2,h3]
      exact ⟨i + 1,by omega,by omega,by omega,by omega,l',hp,hs⟩
    ·simp
     refine Dra.auto [14] mix ?_ ?_
     ·kernel_rfl
     simp [classes,h1,h9,h8,e4,hj0]
     exact ⟨i + 1,by omega,by omega,by omega,h0,h2,h3,by omega,l',hp,hs⟩
   ·simp [h0,h1,h2,h3,h8]
    exact ⟨by omega,l',hp,hs⟩
  ·simp [h2,h8,hlt]
   exact hk l' S' hp hs
 ·simp
  exact ⟨by omega,l,hl,hS⟩
theorem xN2 {nf:Nat→Nat} (H:SFam nf) (hC:Cmp g c f cap L o S cm) {a b:Nat} (hab:a < b) (hb:b≤L.length) {l:List α} {S1:St} {K:AV→St→Prop} (hl:l.Perm L) (hS:Srt c S o l S1)
  (hk:∀l' S',l'.Perm L→Srt c S o l' S'→K (.tuple []) S'):Cal P g (nf 3) [.sl 1 o 0 L.length,.int .i64 (a:Int),.int .i64 (b:Int),.func (.func f) [] cap] S1 K:=by
 refine H.c3.in (by simp) ?_
 have hc1:=hC.one
 have hcc:=hC.cells
 have hlen:=hC.len
 have e1:IntKind.i64.wrap ((b:Int) - 1)=((b - 1:Nat):Int):=by rw [xAa (by omega)];omega
 simp [sk3,e1]
 refine W.whileI (fun (z:Nat) F S'=>∃ i j:Nat,z=j + 1 - i∧a≤i∧j < b∧F 0=.sl 1 o 0 L.length∧F 8=.int .i64 i∧F 9=.int .i64 j∧∃ l':List α,l'.Perm L∧Srt c S o l' S') (fun z=>z) ?_ (b - a) _ _ ?_
 ·rintro z F S' ⟨i,j,rfl,hi,hj,h0,h8,h9,l',hp,hs⟩
  have hpl:=hp.length_eq
  by_cases hlt:i < j
  ·have e4:=wrapS i (by omega)
   have e5:IntKind.i64.wrap ((j:Int) - 1)=((j - 1:Nat):Int):=by rw [xAa (by omega)];omega
   have hil:i < L.length:=by omega
   have hjl:j < L.length:=by omega
   obtain ⟨x,hx⟩:∃ x,l'[i]?=some x:=⟨_,xgG (by omega)⟩
   obtain ⟨y,hy⟩:∃ y,l'[j]?=some y:=⟨_,xgG (by omega)⟩
   have ho:=hs.2
   simp [h8,h9,hlt]
   refine Dra.auto [] mix ?_ ?_
   ·kernel_rfl
   simp [classes,h0,h8,h9,xAd hil,xAd hjl,hx,hy,cel,hc1,hcc,ho,e4,e5,show ¬ i=j by omega]
   refine ⟨j - 1 + 1 - (i + 1),by omega,i + 1,j - 1,rfl,by omega,by omega,by omega,by omega,(l'.set i y).set j x,(xAm hx hy).trans hp,?_⟩
   have:=hs.put (l':=(l'.set i y).set j x)
   rw [← xAg,← xAg] at this
   rw [xAk]
   exact this
  ·simp [h8,h9,hlt]
   exact hk l' S' hp hs
 ·simp
  exact ⟨a,b - 1,by omega,by omega,by omega,rfl,by omega,l,hl,hS⟩
theorem xHY {nf:Nat→Nat} (H:SFam nf) (hC:Cmp g c f cap L o S cm) {a b q:Nat} {n:Int} (ha:a < L.length) (hb:b < L.length) {l:List α} {S1:St} {K:AV→St→Prop} (hl:l.Perm L) (hS:Srt c S o l S1) (hq:S.next≤q) (hqo:S1.obj q=some (.row 1 [[.int .i64 n]]))
  (hk:∀(S':St) (a' b':Nat) (n':Int),a' < L.length→b' < L.length→(a'=a ∨ a'=b)→(b'=a ∨ b'=b)→Srt c S o l S'→S'.obj q=some (.row 1 [[.int .i64 n']])→S'.next=S1.next→K (.tuple [.int .i64 (a':Int),.int .i64 (b':Int)]) S') :
  Cal P g (nf 12) [.sl 1 o 0 L.length,.int .i64 (a:Int),.int .i64 (b:Int),.ptr q 0 0,.func (.func f) [] cap] S1 K:=by
 refine H.c12.in (by simp) ?_
 have hpl:=hl.length_eq
 have ho:=hS.2
 obtain ⟨x,hx⟩:∃ x,l[a]?=some x:=⟨_,xgG (by omega)⟩
 obtain ⟨y,hy⟩:∃ y,l[b]?=some y:=⟨_,xgG (by omega)⟩
 have hxm:x ∈ L:=hl.mem_iff.1 (xmG hx)
 have hym:y ∈ L:=hl.mem_iff.1 (xmG hy)
 simp [sk12]
 refine Dra.auto [9] mix ?_ ?_
 ·kernel_rfl
 simp [classes,xAd ha,xAd hb,hx,hy,cel,ho]
 refine ⟨_,_,hC.cal y hym x hxm l S1 hS,?_⟩
 simp
 by_cases hc:cm y x < 0
 ·simp [hc,hqo]
  exact hk _ b a (IntKind.i64.wrap (n + 1)) hb ha (.inr rfl) (.inl rfl) (hS.set hq hC _) (by simp) (by simp)
 ·simp [hc]
  exact hk _ a b n ha hb (.inl rfl) (.inr rfl) hS hqo rfl
theorem xHZ {nf:Nat→Nat} (H:SFam nf) (hC:Cmp g c f cap L o S cm) {a b d q:Nat} {n:Int} (ha:a < L.length) (hb:b < L.length) (hd:d < L.length) {l:List α} {S1:St} {K:AV→St→Prop} (hl:l.Perm L) (hS:Srt c S o l S1) (hq:S.next≤q) (hqo:S1.obj q=some (.row 1 [[.int .i64 n]]))
  (hk:∀(S':St) (m:Nat) (n':Int),m < L.length→(m=a ∨ m=b ∨ m=d)→Srt c S o l S'→S'.obj q=some (.row 1 [[.int .i64 n']])→S'.next=S1.next→K (.int .i64 (m:Int)) S') :
  Cal P g (nf 2) [.sl 1 o 0 L.length,.int .i64 (a:Int),.int .i64 (b:Int),.int .i64 (d:Int),.ptr q 0 0,.func (.func f) [] cap] S1 K:=by
 refine H.c2.in (by simp) ?_
 simp [sk2]
 refine xHY H hC ha hb hl hS hq hqo fun S2 a2 b2 n2 ha2 hb2 ma mb hS2 hq2 hn2=>?_
 simp
 refine xHY H hC hb2 hd hl hS2 hq hq2 fun S3 b3 d3 n3 hb3 hd3 mb3 md3 hS3 hq3 hn3=>?_
 simp
 refine xHY H hC ha2 hb3 hl hS3 hq hq3 fun S4 a4 b4 n4 ha4 hb4 ma4 mb4 hS4 hq4 hn4=>?_
 simp
 exact hk S4 b4 n4 hb4 (by omega) hS4 hq4 (by omega)
theorem xEF {nf:Nat→Nat} (H:SFam nf) (hC:Cmp g c f cap L o S cm) {a q:Nat} {n:Int} (ha0:1≤a) (ha:a + 1 < L.length) {l:List α} {S1:St} {K:AV→St→Prop} (hl:l.Perm L) (hS:Srt c S o l S1) (hq:S.next≤q) (hqo:S1.obj q=some (.row 1 [[.int .i64 n]]))
  (hk:∀(S':St) (m:Nat) (n':Int),a - 1≤m→m≤a + 1→Srt c S o l S'→S'.obj q=some (.row 1 [[.int .i64 n']])→S'.next=S1.next→K (.int .i64 (m:Int)) S') :
  Cal P g (nf 1) [.sl 1 o 0 L.length,.int .i64 (a:Int),.ptr q 0 0,.func (.func f) [] cap] S1 K:=by
 refine H.c1.in (by simp) ?_
 have hlen:=hC.len
 have e1:IntKind.i64.wrap ((a:Int) - 1)=((a - 1:Nat):Int):=by rw [xAa (by omega)];omega
 have e2:=wrapS a (by omega)
 simp [sk1,e1,e2]
 refine xHZ H hC (a:=a - 1) (b:=a) (d:=a + 1) (by omega) (by omega) ha hl hS hq hqo fun S2 m n2 hm hmm hS2 hq2 hn2=>?_
 simp
 exact hk S2 m n2 (by omega) (by omega) hS2 hq2 hn2
end
end Go.Proofs.YtnhfofmhkfdpgaaGreatDoor.Vm
