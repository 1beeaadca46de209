/- A part of the proof: Rh Ri Rl Rm Aa Ad Ah Ca. -/
import Derived.KernelRfl
import Derived.Test.YtnhfofmhkfdpgaaGreatDoorQ28
set_option linter.unusedVariables false
set_option linter.unusedSimpArgs false
set_option linter.constructorNameAsVariable false
namespace Go.Proofs.YtnhfofmhkfdpgaaGreatDoor.Vm
set_option maxRecDepth 100000
open Go Go.RowKit
variable {N:Nat} {g:Glob}
def prc (m:List Int):List AV:=[encF intc 1 m]
structure CFun (S:St) (p:Nat) (f:Fun) (prV:AV):Prop where
 box:S.obj p=some (.row 4 [[.int .i64 f.par,.int .i64 f.vars,f.blksV,prV]])
 pre:Has prc 1 S prV ((List.range f.blks.length).map fun i:Nat=>f.preds i)
 lt:p < S.next
theorem xJP {S:St} {p o i:Nat} {f:Fun} {prV:AV} {x:List Env} {K:AV->St->Prop} (hf:f.Small) (hS:CFun S p f prV) (hb:Bel S prV) (hi:i < f.blks.length) (hx:S.obj o=some (.row 2 (els envc x))) (ho:o < S.next) (hxl:x.length=f.blks.length) (hxo:∀e ∈ x,Env.fit f.wid e)
  (hk:∀S',Up S S'->K (.agg (envc (f.cev x i))) S'):Cal P (gl N) 101 [.ptr p 0 0,.int .i64 (i:Int),.sl 2 o 0 f.blks.length] S K:=by
 refine Cal.inF (by kernel_rfl) ?_
 have hwl:=f.wid_lt
 have hbox:=hS.box
 have hlt:=hS.lt
 have hbl:=hf.blks
 obtain ⟨r,hr1,hr2,hr3⟩:=hS.pre.idx (k:=i) (x:=f.preds i) (by simp [hi])
 have hrl:r < S.next:=hb _ _ _ hr1
 have hpf:FSl intc 1 (encF intc 1 (f.preds i)) (f.preds i):=xAl
 have hpm:∀j ∈ f.preds i,∃ k:Nat,j=(k:Int)/\k < f.blks.length:=fun j hj=>by
  obtain ⟨k,y,h1,h2,_⟩:=Fun.preds_mem.1 hj
  exact ⟨k,h1,(xgS h2).1⟩
 have hpl:(f.preds i).length<=f.blks.length:=f.predsTo_len _ _
 have hgr:((List.range f.blks.length).map fun i:Nat=>f.preds i)[i]?=some (f.preds i):=by simp [hi]
 generalize hm:f.preds i=m at *
 conv=>arg 3;reduce
 simp [hbox,show ¬ p=S.next by omega,show ¬ p=S.next + 1 by omega]
 refine xAj (fun h0=>?_) (fun h0=>?_)
 all_goals simp [hbox,show ¬ p=S.next by omega,show ¬ p=S.next + 1 by omega]
 all_goals try
  refine (xJI f).use (n:=9) (by simp [mapOpt,xAc f.blksS.stab]) (by simp [solids,AV.solid,f.blksS.solid]) ?_
  simp [hbox,show ¬ p=S.next by omega,show ¬ p=S.next + 1 by omega]
 all_goals
  simp [hr3,hr2,hgr,prc,show ¬ r=S.next by omega,show ¬ r=S.next + 1 by omega,hpf.len]
  refine W.whileI (fun (a:Nat) F S2=>a<=m.length/\F 0=.ptr p 0 0/\F 2=.sl 2 o 0 f.blks.length/\F 6=.ptr S.next 0 0/\F 7=.ptr (S.next + 1) 0 0/\F 24=encF intc 1 m/\F 25=.int .i64 m.length/\F 26=.int .i64 a/\Up S S2/\S.next + 2<=S2.next /\
   S2.obj S.next=some (.row 2 [[.bool false,.nilsl]])/\S2.obj (S.next + 1)=some (.row 2 [envc (f.cevTo x i (m.take a))])) (fun a=>m.length - a) ?_ 0 _ _ ?_
  ·rintro a F S2 ⟨ha,f0,f2,f6,f7,f24,f25,f26,hup,hn2,s6,s7⟩
   by_cases hlt2:a < m.length
   ·have e4:=wrapS a (by omega)
    obtain ⟨j,hj⟩:∃ j,m[a]?=some j:=⟨_,xgG hlt2⟩
    obtain ⟨jn,rfl,hjn⟩:=hpm j (xmG hj)
    obtain ⟨ej,hej⟩:∃ e,x[jn]?=some e:=⟨_,xgG (by omega)⟩
    obtain ⟨y,hy⟩:∃ y,f.blks[jn]?=some y:=⟨_,xgG hjn⟩
    have hst:f.cevTo x i (m.take (a + 1))=(f.cevTo x i (m.take a)).join (pastL ej y.ins):=by
     unfold Fun.cevTo
     rw [xAi _ _ _ _ _ hj]
     simp [List.getD_eq_getElem?_getD,hej,Fun.code,hy]
    have hb2:S2.obj p=some (.row 4 [[.int .i64 f.par,.int .i64 f.vars,f.blksV,prV]]):=by rw [hup.2 p hlt];exact hbox
    have hx2:S2.obj o=some (.row 2 (els envc x)):=by rw [hup.2 o ho];exact hx
    have hil:=hf.ins y (xmG hy)
    have hfe:ej.fit f.wid:=hxo ej (xmG hej)
    simp [f25,f26,hlt2]
    simp [f24,f26,hpf.idx hj,intc]
    refine Dra.auto [] mix ?_ ?_
    ·kernel_rfl
    simp [classes,f0,f2,f7,s7,xAd hjn,hx2,hej,hb2,f.blksS.idx hy]
    refine (xGw ej y.ins y.insV y.insS (by omega) (hfe.small hwl)).b (n:=9) (by simp [mapOpt]) (by simp [solids,AV.solid,y.insS.solid]) ?_
    simp
    refine (xJH (f.cevTo x i (m.take a)) (pastL ej y.ins) ((f.cevTo_fit hxo i _).small hwl) ((xBN hfe).small hwl)).b (n:=9) (by simp [mapOpt]) (by simp [solids,AV.solid]) ?_
    simp [f0,f2,f6,f7,f24,f25,f26,e4,s7]
    exact ⟨a + 1,by omega,by omega,by omega,hup.put (by omega) _,hn2,s6,by rw [hst]⟩
   ·have:a=m.length:=by omega
    subst this
    rw [List.take_length] at s7
    have hcv:f.cevTo x i m=f.cev x i:=by rw [<- hm];rfl
    rw [hcv] at s7
    simp [f25,f26,f7,f6,s7,s6]
    exact hk _ (hup.put (Nat.le_refl _) _)
  ·simp [h0]
   refine ⟨⟨by simp;omega,fun q hq=>by simp [show ¬ q=S.next by omega,show ¬ q=S.next + 1 by omega]⟩,?_⟩
   simp [Fun.cevTo,h0,Fun.start]
def Fun.pgr (f:Fun):List (List Int):=(List.range f.blks.length).map fun i:Nat=>f.preds i
theorem xPc {S:St} {f:Fun} {prV:AV} (h:Has prc 1 S prV f.pgr) (hne:0 < f.blks.length) {n:Nat}:Vm.pict S [] (n + 3) prV=some (.fsl 1 (els prc f.pgr)):=by
 rcases h with ⟨_,h⟩ | ⟨q,rfl,hq,_⟩
 ·simp [Fun.pgr] at h;rw [h] at hne;simp at hne
 ·refine xAr hq (by simp) (by simp) fun k e he=>?_
  simp only [els,List.getElem?_map] at he ⊢
  cases hz:f.pgr[k]? with
  | none=>rw [hz] at he;cases he
  | some m =>
   rw [hz] at he;cases he
   have hf:FSl intc 1 (encF intc 1 m) m:=xAl
   simp [mapOpt,prc,xAc hf.stab]
theorem xVL (f:Fun):GrV (.fsl 1 (els prc f.pgr)) f.pgr:=by
 refine .inr ⟨f.pgr.map (encF intc 1),by simp [els,prc],by simp,fun k w m hw hm=>?_⟩
 rw [List.getElem?_map,hm] at hw
 cases hw
 exact xAl
theorem xDI (p:Prg) (i:Int) (hp:p.Fit) {f:Fun} (hf:p.fn i=some f):Ret P (gl N) false 63 [encP p,.int .i64 i] (.fsl 2 (els envc f.cin)):=by
 have hok:=xOY hf
 have hl:=hok.len
 have hsm:=xJr hp hf
 refine Ret.in c63 (by simp) ?_
 simp [k63]
 refine (xEf p i hp).use (n:=9) (by simp [mapOpt,xAc p.funsS.stab]) (by simp [solids,AV.solid,p.funsS.solid]) ?_
 simp [hf]
 have hpr:∀b,p.preds i b=f.preds b:=fun b=>by simp [Prg.preds,hf]
 refine W.whileI (fun (a:Nat) F S=>a<=f.blks.length/\F 1=.int .i64 i/\F 2=.ptr 0 0 0/\F 5=.ptr 1 0 0/\F 7=.ptr 2 0 0/\Has natc 1 S (F 8) (List.range a)/\Bel S (F 8)/\F 25=.int .i64 f.blks.length/\F 26=.int .i64 a/\2 < S.next/\(∀q c sz,F 8=.sl sz q 0 c->3<=q) /\
  S.obj 0=some (.row 1 [[p.funsV]])/\S.obj 1=some (.row 3 [func f])/\∃ pv,S.obj 2=some (.row 4 [[.int .i64 f.par,.int .i64 f.vars,f.blksV,pv]])/\pv.one=true/\Has prc 1 S pv ((List.range a).map fun i:Nat=>f.preds i)/\Bel S pv/\Sep (F 8) pv/\(∀q c sz,pv=.sl sz q 0 c->3<=q)) (fun a=>f.blks.length - a) ?_ 0 _ _ ?_
 ·rintro a F S ⟨ha,f1,f2,f5,f7,h8,b8,f25,f26,hn,n8,s0,s1,pv,s2,o2,hpv,bpv,hsep,npv⟩
  by_cases hlt:a < f.blks.length
  ·have e4:=wrapS a (by omega)
   have hl12:=hl.2
   simp [f25,f26,hlt]
   refine Dra.auto [] mix ?_ ?_
   ·kernel_rfl
   simp [classes,f1,f2,f7,s0,s2,f26]
   refine (xET p i a hp).ret.b (n:=9) (by simp [mapOpt,xAc p.funsS.stab]) rfl ?_
   rw [hpr]
   have hcl:(encF intc 1 (f.preds a)).cells=[encF intc 1 (f.preds a)]:=FSl.cells xAl
   simp [hcl]
   refine xA7 (e:=prc) (x:=f.preds a) (hpv.new bpv) (by have:=xAN (xAl (e:=intc) (sz:=1) (l:=f.preds a));simp [okEl,prc,this]) (by simp [room];omega) fun S1 k1 k2 k3=>?_
   simp at k2 k3
   have o1:∀q,q < 3->S1.obj q=S.obj q:=fun q hq=>by
    rw [k3 q (by omega) fun len h=>by have:=npv _ _ _ h;omega,if_neg (by omega)]
   have h81:Has natc 1 S1 (F 8) (List.range a):=h8.keep fun q ⟨len,hq⟩=>by
    have hq1:=b8 _ _ _ hq
    rw [k3 q (by omega) fun c hc=>hsep _ _ _ _ _ hq hc,if_neg (by omega)]
   simp [f7,o1 2 (by omega),s2]
   generalize hS2:S1.set 2 (.row 4 [[.int .i64 f.par,.int .i64 f.vars,f.blksV,.sl 1 (S.next + 1) 0 (a + 1)]])=S2
   have n2:S2.next=S.next + 2:=by rw [<- hS2];simp [k2]
   have o2:∀q,q ≠ 2->S2.obj q=S1.obj q:=fun q hq=>by rw [<- hS2];simp [hq]
   have o22:S2.obj 2=some (.row 4 [[.int .i64 f.par,.int .i64 f.vars,f.blksV,.sl 1 (S.next + 1) 0 (a + 1)]]):=by rw [<- hS2];simp
   clear hS2
   have h82:Has natc 1 S2 (F 8) (List.range a):=h81.keep fun q ⟨len,hq⟩=>o2 q fun e=>by have:=n8 _ _ _ hq;omega
   have b82:Bel S2 (F 8):=b8.mono (by omega)
   refine xA7 (e:=natc) (x:=a) (h82.new b82) rfl (by simp [room];omega) fun S3 m1 m2 m3=>?_
   simp at m2 m3
   have o3:∀q,q < S2.next->(∀len,F 8 ≠ .sl 1 q 0 len)->S3.obj q=S2.obj q:=fun q hq hv=>by rw [m3 q (by omega) hv,if_neg (by omega)]
   simp [f1,f2,f5,f7,f25,f26,e4]
   simp only [xCL,List.length_map,List.length_range] at k1
   simp only [xCL,List.length_range] at m1
   have q8:∀q,q < 3->∀len,F 8 ≠ .sl 1 q 0 len:=fun q hq len h=>by have:=n8 _ _ _ h;omega
   refine ⟨a + 1,by omega,by omega,by rw [List.range_succ];exact m1,Bel.sl (by omega),by omega,by omega,by omega,?_,?_,.sl 1 (S.next + 1) 0 (a + 1),?_,rfl,?_,Bel.sl (by omega),?_,?_⟩
   ·rw [o3 0 (by omega) (q8 0 (by omega)),o2 0 (by omega),o1 0 (by omega)];exact s0
   ·rw [o3 1 (by omega) (q8 1 (by omega)),o2 1 (by omega),o1 1 (by omega)];exact s1
   ·rw [o3 2 (by omega) (q8 2 (by omega))];exact o22
   ·rw [List.range_succ,List.map_append]
    refine Has.keep (S:=S2) (k1.keep fun q ⟨len,hq⟩=>?_) fun q ⟨len,hq⟩=>?_
    ·cases hq;exact o2 _ (by omega)
    ·cases hq;exact o3 _ (by omega) fun c h=>by have:=b8 _ _ _ h;omega
   ·intro sz sz' q a b h1 h2
    cases h1
    simp at h2;omega
   ·intro q c sz h
    cases h;omega
  ·have:a=f.blks.length:=by omega
   subst this
   have hroom:f.blks.length<=room:=by simp [room];omega
   simp [f25,f26,f5,s1,hroom,f7,s2,show ¬ 2=S.next by omega]
   generalize hS1:S.new (.row 2 (List.replicate f.blks.length [.bool false,.nilsl]))=S1
   have n1:S1.next=S.next + 1:=by rw [<- hS1];simp
   have o1:∀q,q < S.next->S1.obj q=S.obj q:=fun q hq=>by rw [<- hS1];simp [show ¬ q=S.next by omega]
   have oo:S1.obj S.next=some (.row 2 (els envEl.e (List.replicate f.blks.length Option.none))):=by rw [<- hS1];simp [els,El.e,envEl]
   clear hS1
   have hpv1:Has prc 1 S1 pv f.pgr:=hpv.keep fun q ⟨len,hq⟩=>o1 q (bpv _ _ _ hq)
   have h81:Has natc 1 S1 (F 8) (List.range f.blks.length):=h8.keep fun q ⟨len,hq⟩=>o1 q (b8 _ _ _ hq)
   refine xFv (Y:=f.csys) (E:=envEl) (G:=f.pgr) (z:=.bool false) c102 (by have:=hl.2;show f.blks.length<=100;omega) (by rw [hpv1.len];simp [Fun.pgr];rfl) (xPc hpv1 hl.1) (xVL f) (by simp [Fun.pgr];rfl) ?_ ?_ ?_ oo (by omega) (by rw [h81.len];simp;rfl) ?_ ?_
   ·intro m hm
    simp only [Fun.pgr,List.mem_map,List.mem_range] at hm
    obtain ⟨k,hk,rfl⟩:=hm
    have h1:=f.predsTo_len (k:Int) f.blks.length
    refine ⟨by show (f.preds k).length < 2 ^ 30;unfold Fun.preds;omega,fun j hj=>?_⟩
    obtain ⟨k2,y,rfl,h2,_⟩:=Fun.preds_mem.1 hj
    have:=(xgS h2).1
    exact ⟨by omega,by show (k2:Int) < f.blks.length;omega⟩
   ·intro k m hm
    simp only [Fun.pgr,List.getElem?_map] at hm
    by_cases hk:k < f.blks.length
    ·rw [List.getElem?_range hk] at hm
     exact Option.some.inj hm
    ·rw [List.getElem?_eq_none (by simpa using hk)] at hm;cases hm
   ·refine ⟨fun S2 x k K' hx hk hn2 hr hkeep hK'=>?_,fun a b ha hb=>⟨decide (a=b),by simp,?_⟩⟩
    ·rw [xJM] at hr
     have hb2:S2.obj 2=some (.row 4 [[.int .i64 f.par,.int .i64 f.vars,f.blksV,pv]]):=by rw [hkeep 2 (by omega) (by omega),o1 2 (by omega)];exact s2
     have hp2:Has prc 1 S2 pv f.pgr:=hpv1.keep fun q ⟨len,hq⟩=>hkeep q (by have:=bpv _ _ _ hq;omega) (by have:=bpv _ _ _ hq;omega)
     simp
     refine xJP (x:=x) hsm ⟨hb2,hp2,by omega⟩ (bpv.mono (by omega)) hk hr (by omega) hx.len hx.ok fun S3 hup=>?_
     have:=hK' S3 hup
     rwa [xIx] at this
    ·rw [xIx,xIx]
     exact xK0 a b (Env.fit.small ha f.wid_lt)
   ·intro S2 hup a ha
    rcases h81 with ⟨_,h⟩ | ⟨q,hq,ho,_⟩
    ·have:f.blks.length=0:=by simpa using h
     omega
    ·have hq1:=b8 _ _ _ hq
     have ha':a < f.blks.length:=ha
     refine ⟨.ptr q a 0,by rw [hq,xAd (by simpa using ha')];simp,?_⟩
     simp [hup.2 q (by omega),ho,ha',natc,els]
   ·intro S2 hr hn2 hkeep
    rw [xJM] at hr
    simp
    refine ⟨9,?_⟩
    have hlen:f.cin.length=f.blks.length:=f.cin_len
    refine xAr hr (by simp;exact hlen) (by simp;exact hlen) fun k e he=>?_
    simp only [els,List.getElem?_map] at he ⊢
    cases hz:f.csys.sol[k]? with
    | none=>rw [hz] at he;cases he
    | some m =>
     rw [hz] at he;cases he
     have hz':f.cin[k]?=some m:=hz
     rw [hz']
     exact xM8 m
 ·simp
  exact ⟨Has.nil,Bel.nil,Has.nil,Bel.nil,Sep.nilL⟩
noncomputable def Prg.cin (p:Prg) (i:Int):List Env:=match p.fn i with
 | none=>[]
 | some f=>f.cin
noncomputable def Fun.cat (f:Fun) (j:Nat) (k:Nat):Env:=pastL (f.cin.getD j Option.none) ((f.code j).take k)
noncomputable def Prg.cat (p:Prg) (i j k:Int):Env:=match p.fn i with
 | none=>Option.none
 | some f=>match f.blk j with
  | none=>Option.none
  | some b=>if 0<=k/\k<=b.ins.length then f.cat j.toNat k.toNat else Option.none
theorem FSl.upto {α:Type} {e:α->List AV} {sz:Nat} {v:AV} {l:List α} (h:FSl e sz v l) {k:Nat} (hk:k<=l.length):∃ v',pk (.slice sz false true false) [v,.int .i64 (k:Int)]=some v'/\FSl e sz v' (l.take k):=by
 rcases h with rfl | ⟨rfl,rfl⟩
 ·refine ⟨.fsl sz (els e (l.take k)),?_,.inl rfl⟩
  simp [pk,bnds,hk,els]
 ·refine ⟨.nilsl,?_,.inr ⟨rfl,by simp⟩⟩
  have:k=0:=by simpa using hk
  subst this
  simp [pk,bnds]
theorem xJQ (p:Prg) (i j k:Int) (hp:p.Fit):Ret P (gl N) false 36 [encP p,.int .i64 i,.int .i64 j,.int .i64 k] (encE (p.cat i j k)):=by
 refine Ret.inF (by kernel_rfl) ?_
 conv=>arg 3;reduce
 simp
 refine (xCx p i j hp).use (n:=9) (by simp [mapOpt,xAc p.funsS.stab]) (by simp [solids,AV.solid,p.funsS.solid]) ?_
 simp
 cases hb:p.blk i j with
 | none =>
  have hat:p.cat i j k=Option.none:=by
   unfold Prg.cat
   split
   ·rfl
   ·rename_i f hf
    have:f.blk j=Option.none:=by simpa [Prg.blk,hf] using hb
    rw [this]
  simp
  rw [hat]
  exact RK.agg (by simp [AV.stab])
 | some b =>
  obtain ⟨f,hf,hfb⟩:∃ f,p.fn i=some f/\f.blk j=some b:=by
   unfold Prg.blk at hb
   cases hf:p.fn i with
   | none=>rw [hf] at hb;cases hb
   | some f=>rw [hf] at hb;exact ⟨f,rfl,hb⟩
  have hbj:f.live j=true/\f.blks[j.toNat]?=some b:=by
   unfold Fun.blk at hfb
   split at hfb
   ·rename_i h;exact ⟨h,hfb⟩
   ·cases hfb
  have hat:p.cat i j k=if 0<=k/\k<=b.ins.length then f.cat j.toNat k.toNat else Option.none:=by
   unfold Prg.cat
   rw [hf];simp only [hfb]
  simp
  refine xAP (fun h1=>?_) (fun h1=>?_) <;> simp [h1,b.insS.len]
  ·refine xAj (fun h2=>?_) (fun h2=>?_) <;> simp [h2]
   ·rw [hat,if_neg (by omega)]
    exact RK.agg (by simp [AV.stab])
   ·obtain ⟨kn,rfl⟩:∃ n:Nat,k=(n:Int):=⟨k.toNat,by omega⟩
    obtain ⟨jn,rfl⟩:∃ n:Nat,j=(n:Int):=⟨j.toNat,by have:=(xCP hbj.1).1;omega⟩
    obtain ⟨v',hv',hvf⟩:=b.insS.upto (k:=kn) (by omega)
    have hbl:=(xJr hp hf).ins b (xmG hbj.2)
    have hjl:=(xCP hbj.1).2.1
    have hci:f.cin[jn]?=some (f.cin.getD jn Option.none):=by
     have:jn < f.cin.length:=by rw [f.cin_len];omega
     simp [List.getD_eq_getElem?_getD,xgG this]
    have hcf:FSl envc 2 (.fsl 2 (els envc f.cin)) f.cin:=FSl.mk
    have hco:f.code jn=b.ins:=by have:=hbj.2;simp only [Int.toNat_natCast] at this;simp [Fun.code,this]
    refine Dra.auto [] mix ?_ ?_
    ·kernel_rfl
    simp [classes]
    refine (xDI p i hp hf).b (n:=9) (by simp [mapOpt,xAc p.funsS.stab]) (by simp [solids,AV.solid,p.funsS.solid]) ?_
    simp [hcf.idx hci,hv']
    refine (xGw (f.cin.getD jn Option.none) (b.ins.take kn) v' hvf (by simp;omega) ((f.cin_fit jn).small f.wid_lt)).b (n:=9) (by simp [mapOpt,xAc hvf.stab]) (by simp [solids,AV.solid,hvf.solid]) ?_
    simp
    rw [hat,if_pos (by omega)]
    exact RK.env (by simp [Fun.cat,hco])
  ·rw [hat,if_neg (by omega)]
   exact RK.agg (by simp [AV.stab])
theorem xJR (p:Prg) (i j k v:Int) (hp:p.Fit):Ret P (gl N) false 32 [encP p,.int .i64 i,.int .i64 j,.int .i64 k,.int .i64 v] (encV ((p.cat i j k).get v)):=by
 refine Ret.inF (by kernel_rfl) ?_
 conv=>arg 3;reduce
 simp
 refine (xJQ p i j k hp).use (n:=9) (by simp [mapOpt,xAc p.funsS.stab]) (by simp [solids,AV.solid,p.funsS.solid]) ?_
 simp
 refine (xDT (p.cat i j k) v).use (n:=9) (by simp [mapOpt]) rfl ?_
 simp
 exact RK.agg (by simp [AV.stab])
end Go.Proofs.YtnhfofmhkfdpgaaGreatDoor.Vm
namespace Go.Proofs.YtnhfofmhkfdpgaaGreatDoor.Vm
open Go Go.RowKit
variable {N:Nat} {g:Glob}
@[simp] theorem xVR {d op b yes no}:GuaD d op b .none yes no=no:=_root_.id rfl
@[simp] theorem xWV {d op b F S K}:Gua P g .none b d op F S K=K .none S:=_root_.id rfl
theorem xPe {n:Nat} {x:Ins} {e:Env} (he:e.fit n) (h:x.def < 0):x.flat e=e:=by
 cases e with
 | none=>rfl
 | some l =>
  rw [Ins.flat,Env.set_of he _ (x.number_ok _),if_neg (by omega)]
theorem xDe {f:Fun} {j:Nat} {b:Blk} (hb:f.blks[j]?=some b):f.code j=b.ins:=by simp [Fun.code,hb]
theorem xRa {f:Fun} {j:Nat} {b:Blk} {n:Nat} {x:Ins} (hb:f.blks[j]?=some b) (hx:b.ins[n]?=some x):f.cat j (n + 1)=x.flat (f.cat j n):=by
 unfold Fun.cat pastL
 rw [xDe hb,xAi _ _ _ _ _ hx]
theorem xTc {p:Prg} {i:Int} {f:Fun} (hf:p.fn i=some f) {j:Nat} {b:Blk} (hb:f.blks[j]?=some b) (hon:b.on=true) {k:Nat} (hk:k<=b.ins.length):p.cat i j k=f.cat j k:=by
 have h:f.blk (j:Int)=some b:=by
  have:f.live (j:Int)=true:=by simp [Fun.live,hb,hon]
  simp [Fun.blk,this,hb]
 unfold Prg.cat
 rw [hf];simp only [h]
 rw [if_pos (by omega)];rfl
theorem FunOK.wid {p:Prg} {f:Fun} (h:FunOK p f):(f.wid:Int)=f.vars:=by
 have:=h.vars
 unfold Fun.varsOK at this
 unfold Fun.wid capN
 omega
def Fun.isOne (f:Fun) (b k:Nat) (x:Ins):Prop:=0<=x.def/\((f.cat b (k + 1)).get x.def).k=1
noncomputable instance (f:Fun) (b k:Nat) (x:Ins):Decidable (f.isOne b k x):=Classical.propDecidable _
theorem xLa {f:Fun} {b:Nat} (hb:b < f.blks.length):f.cin.getD b Option.none=f.cev f.cin b:=by
 have hl:b < f.cin.length:=by rw [f.cin_len];exact hb
 have h:=f.cin_least.fix b f.cin[b] (xgG hl)
 rw [List.getD_eq_getElem?_getD,xgG hl]
 exact h
theorem xRb (f:Fun) (b:Nat):f.cat b 0=f.cin.getD b Option.none:=by simp [Fun.cat,pastL]
theorem xLb {f:Fun} {b:Nat} {B:Blk} (hB:f.blks[b]?=some B):f.cat b B.ins.length=pastL (f.cin.getD b Option.none) (f.code b):=by
 unfold Fun.cat
 rw [xDe hB,List.take_length]
structure LsI (p:Prg) (f:Fun) (S:St):Prop where
 s0:S.obj 0=some (.row 1 [[p.funsV]])
 s1:S.obj 1=some (.row 3 [func f])
 n:1 < S.next
theorem LsI.up {p:Prg} {f:Fun} {S S':St} (h:LsI p f S) (hu:∀q,q < 2->S'.obj q=S.obj q) (hn:S.next<=S'.next):LsI p f S':=⟨by rw [hu 0 (by omega)];exact h.s0,by rw [hu 1 (by omega)];exact h.s1,by have:=h.n;omega⟩
end Go.Proofs.YtnhfofmhkfdpgaaGreatDoor.Vm
namespace Go.Proofs.YtnhfofmhkfdpgaaGreatDoor.Vm
open Go Go.RowKit
set_option maxRecDepth 100000
variable {N:Nat} {g:Glob}
theorem xPg {α:Type} {p q:α->Bool} (h:∀x,p x=true->q x=true):∀l:List α,(l.filter p).length<=(l.filter q).length
 | []=>Nat.le_refl _
 | x :: l=>by
  have ih:=xPg h l
  simp only [List.filter_cons]
  by_cases hp:p x=true
  ·simp [hp,h x hp,ih]
  ·by_cases hq:q x=true
   ·simp [hp,hq];omega
   ·simp [hp,hq,ih]
theorem xPh {α:Type} {p q:α->Bool} (h:∀x,p x=true->q x=true) {a:α}:∀l:List α,a ∈ l->p a=false->q a=true->(l.filter p).length < (l.filter q).length
 | [],ha,_,_=>by cases ha
 | x :: l,ha,h1,h2=>by
  have ih:=xPg h l
  simp only [List.filter_cons]
  rcases List.mem_cons.1 ha with rfl | ha
  ·simp [h1,h2];omega
  ·have ih2:=xPh h l ha h1 h2
   by_cases hp:p x=true
   ·simp [hp,h x hp,ih2]
   ·by_cases hq:q x=true
    ·simp [hp,hq];omega
    ·simp [hp,hq,ih2]
structure Flw where
 w:Nat
 rs:List (List Int)
 gen:List BSet
 kill:List BSet
def GoodW (w:Nat) (x:List BSet):Prop:=∀s ∈ x,s.OK/\s.n=w
theorem GoodW.at {w:Nat} (hw:w<=1024) {x:List BSet} (h:GoodW w x) (i:Nat):(x.getD i (BSet.new w)).OK/\(x.getD i (BSet.new w)).n=w:=by
 rw [List.getD_eq_getElem?_getD]
 cases hx:x[i]? with
 | none=>exact ⟨BSet.new_ok hw,rfl⟩
 | some s=>exact h s (xmG hx)
structure Flw.OK (F:Flw):Prop where
 w:F.w<=128
 n0:0 < F.rs.length
 n:F.rs.length<=12
 gl:F.gen.length=F.rs.length
 kl:F.kill.length=F.rs.length
 g:GoodW F.w F.gen
 k:GoodW F.w F.kill
 r:∀m ∈ F.rs,m.length < 64/\∀j ∈ m,0<=j/\j < F.rs.length
def orAll (w:Nat) (x:List BSet) (js:List Int):BSet:=js.foldl (fun s j=>s.or (x.getD j.toNat (BSet.new w))) (BSet.new w)
theorem xHD {w:Nat} (hw:w<=1024) {x:List BSet} (h:GoodW w x) (js:List Int):∀s:BSet,s.OK->s.n=w->((js.foldl (fun s j=>s.or (x.getD j.toNat (BSet.new w))) s).OK/\(js.foldl (fun s j=>s.or (x.getD j.toNat (BSet.new w))) s).n=w /\
  ∀v,(js.foldl (fun s j=>s.or (x.getD j.toNat (BSet.new w))) s).mem v=(s.mem v || js.any fun j=>(x.getD j.toNat (BSet.new w)).mem v)):=by
 induction js with
 | nil=>intro s hs hn;exact ⟨hs,hn,fun v=>by simp⟩
 | cons j js ih =>
  intro s hs hn
  have hj:=h.at hw j.toNat
  obtain ⟨h1,h2,h3⟩:=ih (s.or (x.getD j.toNat (BSet.new w))) (BSet.or_ok hs hj.1) (by rw [BSet.or_n,hn,hj.2];exact Nat.max_self w)
  refine ⟨h1,h2,fun v=>?_⟩
  rw [List.foldl_cons,h3 v,BSet.or_mem hs hj.1,List.any_cons,Bool.or_assoc]
theorem xIA {w:Nat} (hw:w<=1024) {x:List BSet} (h:GoodW w x) (js:List Int):(orAll w x js).OK/\(orAll w x js).n=w:=by
 obtain ⟨h1,h2,_⟩:=xHD hw h js (BSet.new w) (BSet.new_ok hw) rfl
 exact ⟨h1,h2⟩
theorem xJT {w:Nat} (hw:w<=1024) {x:List BSet} (h:GoodW w x) (js:List Int) (v:Nat):(orAll w x js).mem v=js.any fun j=>(x.getD j.toNat (BSet.new w)).mem v:=by
 rw [orAll,(xHD hw h js (BSet.new w) (BSet.new_ok hw) rfl).2.2 v,BSet.new_mem,Bool.false_or]
theorem xLc (a b:BSet):(a.minus b).n=max a.n b.n:=rfl
def Flw.ev (F:Flw) (x:List BSet) (i:Nat):BSet:=(F.gen.getD i (BSet.new F.w)).or ((orAll F.w x (F.rs.getD i [])).minus (F.kill.getD i (BSet.new F.w)))
variable {F:Flw}
theorem Flw.OK.lt (hF:F.OK):F.w<=1024:=by have:=hF.w;omega
theorem Flw.ev_ok (hF:F.OK) {x:List BSet} (h:GoodW F.w x) (i:Nat):(F.ev x i).OK/\(F.ev x i).n=F.w:=by
 have h1:=xIA hF.lt h (F.rs.getD i [])
 have h2:=hF.g.at hF.lt i
 have h3:=hF.k.at hF.lt i
 refine ⟨BSet.or_ok h2.1 (BSet.minus_ok h1.1 h3.1),?_⟩
 rw [Flw.ev,BSet.or_n,xLc,h1.2,h2.2,h3.2,Nat.max_self,Nat.max_self]
theorem Flw.ev_mem (hF:F.OK) {x:List BSet} (h:GoodW F.w x) (i v:Nat):(F.ev x i).mem v=((F.gen.getD i (BSet.new F.w)).mem v || (((F.rs.getD i []).any fun j=>(x.getD j.toNat (BSet.new F.w)).mem v) && !(F.kill.getD i (BSet.new F.w)).mem v)):=by
 have h1:=xIA hF.lt h (F.rs.getD i [])
 have h2:=hF.g.at hF.lt i
 have h3:=hF.k.at hF.lt i
 rw [Flw.ev,BSet.or_mem h2.1 (BSet.minus_ok h1.1 h3.1),BSet.minus_mem h1.1 h3.1,xJT hF.lt h]
theorem Flw.rd_in (hF:F.OK) (i:Nat):(F.rs.getD i []).length < 64/\∀j ∈ F.rs.getD i [],0<=j/\j < F.rs.length:=by
 rw [List.getD_eq_getElem?_getD]
 cases hm:F.rs[i]? with
 | none=>exact ⟨by simp,fun j h=>by simp at h⟩
 | some m=>exact hF.r m (xmG hm)
theorem xHE {w k:Nat} {x:List BSet} {a:BSet}:∀(js:List Int) (s:BSet),(∀j ∈ js,j.toNat ≠ k)->js.foldl (fun s j=>s.or ((x.set k a).getD j.toNat (BSet.new w))) s=js.foldl (fun s j=>s.or (x.getD j.toNat (BSet.new w))) s
 | [],s,_=>rfl
 | j :: js,s,h=>by
  rw [List.foldl_cons,List.foldl_cons,xHE js _ fun i hi=>h i (by simp [hi])]
  have:(x.set k a).getD j.toNat (BSet.new w)=x.getD j.toNat (BSet.new w):=by
   rw [List.getD_eq_getElem?_getD,List.getD_eq_getElem?_getD,List.getElem?_set_ne (Ne.symm (h j (by simp)))]
  rw [this]
def setHt (w:Nat) (s:BSet):Nat:=((List.range w).filter fun v=>s.mem v).length
def setLe (a b:BSet):Prop:=∀v,a.mem v=true->b.mem v=true
def Flw.sys (F:Flw) (hF:F.OK):Sys BSet where
 n:=F.rs.length
 ev:=F.ev
 rd i:=F.rs.getD i []
 ok s:=s.OK/\s.n=F.w
 le:=setLe
 bot:=BSet.new F.w
 ht:=setHt F.w
 top:=F.w
 refl a _:=fun _ h=>h
 trans a b c _ _ _ h1 h2:=fun v h=>h2 v (h1 v h)
 anti a b ha hb h1 h2:=BSet.ext ha.1 hb.1 (by rw [ha.2,hb.2]) fun v _=>by
  rw [Bool.eq_iff_iff];exact ⟨h1 v,h2 v⟩
 botOk:=⟨BSet.new_ok hF.lt,rfl⟩
 botLe a _:=fun v h=>by rw [BSet.new_mem] at h;cases h
 htop a _:=by
  have:=List.length_filter_le (fun v=>a.mem v) (List.range F.w)
  simpa [setHt] using this
 hlt a b ha hb hle hne:=by
  have hex:∃ v,v < F.w/\a.mem v=false/\b.mem v=true:=by
   apply Classical.byContradiction
   intro hno
   refine hne (BSet.ext ha.1 hb.1 (by rw [ha.2,hb.2]) fun v hv=>?_)
   rw [ha.2] at hv
   cases h1:a.mem v with
   | true=>exact (hle v h1).symm
   | false =>
    cases h2:b.mem v with
    | false=>rfl
    | true=>exact (hno ⟨v,hv,h1,h2⟩).elim
  obtain ⟨v,hv,h1,h2⟩:=hex
  exact xPh (fun x h=>hle x h) (a:=v) _ (List.mem_range.2 hv) h1 h2
 evOk x i _ hx _:=Flw.ev_ok hF hx i
 mono x y i hx hy hxo hyo hle hi:=fun v h=>by
  rw [Flw.ev_mem hF hxo] at h
  rw [Flw.ev_mem hF hyo]
  simp only [Bool.or_eq_true,Bool.and_eq_true,List.any_eq_true] at h ⊢
  rcases h with h | ⟨⟨j,hj,h⟩,hk⟩
  ·exact .inl h
  ·refine .inr ⟨⟨j,hj,?_⟩,hk⟩
   have hjl:=(Flw.rd_in hF i).2 j hj
   obtain ⟨a,ha⟩:∃ a,x[j.toNat]?=some a:=⟨_,xgG (by omega)⟩
   obtain ⟨b,hb⟩:∃ b,y[j.toNat]?=some b:=⟨_,xgG (by omega)⟩
   rw [List.getD_eq_getElem?_getD,ha] at h
   rw [List.getD_eq_getElem?_getD,hb]
   exact hle _ a b ha hb v h
 dep x i k a hno:=by
  unfold Flw.ev orAll
  rw [xHE _ _ hno]
 nn i j hj:=((Flw.rd_in hF i).2 j hj).1
noncomputable def Flw.sol (F:Flw) (hF:F.OK):List BSet:=(F.sys hF).sol
end Go.Proofs.YtnhfofmhkfdpgaaGreatDoor.Vm
namespace Go.Proofs.YtnhfofmhkfdpgaaGreatDoor.Vm
open Go Go.RowKit
variable {N:Nat} {g:Glob}
def Fun.insts (f:Fun):List Ins:=(f.blks.map Blk.ins).flatten
def Fun.dids (f:Fun) (v:Int):List Int:=sorted ((f.insts.filter fun x=>decide (x.def=v)).map Ins.id)
def Ins.reach (i:Ins) (s:BSet) (ids:List Int):BSet:=if i.def=-1 then s else (s.minus (BSet.ofL s.n ids)).with i.id
def Fun.pastD (f:Fun) (s:BSet) (l:List Ins):BSet:=l.foldl (fun s x=>if 0<=x.def then x.reach s (f.dids x.def) else s) s
def Fun.killI (f:Fun) (s:BSet) (l:List Ins):BSet:=l.foldl (fun s x=>if 0<=x.def then s.or (BSet.ofL 96 (f.dids x.def)) else s) s
def Fun.genD (f:Fun) (k:Nat):BSet:=f.pastD (BSet.new 96) (f.code k)
def Fun.killD (f:Fun) (k:Nat):BSet:=f.killI (BSet.new 96) (f.code k)
def Fun.dflow (f:Fun):Flw where
 w:=96
 rs:=f.pgr
 gen:=(List.range f.blks.length).map f.genD
 kill:=(List.range f.blks.length).map f.killD
open Classical in
noncomputable def Fun.ends (f:Fun):List BSet:=if h:f.dflow.OK then f.dflow.sol h else []
end Go.Proofs.YtnhfofmhkfdpgaaGreatDoor.Vm
namespace Go.Proofs.YtnhfofmhkfdpgaaGreatDoor.Vm
set_option maxRecDepth 100000
open Go Go.RowKit
variable {N:Nat} {g:Glob}
def Blk.stepsTo (k:Nat) (y:Blk) (c:Nat):List (Nat × Ins):=(y.ins.take c).map fun x=>(k,x)
def Fun.stepsTo (k:Nat) (f:Fun) (b:Nat):List (Nat × Ins):=((f.blks.take b).map fun y=>y.stepsTo k y.ins.length).flatten
def Prg.stepsTo (p:Prg):Nat->List (Nat × Ins)
 | 0=>[]
 | a + 1=>p.stepsTo a ++ (match p.funs[a]? with | some f=>f.stepsTo a f.blks.length | none=>[])
def Prg.steps (p:Prg):List (Nat × Ins):=p.stepsTo p.funs.length
theorem Prg.stepsTo_succ {p:Prg} {a:Nat} {f:Fun} (h:p.funs[a]?=some f):p.stepsTo (a + 1)=p.stepsTo a ++ f.stepsTo a f.blks.length:=by
 rw [Prg.stepsTo,h]
theorem Fun.stepsTo_succ {k b:Nat} {f:Fun} {y:Blk} (h:f.blks[b]?=some y):f.stepsTo k (b + 1)=f.stepsTo k b ++ y.stepsTo k y.ins.length:=by
 unfold Fun.stepsTo
 rw [xAe h,List.map_append,List.flatten_append]
 simp
theorem Blk.stepsTo_succ {k c:Nat} {y:Blk} {x:Ins} (h:y.ins[c]?=some x):y.stepsTo k (c + 1)=y.stepsTo k c ++ [(k,x)]:=by
 unfold Blk.stepsTo
 rw [xAe h,List.map_append];rfl
theorem Blk.stepsTo_sub {k:Nat} {y:Blk} (c:Nat):(y.stepsTo k c).Sublist (y.stepsTo k y.ins.length):=by
 unfold Blk.stepsTo
 rw [List.take_length]
 exact (List.take_sublist _ _).map _
theorem Fun.stepsTo_sub {k:Nat} {f:Fun} (b:Nat):(f.stepsTo k b).Sublist (f.stepsTo k f.blks.length):=by
 unfold Fun.stepsTo
 rw [List.take_length]
 have h:f.blks.map (fun y=>y.stepsTo k y.ins.length)=(f.blks.take b).map (fun y=>y.stepsTo k y.ins.length) ++ (f.blks.drop b).map (fun y=>y.stepsTo k y.ins.length):=by
  rw [<- List.map_append,List.take_append_drop]
 rw [h,List.flatten_append]
 exact List.sublist_append_left _ _
theorem Prg.stepsTo_sub {p:Prg} {a:Nat}:∀m,a<=m->(p.stepsTo a).Sublist (p.stepsTo m)
 | 0,h=>by rw [show a=0 by omega];exact List.Sublist.refl _
 | m + 1,h=>by
  by_cases he:a=m + 1
  ·subst he;exact List.Sublist.refl _
  ·rw [Prg.stepsTo]
   exact (Prg.stepsTo_sub m (by omega)).trans (List.sublist_append_left _ _)
theorem xNl {p:Prg} {f:Fun} {y:Blk} {a b c:Nat} (hf:p.funs[a]?=some f) (hy:f.blks[b]?=some y):(p.stepsTo a ++ (f.stepsTo a b ++ y.stepsTo a c)).Sublist p.steps:=by
 have ha:=(xgS hf).1
 have h1:(f.stepsTo a b ++ y.stepsTo a c).Sublist (f.stepsTo a f.blks.length) :=
  ((List.Sublist.refl _).append (y.stepsTo_sub c)).trans (by rw [<- Fun.stepsTo_succ hy];exact f.stepsTo_sub _)
 have h2:(p.stepsTo a ++ (f.stepsTo a b ++ y.stepsTo a c)).Sublist (p.stepsTo (a + 1)):=by
  rw [Prg.stepsTo_succ hf]
  exact (List.Sublist.refl _).append h1
 exact h2.trans (Prg.stepsTo_sub _ (by omega))
theorem Fun.steps_insts (k:Nat) (f:Fun):f.stepsTo k f.blks.length=f.insts.map fun x=>(k,x):=by
 unfold Fun.stepsTo Fun.insts
 rw [List.take_length,List.map_flatten,List.map_map]
 congr 1
 refine List.map_congr_left fun y _=>?_
 simp [Blk.stepsTo]
theorem Prg.stepsTo_ids (p:Prg):∀a,a<=p.funs.length->(p.stepsTo a).map (fun t=>t.2.id)=p.idsTo a
 | 0,_=>by simp [Prg.stepsTo,Prg.idsTo]
 | a + 1,h=>by
  obtain ⟨f,hf⟩:∃ f,p.funs[a]?=some f:=⟨_,xgG (by omega)⟩
  rw [Prg.stepsTo_succ hf,List.map_append,Prg.stepsTo_ids p a (by omega),Prg.idsTo_succ hf,Fun.steps_insts,List.map_map]
  congr 1
  unfold Fun.insts Fun.ids
  rw [List.map_flatten,List.map_map]
  rfl
theorem Prg.steps_ids (p:Prg):p.steps.map (fun t=>t.2.id)=p.ids:=by rw [Prg.steps,Prg.stepsTo_ids p _ (Nat.le_refl _),Prg.idsTo_all]
theorem xPm {p:Prg} (hp:p.Fit) {fv:AV} {S0:St} {K:AV->St->Prop} (Inv:List (Nat × Ins)->St->Prop) (hup:∀L S S',Inv L S->Up S S'->Inv L S') (h0:Inv [] S0)
  (hst:∀(L:List (Nat × Ins)) (a b c:Nat) (f:Fun) (y:Blk) (x:Ins) (S:St),p.funs[a]?=some f->f.blks[b]?=some y->y.ins[c]?=some x->(L ++ [(a,x)]).Sublist p.steps->Inv L S->∀K':AV->St->Prop,(∀v S',Inv (L ++ [(a,x)]) S'->K' v S')->CalV P (gl N) fv [.int .i64 a,.int .i64 b,.int .i64 c,encI x] S K')
  (hk:∀S,Inv p.steps S->K (.tuple []) S):Cal P (gl N) 60 [encP p,fv] S0 K:=by
 refine Cal.inF (by kernel_rfl) ?_
 have hpl:=hp.funs
 conv=>arg 3;reduce
 simp
 refine W.whileI (fun (a:Nat) F S=>a<=p.funs.length/\F 1=fv/\F 11=p.funsV/\F 12=.int .i64 p.funs.length/\F 13=.int .i64 a/\Inv (p.stepsTo a) S) (fun a=>p.funs.length - a) ?_ 0 _ _ ?_
 ·rintro a F S ⟨ha,f1,f11,f12,f13,hI⟩
  by_cases hlt:a < p.funs.length
  ·have e4:=wrapS a (by omega)
   obtain ⟨f,hf⟩:∃ f,p.funs[a]?=some f:=⟨_,xgG hlt⟩
   have hfs:=hp.each f (xmG hf)
   have hbl:=hfs.blks
   simp [f12,f13,hlt]
   simp [f11,f13,p.funsS.idx hf]
   generalize hS1:(S.new (.row 3 [[.int .i64 0,.int .i64 0,.nilsl]])).set S.next (.row 3 [[.int .i64 f.par,.int .i64 f.vars,f.blksV]])=S1
   have hI1:Inv (p.stepsTo a ++ f.stepsTo a 0) S1:=by
    have:p.stepsTo a ++ f.stepsTo a 0=p.stepsTo a:=by simp [Fun.stepsTo]
    rw [this,<- hS1]
    exact hup _ _ _ hI ((Up.new _ _).put (Nat.le_refl _) _)
   clear hS1 hI
   refine W.whileI (fun (b:Nat) F S=>b<=f.blks.length/\F 1=fv/\F 11=p.funsV/\F 12=.int .i64 p.funs.length/\F 13=.int .i64 a/\F 4=.int .i64 a/\F 19=f.blksV/\F 20=.int .i64 f.blks.length/\F 21=.int .i64 b/\Inv (p.stepsTo a ++ f.stepsTo a b) S) (fun b=>f.blks.length - b) ?_ 0 _ _ ?_
   ·rintro b F S ⟨hb,f1,f11,f12,f13,f4,f19,f20,f21,hI⟩
    by_cases hltb:b < f.blks.length
    ·have e5:=wrapS b (by omega)
     obtain ⟨y,hy⟩:∃ f',f.blks[b]?=some f':=⟨_,xgG hltb⟩
     have hil:=hfs.ins y (xmG hy)
     simp [f20,f21,hltb]
     simp [f19,f21,f.blksS.idx hy]
     generalize hS1:(S.new (.row 3 [[.bool false,.nilsl,.nilsl]])).set S.next (.row 3 [[.bool y.on,y.insV,y.outV]])=S1
     have hI1:Inv (p.stepsTo a ++ (f.stepsTo a b ++ y.stepsTo a 0)) S1:=by
      have:f.stepsTo a b ++ y.stepsTo a 0=f.stepsTo a b:=by simp [Blk.stepsTo]
      rw [this,<- hS1]
      exact hup _ _ _ hI ((Up.new _ _).put (Nat.le_refl _) _)
     clear hS1 hI
     refine W.whileI (fun (c:Nat) F S=>c<=y.ins.length/\F 1=fv/\F 11=p.funsV/\F 12=.int .i64 p.funs.length/\F 13=.int .i64 a/\F 4=.int .i64 a/\F 19=f.blksV/\F 20=.int .i64 f.blks.length/\F 21=.int .i64 b/\F 6=.int .i64 b/\F 27=y.insV/\F 28=.int .i64 y.ins.length/\F 29=.int .i64 c/\Inv (p.stepsTo a ++ (f.stepsTo a b ++ y.stepsTo a c)) S) (fun c=>y.ins.length - c) ?_ 0 _ _ ?_
     ·rintro c F S ⟨hc,f1,f11,f12,f13,f4,f19,f20,f21,f6,f27,f28,f29,hI⟩
      by_cases hltc:c < y.ins.length
      ·have e6:=wrapS c (by omega)
       obtain ⟨x,hx⟩:∃ x,y.ins[c]?=some x:=⟨_,xgG hltc⟩
       simp [f28,f29,hltc]
       simp [f27,f29,y.insS.idx hx,f1,f4,f6]
       have hL:(p.stepsTo a ++ (f.stepsTo a b ++ y.stepsTo a c)) ++ [(a,x)]=p.stepsTo a ++ (f.stepsTo a b ++ y.stepsTo a (c + 1)):=by
        rw [Blk.stepsTo_succ hx];simp
       refine hst (p.stepsTo a ++ (f.stepsTo a b ++ y.stepsTo a c)) a b c f y x _ hf hy hx (by rw [hL];exact xNl hf hy) (hup _ _ _ hI ((Up.new _ _).put (Nat.le_refl _) _)) _ fun v S' hI'=>?_
       rw [hL] at hI'
       simp [f1,f4,f6,f11,f12,f13,f19,f20,f21,f27,f28,f29,e6]
       exact ⟨c + 1,by omega,by omega,by omega,hI'⟩
      ·have:c=y.ins.length:=by omega
       subst this
       simp [f28,f29,f1,f4,f11,f12,f13,f19,f20,f21,e5]
       exact ⟨b + 1,by omega,by omega,by omega,by rw [Fun.stepsTo_succ hy];exact hI⟩
     ·simp [f1,f4,f11,f12,f13,f19,f20,f21]
      exact hI1
    ·have:b=f.blks.length:=by omega
     subst this
     simp [f20,f21,f1,f11,f12,f13,e4]
     exact ⟨a + 1,by omega,by omega,by omega,by rw [Prg.stepsTo_succ hf];exact hI⟩
   ·simp [f1,f11,f12,f13]
    exact hI1
  ·have:a=p.funs.length:=by omega
   subst this
   simp [f12,f13]
   exact hk S hI
 ·simp
  exact hup _ _ _ h0 (Up.new _ _)
end Go.Proofs.YtnhfofmhkfdpgaaGreatDoor.Vm
namespace Go.Proofs.YtnhfofmhkfdpgaaGreatDoor.Vm
open Go Go.RowKit
def sgS (s:Int):Int:=if 0<=s/\s<=7 then s else 7
def sgOf (c:Int):Int:=if c < 0 then 1 else if 0 < c then 4 else 2
def sgOr (a b:Int):Int:=((a.toNat ||| b.toNat:Nat):Int)
def sgJ (a b:Int):Int:=sgOr (sgS a) (sgS b)
def sgLe (a b:Int):Prop:=sgOr a b=b
instance (a b:Int):Decidable (sgLe a b):=inferInstanceAs (Decidable (_=_))
def sgList (s:Int):List Int:=([0,1,2].filter fun k=>(sgS s).toNat.testBit k).map fun k:Nat=>(k:Int) - 1
def sgEntry (t:List Int) (x y:Int):Int:=t.getD ((x + 1).toNat * 3 + (y + 1).toNat) 0
def sgTab (t:List Int) (a b:Int):Int:=(sgList a).foldl (fun o x=>(sgList b).foldl (fun o y=>sgOr o (sgEntry t x y)) o) 0
def sumsT:List Int:=[1,1,7,1,2,4,7,4,4]
def prodT:List Int:=[4,2,1,2,2,2,1,2,4]
def sgAdd (a b:Int):Int:=sgTab sumsT a b
def sgMul (a b:Int):Int:=sgTab prodT a b
def sgNeg (a:Int):Int:=sgMul a 1
def sgSub (a b:Int):Int:=sgAdd a (sgNeg b)
def sgOk (s:Int):Prop:=0<=s/\s<=7
theorem xAv:sgOk 0:=⟨by omega,by omega⟩
theorem sg8 {s:Int} (h:sgOk s):∃ k:Fin 8,s=((k:Nat):Int):=⟨⟨s.toNat,by have:=h.1;have:=h.2;omega⟩,by have:=h.1;simp;omega⟩
theorem xBg (s:Int):sgOk (sgS s):=by
 unfold sgS
 split
 ·assumption
 ·exact ⟨by omega,by omega⟩
theorem xAw {s:Int} (h:sgOk s):sgS s=s:=by
 have h':0<=s/\s<=7:=h
 unfold sgS
 rw [if_pos h']
theorem xLi (s:Int):sgS (sgS s)=sgS s:=xAw (xBg s)
theorem xAX (c:Int):sgOk (sgOf c):=by
 unfold sgOf
 repeat' split
 all_goals exact ⟨by omega,by omega⟩
theorem xBs (c:Int):(c < 0/\sgOf c=1) \/ (c=0/\sgOf c=2) \/ (0 < c/\sgOf c=4):=by
 unfold sgOf
 repeat' split
 all_goals omega
theorem xE0 {a b:Int} (ha:sgOk a) (hb:sgOk b):sgOk (sgOr a b):=by
 obtain ⟨i,rfl⟩:=sg8 ha
 obtain ⟨j,rfl⟩:=sg8 hb
 have:∀i j:Fin 8,sgOr ((i:Nat):Int) ((j:Nat):Int)<=7:=by decide +kernel
 exact ⟨Int.natCast_nonneg _,this i j⟩
theorem xPz (a b:Int):sgOk (sgJ a b):=xE0 (xBg a) (xBg b)
theorem xRp (a:Int):sgJ a 0=sgS a:=by
 obtain ⟨i,hi⟩:=sg8 (xBg a)
 have:∀i:Fin 8,sgOr ((i:Nat):Int) (sgS 0)=((i:Nat):Int):=by decide +kernel
 unfold sgJ;rw [hi];exact this i
theorem xR6 {a b:Int} (ha:sgOk a) (hb:sgOk b):sgJ a b=sgOr a b:=by unfold sgJ;rw [xAw ha,xAw hb]
theorem xAx {a:Int} (ha:sgOk a):sgLe a a:=by
 obtain ⟨i,rfl⟩:=sg8 ha
 have:∀i:Fin 8,sgLe ((i:Nat):Int) ((i:Nat):Int):=by decide +kernel
 exact this i
theorem xAU {a b c:Int} (ha:sgOk a) (hb:sgOk b) (hc:sgOk c) (h1:sgLe a b) (h2:sgLe b c):sgLe a c:=by
 obtain ⟨i,rfl⟩:=sg8 ha
 obtain ⟨j,rfl⟩:=sg8 hb
 obtain ⟨k,rfl⟩:=sg8 hc
 have:∀i j k:Fin 8,sgLe ((i:Nat):Int) ((j:Nat):Int)->sgLe ((j:Nat):Int) ((k:Nat):Int)->sgLe ((i:Nat):Int) ((k:Nat):Int):=by decide +kernel
 exact this i j k h1 h2
theorem xPA {a b:Int} (ha:sgOk a) (hb:sgOk b) (h1:sgLe a b) (h2:sgLe b a):a=b:=by
 obtain ⟨i,rfl⟩:=sg8 ha
 obtain ⟨j,rfl⟩:=sg8 hb
 have:∀i j:Fin 8,sgLe ((i:Nat):Int) ((j:Nat):Int)->sgLe ((j:Nat):Int) ((i:Nat):Int)->((i:Nat):Int)=((j:Nat):Int):=by decide +kernel
 exact this i j h1 h2
theorem xGH {a:Int} (ha:sgOk a):sgLe 0 a:=by
 obtain ⟨i,rfl⟩:=sg8 ha
 have:∀i:Fin 8,sgLe 0 ((i:Nat):Int):=by decide +kernel
 exact this i
theorem xMa {a:Int} (ha:sgOk a):sgLe a 7:=by
 obtain ⟨i,rfl⟩:=sg8 ha
 have:∀i:Fin 8,sgLe ((i:Nat):Int) 7:=by decide +kernel
 exact this i
theorem xJ6 {a b:Int} (ha:sgOk a) (hb:sgOk b):sgLe a (sgOr a b):=by
 obtain ⟨i,rfl⟩:=sg8 ha
 obtain ⟨j,rfl⟩:=sg8 hb
 have:∀i j:Fin 8,sgLe ((i:Nat):Int) (sgOr ((i:Nat):Int) ((j:Nat):Int)):=by decide +kernel
 exact this i j
theorem xJ7 {a b:Int} (ha:sgOk a) (hb:sgOk b):sgLe b (sgOr a b):=by
 obtain ⟨i,rfl⟩:=sg8 ha
 obtain ⟨j,rfl⟩:=sg8 hb
 have:∀i j:Fin 8,sgLe ((j:Nat):Int) (sgOr ((i:Nat):Int) ((j:Nat):Int)):=by decide +kernel
 exact this i j
theorem xPB {a b c:Int} (ha:sgOk a) (hb:sgOk b) (hc:sgOk c) (h1:sgLe a c) (h2:sgLe b c):sgLe (sgOr a b) c:=by
 obtain ⟨i,rfl⟩:=sg8 ha
 obtain ⟨j,rfl⟩:=sg8 hb
 obtain ⟨k,rfl⟩:=sg8 hc
 have:∀i j k:Fin 8,sgLe ((i:Nat):Int) ((k:Nat):Int)->sgLe ((j:Nat):Int) ((k:Nat):Int)->sgLe (sgOr ((i:Nat):Int) ((j:Nat):Int)) ((k:Nat):Int):=by decide +kernel
 exact this i j k h1 h2
theorem xPC {a b a' b':Int} (ha:sgOk a) (hb:sgOk b) (ha':sgOk a') (hb':sgOk b') (h1:sgLe a a') (h2:sgLe b b'):sgLe (sgOr a b) (sgOr a' b') :=
 xPB ha hb (xE0 ha' hb') (xAU ha ha' (xE0 ha' hb') h1 (xJ6 ha' hb')) (xAU hb hb' (xE0 ha' hb') h2 (xJ7 ha' hb'))
theorem xRq {a b a' b':Int} (h1:sgLe (sgS a) (sgS a')) (h2:sgLe (sgS b) (sgS b')):sgLe (sgJ a b) (sgJ a' b'):=xPC (xBg a) (xBg b) (xBg a') (xBg b') h1 h2
theorem xPD (t:List Int) (a b:Int):sgTab t (sgS a) (sgS b)=sgTab t a b:=by unfold sgTab sgList;rw [xLi,xLi]
theorem xBA (a b:Int):sgOk (sgAdd a b):=by
 unfold sgAdd;rw [<- xPD]
 obtain ⟨i,hi⟩:=sg8 (xBg a)
 obtain ⟨j,hj⟩:=sg8 (xBg b)
 rw [hi,hj]
 have:∀i j:Fin 8,0<=sgTab sumsT ((i:Nat):Int) ((j:Nat):Int)/\sgTab sumsT ((i:Nat):Int) ((j:Nat):Int)<=7:=by decide +kernel
 exact this i j
theorem xBB (a b:Int):sgOk (sgMul a b):=by
 unfold sgMul;rw [<- xPD]
 obtain ⟨i,hi⟩:=sg8 (xBg a)
 obtain ⟨j,hj⟩:=sg8 (xBg b)
 rw [hi,hj]
 have:∀i j:Fin 8,0<=sgTab prodT ((i:Nat):Int) ((j:Nat):Int)/\sgTab prodT ((i:Nat):Int) ((j:Nat):Int)<=7:=by decide +kernel
 exact this i j
theorem xBC (a:Int):sgOk (sgNeg a):=xBB a 1
theorem xFM (a b:Int):sgOk (sgSub a b):=xBA _ _
theorem xGI:∀i j k:Fin 8,sgLe ((i:Nat):Int) ((j:Nat):Int)->sgLe (sgTab sumsT ((i:Nat):Int) ((k:Nat):Int)) (sgTab sumsT ((j:Nat):Int) ((k:Nat):Int))/\sgLe (sgTab sumsT ((k:Nat):Int) ((i:Nat):Int)) (sgTab sumsT ((k:Nat):Int) ((j:Nat):Int)):=by decide +kernel
theorem xGJ:∀i j k:Fin 8,sgLe ((i:Nat):Int) ((j:Nat):Int)->sgLe (sgTab prodT ((i:Nat):Int) ((k:Nat):Int)) (sgTab prodT ((j:Nat):Int) ((k:Nat):Int))/\sgLe (sgTab prodT ((k:Nat):Int) ((i:Nat):Int)) (sgTab prodT ((k:Nat):Int) ((j:Nat):Int)):=by decide +kernel
theorem xE1 {a b a' b':Int} (ha:sgOk a) (hb:sgOk b) (ha':sgOk a') (hb':sgOk b') (h1:sgLe a a') (h2:sgLe b b'):sgLe (sgAdd a b) (sgAdd a' b'):=by
 have h3:sgLe (sgAdd a b) (sgAdd a' b):=by
  obtain ⟨i,rfl⟩:=sg8 ha
  obtain ⟨j,rfl⟩:=sg8 ha'
  obtain ⟨k,rfl⟩:=sg8 hb
  exact (xGI i j k h1).1
 have h4:sgLe (sgAdd a' b) (sgAdd a' b'):=by
  obtain ⟨i,rfl⟩:=sg8 hb
  obtain ⟨j,rfl⟩:=sg8 hb'
  obtain ⟨k,rfl⟩:=sg8 ha'
  exact (xGI i j k h2).2
 exact xAU (xBA _ _) (xBA _ _) (xBA _ _) h3 h4
theorem xE2 {a b a' b':Int} (ha:sgOk a) (hb:sgOk b) (ha':sgOk a') (hb':sgOk b') (h1:sgLe a a') (h2:sgLe b b'):sgLe (sgMul a b) (sgMul a' b'):=by
 have h3:sgLe (sgMul a b) (sgMul a' b):=by
  obtain ⟨i,rfl⟩:=sg8 ha
  obtain ⟨j,rfl⟩:=sg8 ha'
  obtain ⟨k,rfl⟩:=sg8 hb
  exact (xGJ i j k h1).1
 have h4:sgLe (sgMul a' b) (sgMul a' b'):=by
  obtain ⟨i,rfl⟩:=sg8 hb
  obtain ⟨j,rfl⟩:=sg8 hb'
  obtain ⟨k,rfl⟩:=sg8 ha'
  exact (xGJ i j k h2).2
 exact xAU (xBB _ _) (xBB _ _) (xBB _ _) h3 h4
theorem xE3 {a a':Int} (ha:sgOk a) (ha':sgOk a') (h:sgLe a a'):sgLe (sgNeg a) (sgNeg a'):=xE2 ha ⟨by omega,by omega⟩ ha' ⟨by omega,by omega⟩ h (xAx ⟨by omega,by omega⟩)
theorem xNu {a b a' b':Int} (ha:sgOk a) (hb:sgOk b) (ha':sgOk a') (hb':sgOk b') (h1:sgLe a a') (h2:sgLe b b'):sgLe (sgSub a b) (sgSub a' b'):=xE1 ha (xBC _) ha' (xBC _) h1 (xE3 hb hb' h2)
theorem xMb (x y:Int):sgLe (sgOf (x * y)) (sgMul (sgOf x) (sgOf y)):=by
 rcases xBs x with ⟨hx,ex⟩ | ⟨rfl,ex⟩ | ⟨hx,ex⟩ <;> rcases xBs y with ⟨hy,ey⟩ | ⟨rfl,ey⟩ | ⟨hy,ey⟩ <;> first | rw [ex,ey] | rw [ex]
 ·have:=Int.mul_pos_of_neg_of_neg hx hy
  rw [show sgOf (x * y)=4 by unfold sgOf;rw [if_neg (by omega),if_pos this]];decide +kernel
 ·rw [Int.mul_zero];decide +kernel
 ·have:=Int.mul_neg_of_neg_of_pos hx hy
  rw [show sgOf (x * y)=1 by unfold sgOf;rw [if_pos this]];decide +kernel
 ·rw [Int.zero_mul];decide +kernel
 ·rw [Int.zero_mul];decide +kernel
 ·rw [Int.zero_mul];decide +kernel
 ·have:=Int.mul_neg_of_pos_of_neg hx hy
  rw [show sgOf (x * y)=1 by unfold sgOf;rw [if_pos this]];decide +kernel
 ·rw [Int.mul_zero];decide +kernel
 ·have:=Int.mul_pos hx hy
  rw [show sgOf (x * y)=4 by unfold sgOf;rw [if_neg (by omega),if_pos this]];decide +kernel
theorem xRr (x y:Int):sgLe (sgOf (x + y)) (sgAdd (sgOf x) (sgOf y)):=by
 rcases xBs x with ⟨hx,ex⟩ | ⟨rfl,ex⟩ | ⟨hx,ex⟩ <;> rcases xBs y with ⟨hy,ey⟩ | ⟨rfl,ey⟩ | ⟨hy,ey⟩ <;> first | rw [ex,ey] | rw [ex]
 ·rw [show sgOf (x + y)=1 by unfold sgOf;rw [if_pos (by omega)]];decide +kernel
 ·rw [Int.add_zero,ex];decide +kernel
 ·rcases xBs (x + y) with ⟨_,e⟩ | ⟨_,e⟩ | ⟨_,e⟩ <;> rw [e] <;> decide +kernel
 ·rw [Int.zero_add,ey];decide +kernel
 ·decide +kernel
 ·rw [Int.zero_add,ey];decide +kernel
 ·rcases xBs (x + y) with ⟨_,e⟩ | ⟨_,e⟩ | ⟨_,e⟩ <;> rw [e] <;> decide +kernel
 ·rw [Int.add_zero,ex];decide +kernel
 ·rw [show sgOf (x + y)=4 by unfold sgOf;rw [if_neg (by omega),if_pos (by omega)]];decide +kernel
theorem xRs (x:Int):sgLe (sgOf (-x)) (sgNeg (sgOf x)):=by
 have:=xMb x (-1)
 rw [show x * -1=-x by omega] at this
 exact this
theorem xJ8 {x y a b:Int} (ha:sgOk a) (hb:sgOk b) (h1:sgLe (sgOf x) a) (h2:sgLe (sgOf y) b):sgLe (sgOf (x + y)) (sgAdd a b) :=
 xAU (xAX _) (xBA _ _) (xBA _ _) (xRr x y) (xE1 (xAX _) (xAX _) ha hb h1 h2)
theorem xPE {x y a b:Int} (ha:sgOk a) (hb:sgOk b) (h1:sgLe (sgOf x) a) (h2:sgLe (sgOf y) b):sgLe (sgOf (x * y)) (sgMul a b) :=
 xAU (xAX _) (xBB _ _) (xBB _ _) (xMb x y) (xE2 (xAX _) (xAX _) ha hb h1 h2)
theorem xJ9 {x a:Int} (ha:sgOk a) (h1:sgLe (sgOf x) a):sgLe (sgOf (-x)) (sgNeg a) :=
 xAU (xAX _) (xBC _) (xBC _) (xRs x) (xE3 (xAX _) ha h1)
theorem xPF {x y a b:Int} (ha:sgOk a) (hb:sgOk b) (h1:sgLe (sgOf x) a) (h2:sgLe (sgOf y) b):sgLe (sgOf (x - y)) (sgSub a b):=by
 rw [Int.sub_eq_add_neg]
 exact xJ8 ha (xBC b) h1 (xJ9 hb h2)
def sgPop (s:Int):Nat:=s.toNat % 2 + s.toNat / 2 % 2 + s.toNat / 4 % 2
theorem xMc {a b:Int} (ha:sgOk a) (hb:sgOk b) (h:sgLe a b):sgPop a<=sgPop b/\(a ≠ b->sgPop a < sgPop b)/\sgPop b<=3:=by
 obtain ⟨i,rfl⟩:=sg8 ha
 obtain ⟨j,rfl⟩:=sg8 hb
 have:∀i j:Fin 8,sgLe ((i:Nat):Int) ((j:Nat):Int)->sgPop ((i:Nat):Int)<=sgPop ((j:Nat):Int)/\(((i:Nat):Int) ≠ ((j:Nat):Int)->sgPop ((i:Nat):Int) < sgPop ((j:Nat):Int))/\sgPop ((j:Nat):Int)<=3:=by decide +kernel
 exact this i j h
end Go.Proofs.YtnhfofmhkfdpgaaGreatDoor.Vm
