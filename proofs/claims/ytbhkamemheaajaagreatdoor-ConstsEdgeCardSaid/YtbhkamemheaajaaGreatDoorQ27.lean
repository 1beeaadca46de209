/- A part of the proof: Rh Ri Rj Rk Rl Rm Rr Rs Ta Aa. -/
import Derived.Test.YtbhkamemheaajaaGreatDoorQ26
set_option linter.unusedVariables false
set_option linter.unusedSimpArgs false
set_option linter.constructorNameAsVariable false
namespace Go.Proofs.YtbhkamemheaajaaGreatDoor.Vm
open Go Go.RowKit
variable {N:Nat} {g:Glob}
def prc (m:List Int):List AV:=[encF intc 1 m]
structure CFun (S:St) (p:Nat) (f:Fun) (prV:AV):Prop where
 box:S.obj p=some (.row 4 [[.int .i64 f.par,.int .i64 f.vars,f.blksV,prV]])
 pre:Has prc 1 S prV ((List.range f.blks.length).map fun i:Nat=>f.preds i)
 lt:p < S.next
theorem consts_begin {S:St} {p o i:Nat} {f:Fun} {prV:AV} {x:List Env} {K:AV→St→Prop} (hf:f.Small) (hS:CFun S p f prV) (hb:Bel S prV) (hi:i < f.blks.length) (hx:S.obj o=some (.row 2 (els envc x))) (ho:o < S.next) (hxl:x.length=f.blks.length) (hxo:∀e ∈ x,Env.fit f.wid e)
  (hk:∀S',Up S S'→K (.agg (envc (f.cev x i))) S'):Cal P (gl N) 79 [.ptr p 0 0,.int .i64 (i:Int),.sl 2 o 0 f.blks.length] S K:=by
 refine c79.in (by simp) ?_
 have hwl:=f.wid_lt
 have hbox:=hS.box
 have hlt:=hS.lt
 have hbl:=hf.blks
 obtain ⟨r,hr1,hr2,hr3⟩:=hS.pre.idx (k:=i) (x:=f.preds i) (by simp [hi])
 have hrl:r < S.next:=hb _ _ _ hr1
 have hpf:FSl intc 1 (encF intc 1 (f.preds i)) (f.preds i):=encF_sl
 have hpm:∀j ∈ f.preds i,∃ k:Nat,j=(k:Int)∧k < f.blks.length:=fun j hj=>by
  obtain ⟨k,y,h1,h2,_⟩:=Fun.preds_mem.1 hj
  exact ⟨k,h1,(List.getElem?_eq_some_iff.1 h2).1⟩
 have hpl:(f.preds i).length≤f.blks.length:=f.predsTo_len _ _
 have hgr:((List.range f.blks.length).map fun i:Nat=>f.preds i)[i]?=some (f.preds i):=by simp [hi]
 generalize hm:f.preds i=m at *
 simp [k79,hbox,show ¬ p=S.next by omega,show ¬ p=S.next + 1 by omega]
 refine bra_dec (fun h0=>?_) (fun h0=>?_)
 all_goals simp [hbox,show ¬ p=S.next by omega,show ¬ p=S.next + 1 by omega]
 all_goals try
  refine (consts_Start f).use (n:=9) (by simp [mapOpt,pict_stab f.blksS.stab]) (by simp [solids,AV.solid,f.blksS.solid]) ?_
  simp [hbox,show ¬ p=S.next by omega,show ¬ p=S.next + 1 by omega]
 all_goals
  simp [hr3,hr2,hgr,prc,show ¬ r=S.next by omega,show ¬ r=S.next + 1 by omega,hpf.len]
  refine W.whileI (fun (a:Nat) F S2=>a≤m.length∧F 0=.ptr p 0 0∧F 2=.sl 2 o 0 f.blks.length∧F 6=.ptr S.next 0 0∧F 7=.ptr (S.next + 1) 0 0∧F 24=encF intc 1 m∧F 25=.int .i64 m.length∧F 26=.int .i64 a∧Up S S2∧S.next + 2≤S2.next ∧
   S2.obj S.next=some (.row 2 [[.bool false,.nilsl]])∧S2.obj (S.next + 1)=some (.row 2 [envc (f.cevTo x i (m.take a))])) (fun a=>m.length - a) ?_ 0 _ _ ?_
  ·rintro a F S2 ⟨ha,f0,f2,f6,f7,f24,f25,f26,hup,hn2,s6,s7⟩
   by_cases hlt2:a < m.length
   ·have e4:=wrapS a (by omega)
    obtain ⟨j,hj⟩:∃ j,m[a]?=some j:=⟨_,List.getElem?_eq_getElem hlt2⟩
    obtain ⟨jn,rfl,hjn⟩:=hpm j (List.mem_of_getElem? hj)
    obtain ⟨ej,hej⟩:∃ e,x[jn]?=some e:=⟨_,List.getElem?_eq_getElem (by omega)⟩
    obtain ⟨y,hy⟩:∃ y,f.blks[jn]?=some y:=⟨_,List.getElem?_eq_getElem hjn⟩
    have hst:f.cevTo x i (m.take (a + 1))=(f.cevTo x i (m.take a)).join (pastL ej y.ins):=by
     unfold Fun.cevTo
     rw [foldl_take_succ _ _ _ _ _ hj]
     simp [List.getD_eq_getElem?_getD,hej,Fun.code,hy]
    have hb2:S2.obj p=some (.row 4 [[.int .i64 f.par,.int .i64 f.vars,f.blksV,prV]]):=by rw [hup.2 p hlt];exact hbox
    have hx2:S2.obj o=some (.row 2 (els envc x)):=by rw [hup.2 o ho];exact hx
    have hil:=hf.ins y (List.mem_of_getElem? hy)
    have hfe:ej.fit f.wid:=hxo ej (List.mem_of_getElem? hej)
    simp [f25,f26,hlt2]
    simp [f24,f26,hpf.idx hj,intc]
    refine Dra.auto [] mix ?_ ?_
    ·kernel_rfl
    simp [classes,f0,f2,f7,s7,ix_sl hjn,hx2,hej,hb2,f.blksS.idx hy]
    refine (consts_past ej y.ins y.insV y.insS (by omega) (hfe.small hwl)).b (n:=9) (by simp [mapOpt]) (by simp [solids,AV.solid,y.insS.solid]) ?_
    simp
    refine (env_JoinFlat (f.cevTo x i (m.take a)) (pastL ej y.ins) ((f.cevTo_fit hxo i _).small hwl) ((pastL_fit hfe).small hwl)).b (n:=9) (by simp [mapOpt]) (by simp [solids,AV.solid]) ?_
    simp [f0,f2,f6,f7,f24,f25,f26,e4,s7]
    exact ⟨a + 1,by omega,by omega,by omega,hup.put (by omega) _,hn2,s6,by rw [hst]⟩
   ·have:a=m.length:=by omega
    subst this
    rw [List.take_length] at s7
    have hcv:f.cevTo x i m=f.cev x i:=by rw [← hm];rfl
    rw [hcv] at s7
    simp [f25,f26,f7,f6,s7,s6]
    exact hk _ (hup.put (Nat.le_refl _) _)
  ·simp [h0]
   refine ⟨⟨by simp;omega,fun q hq=>by simp [show ¬ q=S.next by omega,show ¬ q=S.next + 1 by omega]⟩,?_⟩
   simp [Fun.cevTo,h0,Fun.start]
def Fun.pgr (f:Fun):List (List Int):=(List.range f.blks.length).map fun i:Nat=>f.preds i
theorem cfun_pict {S:St} {f:Fun} {prV:AV} (h:Has prc 1 S prV f.pgr) (hne:0 < f.blks.length) {n:Nat}:Vm.pict S [] (n + 3) prV=some (.fsl 1 (els prc f.pgr)):=by
 rcases h with ⟨_,h⟩ | ⟨q,rfl,hq,_⟩
 ·simp [Fun.pgr] at h;rw [h] at hne;simp at hne
 ·refine pict_row hq (by simp) (by simp) fun k e he=>?_
  simp only [els,List.getElem?_map] at he ⊢
  cases hz:f.pgr[k]? with
  | none=>rw [hz] at he;cases he
  | some m =>
   rw [hz] at he;cases he
   have hf:FSl intc 1 (encF intc 1 m) m:=encF_sl
   simp [mapOpt,prc,pict_stab hf.stab]
theorem pgr_gr (f:Fun):GrV (.fsl 1 (els prc f.pgr)) f.pgr:=by
 refine .inr ⟨f.pgr.map (encF intc 1),by simp [els,prc],by simp,fun k w m hw hm=>?_⟩
 rw [List.getElem?_map,hm] at hw
 cases hw
 exact encF_sl
theorem consts_In_some (p:Prg) (i:Int) (hp:p.Fit) {f:Fun} (hf:p.fn i=some f):Ret P (gl N) false 35 [encP p,.int .i64 i] (.fsl 2 (els envc f.cin)):=by
 have hok:=fn_ok hf
 have hl:=hok.len
 have hsm:=fn_fit hp hf
 refine Ret.in c35 (by simp) ?_
 simp [k35]
 refine (prog_Fun p i hp).use (n:=9) (by simp [mapOpt,pict_stab p.funsS.stab]) (by simp [solids,AV.solid,p.funsS.solid]) ?_
 simp [hf]
 have hpr:∀b,p.preds i b=f.preds b:=fun b=>by simp [Prg.preds,hf]
 refine W.whileI (fun (a:Nat) F S=>a≤f.blks.length∧F 1=.int .i64 i∧F 2=.ptr 0 0 0∧F 5=.ptr 1 0 0∧F 7=.ptr 2 0 0∧Has natc 1 S (F 8) (List.range a)∧Bel S (F 8)∧F 25=.int .i64 f.blks.length∧F 26=.int .i64 a∧2 < S.next∧(∀q c sz,F 8=.sl sz q 0 c→3≤q) ∧
  S.obj 0=some (.row 1 [[p.funsV]])∧S.obj 1=some (.row 3 [func f])∧∃ pv,S.obj 2=some (.row 4 [[.int .i64 f.par,.int .i64 f.vars,f.blksV,pv]])∧pv.one=true∧Has prc 1 S pv ((List.range a).map fun i:Nat=>f.preds i)∧Bel S pv∧Sep (F 8) pv∧(∀q c sz,pv=.sl sz q 0 c→3≤q)) (fun a=>f.blks.length - a) ?_ 0 _ _ ?_
 ·rintro a F S ⟨ha,f1,f2,f5,f7,h8,b8,f25,f26,hn,n8,s0,s1,pv,s2,o2,hpv,bpv,hsep,npv⟩
  by_cases hlt:a < f.blks.length
  ·have e4:=wrapS a (by omega)
   have hl12:=hl.2
   simp [f25,f26,hlt]
   refine Dra.auto [] mix ?_ ?_
   ·kernel_rfl
   simp [classes,f1,f2,f7,s0,s2,f26]
   refine (prog_Preds p i a hp).ret.b (n:=9) (by simp [mapOpt,pict_stab p.funsS.stab]) rfl ?_
   rw [hpr]
   have hcl:(encF intc 1 (f.preds a)).cells=[encF intc 1 (f.preds a)]:=FSl.cells encF_sl
   simp [hcl]
   refine appV_own (e:=prc) (x:=f.preds a) (hpv.new bpv) (by have:=fsl_one (encF_sl (e:=intc) (sz:=1) (l:=f.preds a));simp [okEl,prc,this]) (by simp [room];omega) fun S1 k1 k2 k3=>?_
   simp at k2 k3
   have o1:∀q,q < 3→S1.obj q=S.obj q:=fun q hq=>by
    rw [k3 q (by omega) fun len h=>by have:=npv _ _ _ h;omega,if_neg (by omega)]
   have h81:Has natc 1 S1 (F 8) (List.range a):=h8.keep fun q ⟨len,hq⟩=>by
    have hq1:=b8 _ _ _ hq
    rw [k3 q (by omega) fun c hc=>hsep _ _ _ _ _ hq hc,if_neg (by omega)]
   simp [f7,o1 2 (by omega),s2]
   generalize hS2:S1.set 2 (.row 4 [[.int .i64 f.par,.int .i64 f.vars,f.blksV,.sl 1 (S.next + 1) 0 (a + 1)]])=S2
   have n2:S2.next=S.next + 2:=by rw [← hS2];simp [k2]
   have o2:∀q,q ≠ 2→S2.obj q=S1.obj q:=fun q hq=>by rw [← hS2];simp [hq]
   have o22:S2.obj 2=some (.row 4 [[.int .i64 f.par,.int .i64 f.vars,f.blksV,.sl 1 (S.next + 1) 0 (a + 1)]]):=by rw [← hS2];simp
   clear hS2
   have h82:Has natc 1 S2 (F 8) (List.range a):=h81.keep fun q ⟨len,hq⟩=>o2 q fun e=>by have:=n8 _ _ _ hq;omega
   have b82:Bel S2 (F 8):=b8.mono (by omega)
   refine appV_own (e:=natc) (x:=a) (h82.new b82) rfl (by simp [room];omega) fun S3 m1 m2 m3=>?_
   simp at m2 m3
   have o3:∀q,q < S2.next→(∀len,F 8 ≠ .sl 1 q 0 len)→S3.obj q=S2.obj q:=fun q hq hv=>by rw [m3 q (by omega) hv,if_neg (by omega)]
   simp [f1,f2,f5,f7,f25,f26,e4]
   simp only [new_next,List.length_map,List.length_range] at k1
   simp only [new_next,List.length_range] at m1
   have q8:∀q,q < 3→∀len,F 8 ≠ .sl 1 q 0 len:=fun q hq len h=>by have:=n8 _ _ _ h;omega
   refine ⟨a + 1,by omega,by omega,by rw [List.range_succ];exact m1,Bel.sl (by omega),by omega,by omega,by omega,?_,?_,.sl 1 (S.next + 1) 0 (a + 1),?_,rfl,?_,Bel.sl (by omega),?_,?_⟩
   ·rw [o3 0 (by omega) (q8 0 (by omega)),o2 0 (by omega),o1 0 (by omega)];exact s0
   ·rw [o3 1 (by omega) (q8 1 (by omega)),o2 1 (by omega),o1 1 (by omega)];exact s1
   ·rw [o3 2 (by omega) (q8 2 (by omega))];exact o22
   ·rw [List.range_succ,List.map_append]
    refine Has.keep (S:=S2) (k1.keep fun q ⟨len,hq⟩=>?_) fun q ⟨len,hq⟩=>?_
    ·cases hq;exact o2 _ (by omega)
    ·cases hq;exact o3 _ (by omega) fun c h=>by have:=b8 _ _ _ h;omega
   ·intro sz sz' q a b h1 h2
    cases h1
    simp at h2;omega
   ·intro q c sz h
    cases h;omega
  ·have:a=f.blks.length:=by omega
   subst this
   have hroom:f.blks.length≤room:=by simp [room];omega
   simp [f25,f26,f5,s1,hroom,f7,s2,show ¬ 2=S.next by omega]
   generalize hS1:S.new (.row 2 (List.replicate f.blks.length [.bool false,.nilsl]))=S1
   have n1:S1.next=S.next + 1:=by rw [← hS1];simp
   have o1:∀q,q < S.next→S1.obj q=S.obj q:=fun q hq=>by rw [← hS1];simp [show ¬ q=S.next by omega]
   have oo:S1.obj S.next=some (.row 2 (els envEl.e (List.replicate f.blks.length Option.none))):=by rw [← hS1];simp [els,El.e,envEl]
   clear hS1
   have hpv1:Has prc 1 S1 pv f.pgr:=hpv.keep fun q ⟨len,hq⟩=>o1 q (bpv _ _ _ hq)
   have h81:Has natc 1 S1 (F 8) (List.range f.blks.length):=h8.keep fun q ⟨len,hq⟩=>o1 q (b8 _ _ _ hq)
   refine solver_RunG (Y:=f.csys) (E:=envEl) (G:=f.pgr) (z:=.bool false) c80 hl.2 (by rw [hpv1.len];simp [Fun.pgr];rfl) (cfun_pict hpv1 hl.1) (pgr_gr f) (by simp [Fun.pgr];rfl) ?_ ?_ ?_ oo (by omega) (by rw [h81.len];simp;rfl) ?_ ?_
   ·intro m hm
    simp only [Fun.pgr,List.mem_map,List.mem_range] at hm
    obtain ⟨k,hk,rfl⟩:=hm
    have h1:=f.predsTo_len (k:Int) f.blks.length
    refine ⟨by show (f.preds k).length < 64;unfold Fun.preds;omega,fun j hj=>?_⟩
    obtain ⟨k2,y,rfl,h2,_⟩:=Fun.preds_mem.1 hj
    have:=(List.getElem?_eq_some_iff.1 h2).1
    exact ⟨by omega,by show (k2:Int) < f.blks.length;omega⟩
   ·intro k m hm
    simp only [Fun.pgr,List.getElem?_map] at hm
    by_cases hk:k < f.blks.length
    ·rw [List.getElem?_range hk] at hm
     exact Option.some.inj hm
    ·rw [List.getElem?_eq_none (by simpa using hk)] at hm;cases hm
   ·refine ⟨fun S2 x k K' hx hk hn2 hr hkeep hK'=>?_,fun a b ha hb=>⟨decide (a=b),by simp,?_⟩⟩
    ·rw [envEl_els] at hr
     have hb2:S2.obj 2=some (.row 4 [[.int .i64 f.par,.int .i64 f.vars,f.blksV,pv]]):=by rw [hkeep 2 (by omega) (by omega),o1 2 (by omega)];exact s2
     have hp2:Has prc 1 S2 pv f.pgr:=hpv1.keep fun q ⟨len,hq⟩=>hkeep q (by have:=bpv _ _ _ hq;omega) (by have:=bpv _ _ _ hq;omega)
     simp
     refine consts_begin (x:=x) hsm ⟨hb2,hp2,by omega⟩ (bpv.mono (by omega)) hk hr (by omega) hx.len hx.ok fun S3 hup=>?_
     have:=hK' S3 hup
     rwa [envEl_e] at this
    ·rw [envEl_e,envEl_e]
     exact consts_same a b (Env.fit.small ha f.wid_lt)
   ·intro S2 hup a ha
    rcases h81 with ⟨_,h⟩ | ⟨q,hq,ho,_⟩
    ·have:f.blks.length=0:=by simpa using h
     omega
    ·have hq1:=b8 _ _ _ hq
     have ha':a < f.blks.length:=ha
     refine ⟨.ptr q a 0,by rw [hq,ix_sl (by simpa using ha')];simp,?_⟩
     simp [hup.2 q (by omega),ho,ha',natc,els]
   ·intro S2 hr hn2 hkeep
    rw [envEl_els] at hr
    simp
    refine ⟨9,?_⟩
    have hlen:f.cin.length=f.blks.length:=f.cin_len
    refine pict_row hr (by simp;exact hlen) (by simp;exact hlen) fun k e he=>?_
    simp only [els,List.getElem?_map] at he ⊢
    cases hz:f.csys.sol[k]? with
    | none=>rw [hz] at he;cases he
    | some m =>
     rw [hz] at he;cases he
     have hz':f.cin[k]?=some m:=hz
     rw [hz']
     exact picts_envc m
 ·simp
  exact ⟨Has.nil,Bel.nil,Has.nil,Bel.nil,Sep.nilL⟩
end Go.Proofs.YtbhkamemheaajaaGreatDoor.Vm
namespace Go.Proofs.YtbhkamemheaajaaGreatDoor.Vm
open Go Go.RowKit
variable {N:Nat} {g:Glob}
theorem consts_In_none (p:Prg) (i:Int) (hp:p.Fit) (hf:p.fn i=Option.none):Ret P (gl N) false 35 [encP p,.int .i64 i] .nilsl:=by
 refine Ret.in c35 (by simp) ?_
 simp [k35]
 refine (prog_Fun p i hp).use (n:=9) (by simp [mapOpt,pict_stab p.funsS.stab]) (by simp [solids,AV.solid,p.funsS.solid]) ?_
 simp [hf]
 exact RK.stab rfl
noncomputable def Prg.cin (p:Prg) (i:Int):List Env:=match p.fn i with
 | none=>[]
 | some f=>f.cin
noncomputable def Prg.cinV (p:Prg) (i:Int):AV:=match p.fn i with
 | none=>.nilsl
 | some f=>.fsl 2 (els envc f.cin)
theorem Prg.cinS (p:Prg) (i:Int):FSl envc 2 (p.cinV i) (p.cin i):=by
 unfold Prg.cinV Prg.cin
 split
 ·exact .nil
 ·exact .mk
theorem consts_In (p:Prg) (i:Int) (hp:p.Fit):Ret P (gl N) false 35 [encP p,.int .i64 i] (p.cinV i):=by
 unfold Prg.cinV
 split
 ·rename_i hf;exact consts_In_none p i hp hf
 ·rename_i f hf;exact consts_In_some p i hp hf
noncomputable def Fun.cat (f:Fun) (j:Nat) (k:Nat):Env:=pastL (f.cin.getD j Option.none) ((f.code j).take k)
noncomputable def Prg.cat (p:Prg) (i j k:Int):Env:=match p.fn i with
 | none=>Option.none
 | some f=>match f.blk j with
  | none=>Option.none
  | some b=>if 0≤k∧k≤b.ins.length then f.cat j.toNat k.toNat else Option.none
theorem FSl.upto {α:Type} {e:α→List AV} {sz:Nat} {v:AV} {l:List α} (h:FSl e sz v l) {k:Nat} (hk:k≤l.length):∃ v',pk (.slice sz false true false) [v,.int .i64 (k:Int)]=some v'∧FSl e sz v' (l.take k):=by
 rcases h with rfl | ⟨rfl,rfl⟩
 ·refine ⟨.fsl sz (els e (l.take k)),?_,.inl rfl⟩
  simp [pk,bnds,hk,els]
 ·refine ⟨.nilsl,?_,.inr ⟨rfl,by simp⟩⟩
  have:k=0:=by simpa using hk
  subst this
  simp [pk,bnds]
theorem consts_At (p:Prg) (i j k:Int) (hp:p.Fit):Ret P (gl N) false 106 [encP p,.int .i64 i,.int .i64 j,.int .i64 k] (encE (p.cat i j k)):=by
 refine Ret.in c106 (by simp) ?_
 simp [k106]
 refine (prog_Block p i j hp).use (n:=9) (by simp [mapOpt,pict_stab p.funsS.stab]) (by simp [solids,AV.solid,p.funsS.solid]) ?_
 simp
 cases hb:p.blk i j with
 | none =>
  have hat:p.cat i j k=Option.none:=by
   unfold Prg.cat
   split
   ·rfl
   ·rename_i f hf
    have:f.blk j=Option.none:=by simpa [Prg.blk,hf] using hb
    rw [this]
  simp
  rw [hat]
  exact RK.agg (by simp [AV.stab])
 | some b =>
  obtain ⟨f,hf,hfb⟩:∃ f,p.fn i=some f∧f.blk j=some b:=by
   unfold Prg.blk at hb
   cases hf:p.fn i with
   | none=>rw [hf] at hb;cases hb
   | some f=>rw [hf] at hb;exact ⟨f,rfl,hb⟩
  have hbj:f.live j=true∧f.blks[j.toNat]?=some b:=by
   unfold Fun.blk at hfb
   split at hfb
   ·rename_i h;exact ⟨h,hfb⟩
   ·cases hfb
  have hat:p.cat i j k=if 0≤k∧k≤b.ins.length then f.cat j.toNat k.toNat else Option.none:=by
   unfold Prg.cat
   rw [hf];simp only [hfb]
  simp
  refine gua_decF (fun h1=>?_) (fun h1=>?_) <;> simp [h1,b.insS.len]
  ·refine bra_dec (fun h2=>?_) (fun h2=>?_) <;> simp [h2]
   ·rw [hat,if_neg (by omega)]
    exact RK.agg (by simp [AV.stab])
   ·obtain ⟨kn,rfl⟩:∃ n:Nat,k=(n:Int):=⟨k.toNat,by omega⟩
    obtain ⟨jn,rfl⟩:∃ n:Nat,j=(n:Int):=⟨j.toNat,by have:=(live_lt hbj.1).1;omega⟩
    obtain ⟨v',hv',hvf⟩:=b.insS.upto (k:=kn) (by omega)
    have hbl:=(fn_fit hp hf).ins b (List.mem_of_getElem? hbj.2)
    have hjl:=(live_lt hbj.1).2.1
    have hci:f.cin[jn]?=some (f.cin.getD jn Option.none):=by
     have:jn < f.cin.length:=by rw [f.cin_len];omega
     simp [List.getD_eq_getElem?_getD,List.getElem?_eq_getElem this]
    have hcf:FSl envc 2 (.fsl 2 (els envc f.cin)) f.cin:=FSl.mk
    have hco:f.code jn=b.ins:=by have:=hbj.2;simp only [Int.toNat_natCast] at this;simp [Fun.code,this]
    refine Dra.auto [] mix ?_ ?_
    ·kernel_rfl
    simp [classes]
    refine (consts_In_some p i hp hf).b (n:=9) (by simp [mapOpt,pict_stab p.funsS.stab]) (by simp [solids,AV.solid,p.funsS.solid]) ?_
    simp [hcf.idx hci,hv']
    refine (consts_past (f.cin.getD jn Option.none) (b.ins.take kn) v' hvf (by simp;omega) ((f.cin_fit jn).small f.wid_lt)).b (n:=9) (by simp [mapOpt,pict_stab hvf.stab]) (by simp [solids,AV.solid,hvf.solid]) ?_
    simp
    rw [hat,if_pos (by omega)]
    exact RK.env (by simp [Fun.cat,hco])
  ·rw [hat,if_neg (by omega)]
   exact RK.agg (by simp [AV.stab])
theorem consts_Value (p:Prg) (i j k v:Int) (hp:p.Fit):Ret P (gl N) false 69 [encP p,.int .i64 i,.int .i64 j,.int .i64 k,.int .i64 v] (encV ((p.cat i j k).get v)):=by
 refine Ret.in c69 (by simp) ?_
 simp [k69]
 refine (consts_At p i j k hp).use (n:=9) (by simp [mapOpt,pict_stab p.funsS.stab]) (by simp [solids,AV.solid,p.funsS.solid]) ?_
 simp
 refine (env_GetFlat (p.cat i j k) v).use (n:=9) (by simp [mapOpt]) rfl ?_
 simp
 exact RK.agg (by simp [AV.stab])
def knownK (e:Env) (l:List Ins):Nat→List Int
 | 0=>[]
 | k + 1=>knownK e l k ++ (match l[k]? with
  | some x=>if 0≤x.def∧((pastL e (l.take (k + 1))).get x.def).k=1 then [x.id] else []
  | none=>[])
theorem knownK_len (e:Env) (l:List Ins):∀k,(knownK e l k).length≤k
 | 0=>Nat.le_refl _
 | k + 1=>by
  have:=knownK_len e l k
  rw [knownK]
  split
  ·split <;> simp <;> omega
  ·simp;omega
noncomputable def Fun.knownB (f:Fun) (j:Nat):List Int:=knownK (f.cin.getD j Option.none) (f.code j) (f.code j).length
noncomputable def Fun.knownTo (f:Fun) (j:Nat):List Int:=((List.range j).map f.knownB).flatten
theorem Fun.knownTo_succ (f:Fun) (j:Nat):f.knownTo (j + 1)=f.knownTo j ++ f.knownB j:=by simp [Fun.knownTo,List.range_succ]
noncomputable def Fun.known (f:Fun):List Int:=f.knownTo f.blks.length
noncomputable def Prg.known (p:Prg) (i:Int):List Int:=match p.fn i with
 | none=>[]
 | some f=>sorted f.known
theorem Fun.knownB_len {p:Prg} {f:Fun} (h:FunOK p f) (j:Nat):(f.knownB j).length≤16:=by
 refine Nat.le_trans (knownK_len _ _ _) ?_
 unfold Fun.code
 cases hb:f.blks[j]? with
 | none=>simp
 | some b=>simp;exact (h.blk (List.mem_of_getElem? hb)).2.2.2.1
theorem Fun.knownTo_len {p:Prg} {f:Fun} (h:FunOK p f) (j:Nat):(f.knownTo j).length≤j * 16:=by
 induction j with
 | zero=>simp [Fun.knownTo]
 | succ j ih =>
  have:=f.knownB_len h j
  rw [f.knownTo_succ,List.length_append];omega
theorem consts_Known_none (p:Prg) (i:Int) (hp:p.Fit) (hf:p.fn i=Option.none):OwnL P (gl N) intc 1 71 [encP p,.int .i64 i] []:=by
 refine OwnL.in c71 (by simp) ?_
 simp [k71]
 refine (prog_Fun p i hp).use (n:=9) (by simp [mapOpt,pict_stab p.funsS.stab]) (by simp [solids,AV.solid,p.funsS.solid]) ?_
 simp [hf]
 refine (consts_In_none p i hp hf).use (n:=9) (by simp [mapOpt,pict_stab p.funsS.stab]) (by simp [solids,AV.solid,p.funsS.solid]) ?_
 simp
 refine W.whileI (fun (k:Nat) F S=>F 7=.nilsl∧F 22=.int .i64 0∧F 23=.int .i64 0) (fun k=>k) ?_ 0 _ _ ?_
 ·rintro k F S ⟨f7,f22,f23⟩
  simp [f22,f23,f7]
  refine slices_Sort_nil ?_
  simp [f7]
  exact Has.nil
 ·simp
theorem consts_Known_some (p:Prg) (i:Int) (hp:p.Fit) {f:Fun} (hf:p.fn i=some f):OwnL P (gl N) intc 1 71 [encP p,.int .i64 i] (sorted f.known):=by
 have hok:=fn_ok hf
 have hl:=hok.len
 have hsm:=fn_fit hp hf
 refine OwnL.in c71 (by simp) ?_
 simp [k71]
 refine (prog_Fun p i hp).use (n:=9) (by simp [mapOpt,pict_stab p.funsS.stab]) (by simp [solids,AV.solid,p.funsS.solid]) ?_
 simp [hf]
 refine (consts_In_some p i hp hf).use (n:=9) (by simp [mapOpt,pict_stab p.funsS.stab]) (by simp [solids,AV.solid,p.funsS.solid]) ?_
 have hcf:FSl envc 2 (.fsl 2 (els envc f.cin)) f.cin:=FSl.mk
 have hcl:=f.cin_len
 simp [hcl]
 refine W.whileI (fun (a:Nat) F S=>a≤f.blks.length∧F 5=.ptr 1 0 0∧F 21=.fsl 2 (els envc f.cin)∧F 22=.int .i64 f.blks.length∧F 23=.int .i64 a∧1 < S.next∧S.obj 1=some (.row 3 [func f])∧Has intc 1 S (F 7) (f.knownTo a)∧Bel S (F 7)∧(∀q c sz,F 7=.sl sz q 0 c→2≤q)) (fun a=>f.blks.length - a) ?_ 0 _ _ ?_
 ·rintro a F S ⟨ha,f5,f21,f22,f23,hn,s1,h7,b7,n7⟩
  by_cases hlt:a < f.blks.length
  ·have e4:=wrapS a (by omega)
   obtain ⟨b,hb⟩:∃ b,f.blks[a]?=some b:=⟨_,List.getElem?_eq_getElem hlt⟩
   have hci:f.cin[a]?=some (f.cin.getD a Option.none):=by
    have:a < f.cin.length:=by rw [f.cin_len];omega
    simp [List.getD_eq_getElem?_getD,List.getElem?_eq_getElem this]
   have hco:f.code a=b.ins:=by simp [Fun.code,hb]
   have hkl:=f.knownTo_len hok a
   have hbl:=(hok.blk (List.mem_of_getElem? hb)).2.2.2.1
   have hl12:=hl.2
   have hkb:f.knownB a=knownK (f.cin.getD a Option.none) b.ins b.ins.length:=by simp [Fun.knownB,hco]
   have hcfit:=f.cin_fit a
   generalize f.cin.getD a Option.none=e0 at *
   simp [f22,f23,hlt]
   simp [f21,f23,hcf.idx hci,f5,s1,show ¬ 1=S.next by omega,f.blksS.idx hb,b.insS.len]
   refine W.whileI (fun (k:Nat) F' S'=>k≤b.ins.length∧F' 5=.ptr 1 0 0∧F' 21=.fsl 2 (els envc f.cin)∧F' 22=.int .i64 f.blks.length∧F' 23=.int .i64 a∧F' 9=.ptr S.next 0 0∧F' 33=b.insV∧F' 34=.int .i64 b.ins.length∧F' 35=.int .i64 k∧S.next < S'.next∧S'.obj 1=some (.row 3 [func f])∧S'.obj S.next=some (.row 2 [envc (pastL e0 (b.ins.take k))]) ∧
    Has intc 1 S' (F' 7) (f.knownTo a ++ knownK e0 b.ins k)∧Bel S' (F' 7)∧(∀q c sz,F' 7=.sl sz q 0 c→2≤q∧q ≠ S.next)) (fun k=>b.ins.length - k) ?_ 0 _ _ ?_
   ·rintro k F' S' ⟨hk,f5,f21,f22,f23,f9,f33,f34,f35,hn',s1',s9,h7,b7,n7⟩
    by_cases hltk:k < b.ins.length
    ·have e5:=wrapS k (by omega)
     obtain ⟨x,hx⟩:∃ x,b.ins[k]?=some x:=⟨_,List.getElem?_eq_getElem hltk⟩
     have hst:pastL e0 (b.ins.take (k + 1))=x.flat (pastL e0 (b.ins.take k)):=by unfold pastL;rw [foldl_take_succ _ _ _ _ _ hx]
     have hkk:knownK e0 b.ins (k + 1)=knownK e0 b.ins k ++ if 0≤x.def∧((x.flat (pastL e0 (b.ins.take k))).get x.def).k=1 then [x.id] else []:=by rw [knownK,hx,hst]
     have hkn:=knownK_len e0 b.ins k
     simp [f34,f35,hltk]
     simp [f33,f35,b.insS.idx hx,f9,s9,show ¬ S.next=S'.next by omega]
     refine (instr_Flat (pastL e0 (b.ins.take k)) x ((pastL_fit hcfit).small f.wid_lt)).use (n:=9) (by simp [mapOpt]) (by simp [solids,AV.solid]) ?_
     simp [f9,s9,show ¬ S.next=S'.next by omega,show ¬ S'.next=S.next by omega]
     refine (instr_Def x).use (n:=9) (by rfl) rfl ?_
     simp
     generalize hS1:((S'.new (AObj.row 11 [[AV.int IntKind.i64 0,AV.int IntKind.i64 0,AV.int IntKind.i64 0,AV.int IntKind.i64 0,AV.int IntKind.i64 0,AV.int IntKind.i64 0,AV.int IntKind.i64 0,AV.int IntKind.i64 0,AV.int IntKind.i64 0,AV.int IntKind.i64 0,AV.int IntKind.i64 0]])).set S'.next
      (AObj.row 11 [[AV.int IntKind.i64 x.id,AV.int IntKind.i64 x.kind,AV.int IntKind.i64 x.dst,AV.int IntKind.i64 x.a,AV.int IntKind.i64 x.b,AV.int IntKind.i64 x.c,AV.int IntKind.i64 x.f,AV.int IntKind.i64 x.n,AV.int IntKind.i64 x.x0,AV.int IntKind.i64 x.x1,AV.int IntKind.i64 x.x2]])).set S.next (AObj.row 2 [envc (x.flat (pastL e0 (b.ins.take k)))])=S1
     have n1:S1.next=S'.next + 1:=by rw [← hS1];simp
     have o9:S1.obj S.next=some (.row 2 [envc (x.flat (pastL e0 (b.ins.take k)))]):=by rw [← hS1];simp
     have oi:S1.obj S'.next=some (.row 11 [insc x]):=by rw [← hS1];simp [show ¬ S'.next=S.next by omega]
     have oq:∀q,q < S'.next→q ≠ S.next→S1.obj q=S'.obj q:=fun q h1 h2=>by rw [← hS1];simp [h2,show ¬ q=S'.next by omega]
     clear hS1
     have h71:Has intc 1 S1 (F' 7) (f.knownTo a ++ knownK e0 b.ins k):=h7.keep fun q ⟨len,hq⟩=>oq q (b7 _ _ _ hq) (n7 _ _ _ hq).2
     have b71:Bel S1 (F' 7):=b7.mono (by omega)
     have no:¬ (0≤x.def∧((x.flat (pastL e0 (b.ins.take k))).get x.def).k=1)→knownK e0 b.ins (k + 1)=knownK e0 b.ins k:=fun h=>by rw [hkk,if_neg h];simp
     refine gua_dec (fun h1=>?_) (fun h1=>?_) <;> simp [h1]
     ·simp [f9,o9]
      refine (env_GetFlat (x.flat (pastL e0 (b.ins.take k))) x.def).use (n:=9) (by simp [mapOpt]) rfl ?_
      simp
      refine bra_dec (fun h2=>?_) (fun h2=>?_) <;> simp [oi]
      ·refine appV_own (e:=intc) (x:=x.id) (h71.new b71) rfl (by simp [room];omega) fun S2 m1 m2 m3=>?_
       simp at m2 m3
       simp [f5,f9,f21,f22,f23,f33,f34,f35,e5]
       have q7:∀q len,F' 7=.sl 1 q 0 len→q ≠ 1∧q ≠ S.next:=fun q len h=>⟨by have:=(n7 _ _ _ h).1;omega,(n7 _ _ _ h).2⟩
       refine ⟨k + 1,by omega,by omega,by omega,by omega,?_,?_,?_,Bel.sl (by omega),by omega,by omega⟩
       ·rw [m3 1 (by omega) (fun len h=>(q7 _ _ h).1 rfl),if_neg (by omega),oq 1 (by omega) (by omega)];exact s1'
       ·rw [m3 S.next (by omega) (fun len h=>(q7 _ _ h).2 rfl),if_neg (by omega),o9,hst]
       ·rw [hkk,if_pos ⟨h1,h2⟩,← List.append_assoc]
        simpa using m1
      ·simp [f5,f9,f21,f22,f23,f33,f34,f35,e5]
       refine ⟨k + 1,by omega,by omega,by omega,by omega,?_,by rw [o9,hst],?_,b71,n7⟩
       ·rw [oq 1 (by omega) (by omega)];exact s1'
       ·rw [no fun h=>h2 h.2];exact h71
     ·simp [f5,f9,f21,f22,f23,f33,f34,f35,e5]
      refine ⟨k + 1,by omega,by omega,by omega,by omega,?_,by rw [o9,hst],?_,b71,n7⟩
      ·rw [oq 1 (by omega) (by omega)];exact s1'
      ·rw [no fun h=>h1 h.1];exact h71
    ·have:k=b.ins.length:=by omega
     subst this
     simp [f34,f35,f5,f21,f22,f23,e4]
     refine ⟨a + 1,by omega,by omega,by omega,by omega,s1',?_,b7,fun q c sz h=>(n7 q c sz h).1⟩
     rw [f.knownTo_succ,hkb];exact h7
   ·simp [f5,f21,f22,f23,show ¬ 1=S.next by omega]
    refine ⟨s1,rfl,?_,b7.mono (by simp),fun q c sz h=>⟨n7 q c sz h,by have:=b7 sz q c h;omega⟩⟩
    have:f.knownTo a ++ knownK e0 b.ins 0=f.knownTo a:=by simp [knownK]
    rw [this]
    exact h7.keep fun q ⟨len,hq⟩=>by simp [show ¬ q=S.next from by have:=b7 _ _ _ hq;omega]
  ·have:a=f.blks.length:=by omega
   subst this
   simp [f22,f23]
   have hkl:=f.knownTo_len hok f.blks.length
   refine slices_Sort h7 (by omega) fun S1 h1 _ _=>?_
   simp
   exact h1
 ·simp
  exact ⟨Has.nil,Bel.nil⟩
theorem consts_Known (p:Prg) (i:Int) (hp:p.Fit):OwnL P (gl N) intc 1 71 [encP p,.int .i64 i] (p.known i):=by
 unfold Prg.known
 split
 ·rename_i hf;exact consts_Known_none p i hp hf
 ·rename_i f hf;exact consts_Known_some p i hp hf
end Go.Proofs.YtbhkamemheaajaaGreatDoor.Vm
namespace Go.Proofs.YtbhkamemheaajaaGreatDoor.Vm
open Go Go.RowKit
variable {N:Nat} {g:Glob}
theorem ref01_Ints (xs ys:List Int) (v w:AV) (hv:FSl intc 1 v xs) (hw:FSl intc 1 w ys) (hl:xs.length < 2 ^ 40):Ret P g false 39 [v,w] (.bool (decide (xs=ys))):=by
 refine Ret.in c39 (by simp) ?_
 simp [k39,hv.len,hw.len]
 by_cases hlen:xs.length=ys.length
 ·simp [hlen,hv.len]
  refine W.whileI (fun (k:Nat) F S=>k≤ys.length∧xs.take k=ys.take k∧F 0=v∧F 1=w∧F 5=.int .i64 k) (fun k=>ys.length - k) ?_ 0 _ _ ?_
  ·rintro k F S ⟨hk,hp,h0,h1,h5⟩
   by_cases hlt:k < ys.length
   ·simp [h0,h5,hv.len,hlen,hlt]
    refine Dra.auto [] mix ?_ ?_
    ·kernel_rfl
    obtain ⟨y,hy⟩:∃ y,ys[k]?=some y:=⟨_,List.getElem?_eq_getElem (by omega)⟩
    obtain ⟨x,hx⟩:∃ x,xs[k]?=some x:=⟨_,List.getElem?_eq_getElem (by omega)⟩
    have e4:=wrapS k (by omega)
    simp [classes,h0,h1,h5,hv.idx hx,hw.idx hy,intc]
    refine bra_ndec (fun hxy=>?_) (fun hxy=>?_)
    ·simp [hxy]
     refine RK.eq ?_ rfl
     have:xs ≠ ys:=by rintro rfl;rw [hx] at hy;simp at hy;exact hxy hy
     simp [this]
    ·simp [hxy,e4,h5,h0,h1]
     refine ⟨k + 1,by omega,by omega,?_,by omega⟩
     rw [List.take_add_one,List.take_add_one,hp,hx,hy]
     have:x=y:=hxy
     subst this;rfl
   ·have:k=ys.length:=by omega
    subst this
    simp [h0,h5,hv.len,hlen]
    refine RK.eq ?_ rfl
    rw [List.take_length,← hlen,List.take_length] at hp
    simp [hp]
  ·simp
 ·have hne:xs ≠ ys:=fun h=>hlen (by rw [h])
  have hlen':¬ ((xs.length:Int)=ys.length):=by omega
  simp [hlen,hlen']
  exact RK.eq (by simp [hne]) rfl
def Env.vals (e:Env):List Val:=e.getD []
def Env.vV:Env→AV
 | none=>.nilsl
 | some l=>.fsl 2 (els valc l)
theorem Env.vS (e:Env):FSl valc 2 e.vV e.vals:=by
 cases e with
 | none=>exact .nil
 | some l=>exact .mk
theorem envc_is (e:Env):envc e=[.bool e.isSome,e.vV]:=by cases e <;> rfl
@[simp] theorem Env.vV_none:Env.vV Option.none=.nilsl:=_root_.id rfl
@[simp] theorem Env.vV_some {l:List Val}:Env.vV (some l)=.fsl 2 (els valc l):=_root_.id rfl
@[simp] theorem Env.vV_one (e:Env):e.vV.one=true:=fsl_one e.vS
def envT (e:Env):List AV:=[.bool e.isSome,encF valc 2 e.vals]
theorem theirFlat_ret (e:Env) (he:e.small):Ret P g false 83 [encE e] (.agg (envT e)):=by
 refine Ret.in c83 (by simp) ?_
 have hvl:e.vals.length < 2 ^ 20:=by
  cases e with
  | none=>simp [Env.vals]
  | some l=>exact he l rfl
 have hv:=e.vS
 rw [encE,envc_is]
 simp [k83]
 refine W.whileI (fun (a:Nat) F S=>a≤e.vals.length∧F 1=.ptr 0 0 0∧F 2=.ptr 1 0 0∧F 3=.ptr 2 0 0∧F 4=.int .i64 a∧2 < S.next∧S.obj 0=some (.row 2 [[.bool e.isSome,e.vV]])∧S.obj 1=some (.row 2 [[.bool false,.nilsl]])∧∃ w,S.obj 2=some (.row 2 [[.bool e.isSome,w]])∧w.one=true∧Has valc 2 S w (e.vals.take a)∧Bel S w∧(∀q c,w=.sl 2 q 0 c→3≤q)) (fun a=>e.vals.length - a) ?_ 0 _ _ ?_
 ·rintro a F S ⟨ha,f1,f2,f3,f4,hn,s0,s1,w,s2,ow,hw,bw,nw⟩
  simp [f1,f4,s0,hv.len]
  by_cases hlt:a < e.vals.length
  ·have e4:=wrapS a (by omega)
   obtain ⟨x,hx⟩:∃ x,e.vals[a]?=some x:=⟨_,List.getElem?_eq_getElem hlt⟩
   simp [hlt]
   refine Dra.auto [] mix ?_ ?_
   ·kernel_rfl
   simp [classes,f1,f3,f4,s0,s2,hv.idx hx]
   refine appV_own (e:=valc) (x:=x) (hw.new bw) rfl (by simp [room];omega) fun S1 m1 m2 m3=>?_
   simp at m2 m3
   have o1:∀q,q < 3→S1.obj q=S.obj q:=fun q hq=>by
    rw [m3 q (by omega) fun len h=>by have:=nw _ _ h;omega,if_neg (by omega)]
   simp [f1,f2,f3,f4,e4,o1 2 (by omega),s2]
   refine ⟨a + 1,by omega,by omega,by omega,by omega,by rw [o1 0 (by omega)];exact s0,by rw [o1 1 (by omega)];exact s1,?_,Bel.sl (by simp;omega),by omega⟩
   rw [take_succ_get hx]
   refine Has.keep (S:=S1) (by simpa using m1) fun q ⟨len,hq⟩=>?_
   cases hq
   simp [show ¬ S.next + 1=2 by omega]
  ·have:a=e.vals.length:=by omega
   subst this
   rw [List.take_length] at hw
   simp [hlt,f2,f3,s1,s2,ow]
   refine ⟨9,?_⟩
   have hp:=(hw.keep (S':=S.set 1 (.row 2 [[.bool e.isSome,w]])) fun q ⟨len,hq⟩=>by have:=nw _ _ hq;simp [show ¬ q=1 by omega]).pict (n:=6)
   simp [mapOpt,hp,envT]
 ·simp
  exact ⟨Has.nil,Bel.nil⟩
theorem ref04_SameFlat (a b:Bool) (xs ys:List Val) (v w:AV) (hv:FSl valc 2 v xs) (hw:FSl valc 2 w ys) (hl:xs.length < 2 ^ 40):Ret P g false 82 [.agg [.bool a,v],.agg [.bool b,w]] (.bool (decide (a=b∧xs=ys))):=by
 refine Ret.in c82 (by simp) ?_
 have ov:=fsl_one hv
 have ow:=fsl_one hw
 simp [k82,ov,ow]
 by_cases hab:a=b
 ·subst hab
  simp [hv.len,hw.len]
  by_cases hlen:xs.length=ys.length
  ·simp [hlen]
   refine W.whileI (fun (k:Nat) F S=>k≤ys.length∧xs.take k=ys.take k∧F 2=.ptr 0 0 0∧F 3=.ptr 1 0 0∧F 5=.int .i64 k∧S.obj 0=some (.row 2 [[.bool a,v]])∧S.obj 1=some (.row 2 [[.bool a,w]])) (fun k=>ys.length - k) ?_ 0 _ _ ?_
   ·rintro k F S ⟨hk,hp,h2,h3,h5,s0,s1⟩
    simp [h2,h5,s0,hv.len,hlen]
    by_cases hlt:k < ys.length
    ·simp [hlt]
     refine Dra.auto [] mix ?_ ?_
     ·kernel_rfl
     obtain ⟨y,hy⟩:∃ y,ys[k]?=some y:=⟨_,List.getElem?_eq_getElem (by omega)⟩
     obtain ⟨x,hx⟩:∃ x,xs[k]?=some x:=⟨_,List.getElem?_eq_getElem (by omega)⟩
     have e4:=wrapS k (by omega)
     have hc:=val_cells_eq x y
     simp at hc
     simp [classes,h2,h3,h5,s0,s1,hv.idx hx,hw.idx hy,hc]
     refine bra_ndec (fun hxy=>?_) (fun hxy=>?_)
     ·simp [hxy]
      refine RK.eq ?_ rfl
      have:xs ≠ ys:=by rintro rfl;rw [hx] at hy;simp at hy;exact hxy hy
      simp [this]
     ·simp [hxy,e4,h2,h3,h5,s0,s1]
      refine ⟨k + 1,by omega,by omega,?_,by omega⟩
      rw [List.take_add_one,List.take_add_one,hp,hx,hy]
      have:x=y:=hxy
      subst this;rfl
    ·have:k=ys.length:=by omega
     subst this
     simp
     refine RK.eq ?_ rfl
     rw [List.take_length,← hlen,List.take_length] at hp
     simp [hp]
   ·simp
  ·have hne:xs ≠ ys:=fun h=>hlen (by rw [h])
   have hlen':¬ ((xs.length:Int)=ys.length):=by omega
   simp [hlen,hlen']
   exact RK.eq (by simp [hne]) rfl
 ·have:(a == b)=false:=by simpa using hab
  simp [this]
  exact RK.eq (by simp [hab]) rfl
theorem sameT (a b:Env) (ha:a.small):Ret P g false 82 [.agg (envT a),.agg (envT b)] (.bool (decide (a=b))):=by
 have hal:a.vals.length < 2 ^ 40:=by
  cases a with
  | none=>simp [Env.vals]
  | some l=>have:=ha l rfl;simp [Env.vals];omega
 have h:=ref04_SameFlat (g:=g) a.isSome b.isSome a.vals b.vals (encF valc 2 a.vals) (encF valc 2 b.vals) encF_sl encF_sl hal
 have e:decide (a.isSome=b.isSome∧a.vals=b.vals)=decide (a=b):=by
  rw [decide_eq_decide]
  cases a <;> cases b <;> simp [Env.vals]
 rwa [e] at h
theorem envT_pict (e:Env) {S:St} {n:Nat}:mapOpt (pict S [] (n + 1)) (envT e)=some (envT e):=by
 have h:FSl valc 2 (encF valc 2 e.vals) e.vals:=encF_sl
 simp [envT,mapOpt,pict_stab h.stab]
end Go.Proofs.YtbhkamemheaajaaGreatDoor.Vm
namespace Go.Proofs.YtbhkamemheaajaaGreatDoor.Vm
open Go Go.RowKit
variable {N:Nat} {g:Glob}
def aqB:Blk:=⟨true,[⟨0,0,1,0,0,5,0,0,0,0,0⟩,⟨1,3,0,0,1,0,0,0,0,0,0⟩],false,[],true⟩
def aqF:Fun:=⟨0,2,[aqB],false⟩
def aqP:Prg:=⟨[aqF],false⟩
theorem aqP_fit:aqP.Fit:=by
 refine ⟨by decide,fun f hf=>?_⟩
 simp only [aqP,List.mem_singleton] at hf
 subst hf
 refine ⟨by decide,fun b hb=>?_,fun b hb=>?_⟩ <;> simp only [aqF,List.mem_singleton] at hb <;> subst hb <;> decide
theorem aqP_sane:aqP.sane=true:=by
 rw [Prg.sane_iff]
 refine ⟨by decide,fun f hf=>?_,?_⟩
 ·simp only [aqP,List.mem_singleton] at hf
  subst hf
  have h1:aqF.varsOK:=by decide
  have h2:aqF.blksOK:=by decide
  rw [Prg.funMsg,if_neg (by simpa using h1),if_neg (by simpa using h2)]
  have hb:aqP.blkMsg aqF aqB=[]:=by
   have hr:rises aqB.out=true:=by simp [rises,risesTo,aqB]
   have hi:(aqB.ins.any fun i=>!aqP.insOK aqF i)=false:=by
    rw [List.any_eq_false]
    intro x hx
    simp only [aqB,List.mem_cons,List.not_mem_nil,or_false] at hx
    rcases hx with rfl | rfl
    ·rw [insOK_of (by decide) (by decide) (by decide) (by decide)];simp
    ·rw [insOK_of (by decide) (by decide) (by decide) (by decide)];simp
   rw [Prg.blkMsg,hr,hi]
   decide
  show firstMsg aqP aqF [aqB]=[]
  rw [firstMsg,if_pos hb,firstMsg]
 ·decide
theorem aqP_fn:aqP.fn 0=some aqF:=by
 unfold Prg.fn
 rw [if_pos ⟨by omega,aqP_sane⟩];rfl
theorem aqF_cin:aqF.cin=[some (startL 0 2)]:=by
 have h:=aqF.cin_least
 have hl:aqF.cin.length=1:=aqF.cin_len
 match hc:aqF.cin,hl with
 | [e],_ =>
  rw [hc] at h
  have h2:e=aqF.csys.ev [e] 0:=h.fix 0 e rfl
  have h3:aqF.csys.ev [e] 0=some (startL 0 2):=rfl
  rw [h2,h3]
theorem aqP_cat:aqP.cat 0 0 2=pastL (some (startL 0 2)) aqB.ins:=by
 unfold Prg.cat
 rw [aqP_fn]
 have hb:aqF.blk 0=some aqB:=rfl
 simp only [hb]
 have hl:aqB.ins.length=2:=rfl
 rw [if_pos (by omega),Fun.cat,aqF_cin]
 rfl
theorem aqP_known:aqP.known 0=[0,1]:=by
 unfold Prg.known
 rw [aqP_fn]
 have h1:aqF.known=[0,1]:=by
  unfold Fun.known
  have h2:aqF.knownB 0=[0,1]:=by
   unfold Fun.knownB
   rw [aqF_cin]
   decide
  show aqF.knownTo 1=_
  rw [Fun.knownTo_succ,h2];rfl
 show sorted aqF.known=_
 rw [h1]
 exact List.mergeSort_of_pairwise (by decide)
def aqV0:AV:=.fsl 11 (els insc aqB.ins)
def aqV1:AV:=.fsl 3 [[.bool true,aqV0,.nilsl]]
def aqS0:St:=(((((St.empty.new (AObj.row 11 [[AV.int IntKind.i64 0,AV.int IntKind.i64 0,AV.int IntKind.i64 1,AV.int IntKind.i64 0,AV.int IntKind.i64 0,AV.int IntKind.i64 5,AV.int IntKind.i64 0,AV.int IntKind.i64 0,AV.int IntKind.i64 0,AV.int IntKind.i64 0,AV.int IntKind.i64 0],
  [AV.int IntKind.i64 1,AV.int IntKind.i64 3,AV.int IntKind.i64 0,AV.int IntKind.i64 0,AV.int IntKind.i64 1,AV.int IntKind.i64 0,AV.int IntKind.i64 0,AV.int IntKind.i64 0,AV.int IntKind.i64 0,AV.int IntKind.i64 0,AV.int IntKind.i64 0]])).new (AObj.row 3 [[AV.bool true,AV.sl 11 0 0 2,AV.nilsl]])).new (AObj.row 3 [[AV.int IntKind.i64 0,AV.int IntKind.i64 2,AV.sl 3 1 0 1]])).new (AObj.row 1 [[AV.nilsl]])).set 3 (AObj.row 1 [[AV.sl 3 2 0 1]]))
def aqS1:St:=(aqS0.drop 0).set 1 (.row 3 [[.bool true,aqV0,.nilsl]])
def aqS2:St:=(aqS1.drop 1).set 2 (.row 3 [[.int .i64 0,.int .i64 2,aqV1]])
theorem aqZ1:Fzn aqS0 aqS1 0:=by
 refine ⟨rfl,rfl,fun sz es he z hz=>?_,fun q hq=>?_⟩
 ·have h0:aqS0.obj 0=some (.row 11 (els insc aqB.ins)):=rfl
  rw [h0] at he;cases he
  have:(els insc aqB.ins).flatten.all AV.solid=true:=by decide
  exact List.all_eq_true.1 this z hz
 ·by_cases h1:q=1
  ·subst h1
   exact .inr (.inr ⟨3,_,_,rfl,rfl,⟨.inl rfl,.inr ⟨11,0,2,els insc aqB.ins,rfl,rfl,by decide,rfl⟩,.inl rfl,trivial⟩,trivial⟩)
  ·exact .inr (.inl (by simp [aqS1,hq,h1]))
theorem aqZ2:Fzn aqS1 aqS2 1:=by
 refine ⟨rfl,rfl,fun sz es he z hz=>?_,fun q hq=>?_⟩
 ·have h0:aqS1.obj 1=some (.row 3 [[.bool true,aqV0,.nilsl]]):=rfl
  rw [h0] at he;cases he
  have:([[AV.bool true,aqV0,AV.nilsl]]:List (List AV)).flatten.all AV.solid=true:=by decide
  exact List.all_eq_true.1 this z hz
 ·by_cases h1:q=2
  ·subst h1
   exact .inr (.inr ⟨3,_,_,rfl,rfl,⟨.inl rfl,.inl rfl,.inr ⟨3,0,1,_,rfl,rfl,by decide,rfl⟩,trivial⟩,trivial⟩)
  ·exact .inr (.inl (by simp [aqS2,hq,h1]))
theorem aqP_pict0:mapOpt (pict aqS0 [] 9) [.agg [.sl 3 2 0 1],.int .i64 0,.int .i64 0,.int .i64 2,.int .i64 0]=some [encP aqP,.int .i64 0,.int .i64 0,.int .i64 2,.int .i64 0]:=by rfl
theorem aqP_pict2:mapOpt (pict aqS2 [] 9) [.agg [.sl 3 2 0 1],.int .i64 0]=some [encP aqP,.int .i64 0]:=by rfl
theorem awake20_ret:Ret P (gl N) false 33 [] (.bool true):=by
 refine Ret.in c33 (by simp) ?_
 simp [k33]
 have m0:(aqP.cat 0 0 2).get 0=⟨1,5⟩:=by rw [aqP_cat];decide
 have m1:wrap32 5=5:=rfl
 rw [show (((((St.empty.new (AObj.row 11 [[AV.int IntKind.i64 0,AV.int IntKind.i64 0,AV.int IntKind.i64 1,AV.int IntKind.i64 0,AV.int IntKind.i64 0,AV.int IntKind.i64 5,AV.int IntKind.i64 0,AV.int IntKind.i64 0,AV.int IntKind.i64 0,AV.int IntKind.i64 0,AV.int IntKind.i64 0],
  [AV.int IntKind.i64 1,AV.int IntKind.i64 3,AV.int IntKind.i64 0,AV.int IntKind.i64 0,AV.int IntKind.i64 1,AV.int IntKind.i64 0,AV.int IntKind.i64 0,AV.int IntKind.i64 0,AV.int IntKind.i64 0,AV.int IntKind.i64 0,AV.int IntKind.i64 0]])).new (AObj.row 3 [[AV.bool true,AV.sl 11 0 0 2,AV.nilsl]])).new (AObj.row 3 [[AV.int IntKind.i64 0,AV.int IntKind.i64 2,AV.sl 3 1 0 1]])).new (AObj.row 1 [[AV.nilsl]])).set 3 (AObj.row 1 [[AV.sl 3 2 0 1]]))=aqS0 from rfl]
 refine Cal.freeze ((consts_Value aqP 0 0 2 0 aqP_fit).use (n:=9) aqP_pict0 (by rfl) (.inr ⟨0,_,aqS1,.inl rfl,aqZ1,?_⟩))
 rw [m0]
 simp
 refine Cal.freeze ((flat_Of 5).use (n:=9) (by rfl) (by rfl) (.inr ⟨1,_,aqS2,.inl rfl,aqZ2,?_⟩))
 rw [m1]
 have b2:aqS2.obj 3=some (.row 1 [[.sl 3 2 0 1]]):=rfl
 simp [b2]
 refine (consts_Known aqP 0 aqP_fit).ret.use (n:=9) aqP_pict2 rfl ?_
 rw [aqP_known]
 have b3:aqS2.obj 2=some (.row 3 [[.int .i64 0,.int .i64 2,aqV1]]):=rfl
 have b4:aqS2.next=4:=rfl
 have hk:encF intc 1 [0,1]=.fsl 1 [[.int .i64 0],[.int .i64 1]]:=rfl
 simp [b4,hk]
 refine (ref01_Ints [0,1] [0,1] _ _ .mk .mk (by simp)).use (n:=9) (by rfl) rfl ?_
 simp [b2,b3]
 refine (consts_Start aqF).use (n:=9) (by rfl) (by decide) ?_
 simp
 exact RK.eq rfl rfl
end Go.Proofs.YtbhkamemheaajaaGreatDoor.Vm
namespace Go.Proofs.YtbhkamemheaajaaGreatDoor.Vm
open Go Go.RowKit
variable {N:Nat} {g:Glob}
@[simp] theorem guaD_none {d op b yes no}:GuaD d op b .none yes no=no:=_root_.id rfl
@[simp] theorem gua_none {d op b F S K}:Gua P g .none b d op F S K=K .none S:=_root_.id rfl
theorem FunOK.wid {p:Prg} {f:Fun} (h:FunOK p f):(f.wid:Int)=f.vars:=by
 have:=h.vars
 unfold Fun.varsOK at this
 unfold Fun.wid capN
 omega
end Go.Proofs.YtbhkamemheaajaaGreatDoor.Vm
namespace Go.Proofs.YtbhkamemheaajaaGreatDoor.Vm
open Go Go.RowKit
variable {N:Nat} {g:Glob}
def Fun.isOne (f:Fun) (b k:Nat) (x:Ins):Prop:=0≤x.def∧((f.cat b (k + 1)).get x.def).k=1
noncomputable instance (f:Fun) (b k:Nat) (x:Ins):Decidable (f.isOne b k x):=Classical.propDecidable _
structure LsI (p:Prg) (f:Fun) (S:St):Prop where
 s0:S.obj 0=some (.row 1 [[p.funsV]])
 s1:S.obj 1=some (.row 3 [func f])
 n:1 < S.next
theorem LsI.up {p:Prg} {f:Fun} {S S':St} (h:LsI p f S) (hu:∀q,q < 2→S'.obj q=S.obj q) (hn:S.next≤S'.next):LsI p f S':=⟨by rw [hu 0 (by omega)];exact h.s0,by rw [hu 1 (by omega)];exact h.s1,by have:=h.n;omega⟩
end Go.Proofs.YtbhkamemheaajaaGreatDoor.Vm
namespace Go.Proofs.YtbhkamemheaajaaGreatDoor.Vm
open Go Go.RowKit
variable {N:Nat} {g:Glob}
inductive Rch (G:List (List Int)) (a0:Nat):Nat→Prop
 | base:Rch G a0 a0
 | step {a b:Nat} {l:List Int} (h:Rch G a0 a) (hl:G[a]?=some l) (hb:(b:Int) ∈ l):Rch G a0 b
structure Wlk (G:List (List Int)) (a0:Nat) (T:List Nat) (met:List Bool) (way:List (Nat × Nat)):Prop where
 m:∀x:Nat,met[x]?=some true ↔ x ∈ T ∨ ∃ nx,(x,nx) ∈ way
 r:∀x:Nat,met[x]?=some true→Rch G a0 x
 c:∀x ∈ T,∀l,G[x]?=some l→∀b:Nat,(b:Int) ∈ l→met[b]?=some true
 w:∀a nx,(a,nx) ∈ way→∀l,G[a]?=some l→∀k,k < nx→∀b:Nat,l[k]?=some (b:Int)→met[b]?=some true
 z:met[a0]?=some true
theorem set_true {met:List Bool} {b x:Nat} (hb:met[b]?=some false):(met.set b true)[x]?=some true ↔ met[x]?=some true ∨ x=b:=by
 have hl:=(List.getElem?_eq_some_iff.1 hb).1
 by_cases h:x=b
 ·subst h;simp [hl]
 ·rw [List.getElem?_set_ne (Ne.symm h)];simp [h]
theorem Wlk.start {G:List (List Int)} {a0:Nat} (h:a0 < G.length):Wlk G a0 [] ((List.replicate G.length false).set a0 true) [(a0,0)]:=by
 have hf:(List.replicate G.length false)[a0]?=some false:=by simp [h]
 have hn:∀x:Nat,¬ (List.replicate G.length false)[x]?=some true:=fun x hx=>by
  have:=List.mem_of_getElem? hx
  rw [List.mem_replicate] at this
  cases this.2
 refine ⟨fun x=>?_,fun x hx=>?_,fun x hx=>by (cases hx),fun a nx ha l hl k hk=>?_,?_⟩
 ·rw [set_true hf];simp [hn x]
 ·rw [set_true hf] at hx
  rcases hx with hx | rfl
  ·exact absurd hx (hn x)
  ·exact .base
 ·simp at ha;omega
 ·rw [set_true hf];exact .inr rfl
theorem Wlk.push {G:List (List Int)} {a0 a nx b:Nat} {T:List Nat} {met:List Bool} {pre:List (Nat × Nat)} {l:List Int} (h:Wlk G a0 T met (pre ++ [(a,nx)])) (hl:G[a]?=some l) (hx:l[nx]?=some (b:Int)) (hb:met[b]?=some false):Wlk G a0 T (met.set b true) (pre ++ [(a,nx)] ++ [(b,0)]):=by
 have ha:met[a]?=some true:=(h.m a).2 (.inr ⟨nx,by simp⟩)
 refine ⟨fun x=>?_,fun x hx'=>?_,fun x hx' l' hl' c hc=>?_,fun a' nx' ha' l' hl' k hk c hc=>?_,?_⟩
 ·rw [set_true hb,h.m x]
  constructor
  ·rintro ((h1 | ⟨n,h1⟩) | rfl)
   ·exact .inl h1
   ·exact .inr ⟨n,List.mem_append_left _ h1⟩
   ·exact .inr ⟨0,by simp⟩
  ·rintro (h1 | ⟨n,h1⟩)
   ·exact .inl (.inl h1)
   ·rcases List.mem_append.1 h1 with h1 | h1
    ·exact .inl (.inr ⟨n,h1⟩)
    ·simp at h1;exact .inr h1.1
 ·rw [set_true hb] at hx'
  rcases hx' with hx' | rfl
  ·exact h.r x hx'
  ·exact .step (h.r a ha) hl (List.mem_of_getElem? hx)
 ·rw [set_true hb];exact .inl (h.c x hx' l' hl' c hc)
 ·rcases List.mem_append.1 ha' with h1 | h1
  ·rw [set_true hb];exact .inl (h.w a' nx' h1 l' hl' k hk c hc)
  ·simp at h1;omega
 ·rw [set_true hb];exact .inl h.z
theorem Wlk.next {G:List (List Int)} {a0 a nx b:Nat} {T:List Nat} {met:List Bool} {pre:List (Nat × Nat)} {l:List Int} (h:Wlk G a0 T met (pre ++ [(a,nx)])) (hl:G[a]?=some l) (hx:l[nx]?=some (b:Int)) (hb:met[b]?=some true):Wlk G a0 T met (pre ++ [(a,nx + 1)]):=by
 refine ⟨fun x=>?_,h.r,h.c,fun a' nx' ha' l' hl' k hk c hc=>?_,h.z⟩
 ·rw [h.m x]
  constructor
  ·rintro (h1 | ⟨n,h1⟩)
   ·exact .inl h1
   ·rcases List.mem_append.1 h1 with h1 | h1
    ·exact .inr ⟨n,List.mem_append_left _ h1⟩
    ·simp at h1;exact .inr ⟨nx + 1,by simp [h1.1]⟩
  ·rintro (h1 | ⟨n,h1⟩)
   ·exact .inl h1
   ·rcases List.mem_append.1 h1 with h1 | h1
    ·exact .inr ⟨n,List.mem_append_left _ h1⟩
    ·simp at h1;exact .inr ⟨nx,by simp [h1.1]⟩
 ·rcases List.mem_append.1 ha' with h1 | h1
  ·exact h.w a' nx' (List.mem_append_left _ h1) l' hl' k hk c hc
  ·simp at h1
   obtain ⟨rfl,rfl⟩:=h1
   rw [hl] at hl';cases hl'
   by_cases hkn:k=nx
   ·subst hkn
    rw [hx] at hc
    have:b=c:=by simp at hc;omega
    rw [← this];exact hb
   ·exact h.w a' nx (by simp) l hl k (by omega) c hc
theorem Wlk.done {G:List (List Int)} {a0:Nat} {T:List Nat} {met:List Bool} (h:Wlk G a0 T met []) (x:Nat):x ∈ T ↔ Rch G a0 x:=by
 have hm:∀y:Nat,met[y]?=some true ↔ y ∈ T:=fun y=>by rw [h.m y];simp
 constructor
 ·intro hx;exact h.r x ((hm x).2 hx)
 ·intro hr
  induction hr with
  | base=>exact (hm a0).1 h.z
  | step _ hl hb ih=>exact (hm _).1 (h.c _ ih _ hl _ hb)
noncomputable def marks (n:Nat) (T:Nat→Prop):List Bool:=open Classical in (List.range n).map fun x=>decide (T x)
end Go.Proofs.YtbhkamemheaajaaGreatDoor.Vm
namespace Go.Proofs.YtbhkamemheaajaaGreatDoor.Vm
open Go Go.RowKit
variable {N:Nat} {g:Glob}
def Blk.gout (b:Blk):List Int:=if b.on=true then b.out else []
def Blk.gvB (b:Blk):AV:=if b.on=true then b.outV else .nilsl
theorem Blk.gS (b:Blk):FSl intc 1 b.gvB b.gout:=by
 unfold Blk.gvB Blk.gout
 split
 ·exact b.outS
 ·exact .inr ⟨rfl,rfl⟩
def Fun.gv (f:Fun) (j:Nat):AV:=match f.blks[j]? with | some b=>b.gvB | none=>.nilsl
def Fun.gout (f:Fun):List (List Int):=f.blks.map Blk.gout
end Go.Proofs.YtbhkamemheaajaaGreatDoor.Vm
namespace Go.Proofs.YtbhkamemheaajaaGreatDoor.Vm
open Go Go.RowKit
variable {N:Nat} {g:Glob}
def aw (w:AV):List AV:=[w]
end Go.Proofs.YtbhkamemheaajaaGreatDoor.Vm
namespace Go.Proofs.YtbhkamemheaajaaGreatDoor.Vm
open Go Go.RowKit
set_option maxRecDepth 100000
variable {N:Nat} {g:Glob}
theorem cntL_le {α:Type} {p q:α→Bool} (h:∀x,p x=true→q x=true):∀l:List α,(l.filter p).length≤(l.filter q).length
 | []=>Nat.le_refl _
 | x :: l=>by
  have ih:=cntL_le h l
  simp only [List.filter_cons]
  by_cases hp:p x=true
  ·simp [hp,h x hp,ih]
  ·by_cases hq:q x=true
   ·simp [hp,hq];omega
   ·simp [hp,hq,ih]
theorem cntL_lt {α:Type} {p q:α→Bool} (h:∀x,p x=true→q x=true) {a:α}:∀l:List α,a ∈ l→p a=false→q a=true→(l.filter p).length < (l.filter q).length
 | [],ha,_,_=>by cases ha
 | x :: l,ha,h1,h2=>by
  have ih:=cntL_le h l
  simp only [List.filter_cons]
  rcases List.mem_cons.1 ha with rfl | ha
  ·simp [h1,h2];omega
  ·have ih2:=cntL_lt h l ha h1 h2
   by_cases hp:p x=true
   ·simp [hp,h x hp,ih2]
   ·by_cases hq:q x=true
    ·simp [hp,hq];omega
    ·simp [hp,hq,ih2]
structure Flw where
 w:Nat
 rs:List (List Int)
 gen:List BSet
 kill:List BSet
def GoodW (w:Nat) (x:List BSet):Prop:=∀s ∈ x,s.OK∧s.n=w
theorem GoodW.at {w:Nat} (hw:w≤1024) {x:List BSet} (h:GoodW w x) (i:Nat):(x.getD i (BSet.new w)).OK∧(x.getD i (BSet.new w)).n=w:=by
 rw [List.getD_eq_getElem?_getD]
 cases hx:x[i]? with
 | none=>exact ⟨BSet.new_ok hw,rfl⟩
 | some s=>exact h s (List.mem_of_getElem? hx)
structure Flw.OK (F:Flw):Prop where
 w:F.w≤128
 n0:0 < F.rs.length
 n:F.rs.length≤12
 gl:F.gen.length=F.rs.length
 kl:F.kill.length=F.rs.length
 g:GoodW F.w F.gen
 k:GoodW F.w F.kill
 r:∀m ∈ F.rs,m.length < 64∧∀j ∈ m,0≤j∧j < F.rs.length
def orAll (w:Nat) (x:List BSet) (js:List Int):BSet:=js.foldl (fun s j=>s.or (x.getD j.toNat (BSet.new w))) (BSet.new w)
theorem orAll_fold {w:Nat} (hw:w≤1024) {x:List BSet} (h:GoodW w x) (js:List Int):∀s:BSet,s.OK→s.n=w→((js.foldl (fun s j=>s.or (x.getD j.toNat (BSet.new w))) s).OK∧(js.foldl (fun s j=>s.or (x.getD j.toNat (BSet.new w))) s).n=w ∧
  ∀v,(js.foldl (fun s j=>s.or (x.getD j.toNat (BSet.new w))) s).mem v=(s.mem v || js.any fun j=>(x.getD j.toNat (BSet.new w)).mem v)):=by
 induction js with
 | nil=>intro s hs hn;exact ⟨hs,hn,fun v=>by simp⟩
 | cons j js ih =>
  intro s hs hn
  have hj:=h.at hw j.toNat
  obtain ⟨h1,h2,h3⟩:=ih (s.or (x.getD j.toNat (BSet.new w))) (BSet.or_ok hs hj.1) (by rw [BSet.or_n,hn,hj.2];exact Nat.max_self w)
  refine ⟨h1,h2,fun v=>?_⟩
  rw [List.foldl_cons,h3 v,BSet.or_mem hs hj.1,List.any_cons,Bool.or_assoc]
theorem orAll_ok {w:Nat} (hw:w≤1024) {x:List BSet} (h:GoodW w x) (js:List Int):(orAll w x js).OK∧(orAll w x js).n=w:=by
 obtain ⟨h1,h2,_⟩:=orAll_fold hw h js (BSet.new w) (BSet.new_ok hw) rfl
 exact ⟨h1,h2⟩
theorem orAll_mem {w:Nat} (hw:w≤1024) {x:List BSet} (h:GoodW w x) (js:List Int) (v:Nat):(orAll w x js).mem v=js.any fun j=>(x.getD j.toNat (BSet.new w)).mem v:=by
 rw [orAll,(orAll_fold hw h js (BSet.new w) (BSet.new_ok hw) rfl).2.2 v,BSet.new_mem,Bool.false_or]
theorem minus_n (a b:BSet):(a.minus b).n=max a.n b.n:=rfl
def Flw.ev (F:Flw) (x:List BSet) (i:Nat):BSet:=(F.gen.getD i (BSet.new F.w)).or ((orAll F.w x (F.rs.getD i [])).minus (F.kill.getD i (BSet.new F.w)))
variable {F:Flw}
theorem Flw.OK.lt (hF:F.OK):F.w≤1024:=by have:=hF.w;omega
theorem Flw.ev_ok (hF:F.OK) {x:List BSet} (h:GoodW F.w x) (i:Nat):(F.ev x i).OK∧(F.ev x i).n=F.w:=by
 have h1:=orAll_ok hF.lt h (F.rs.getD i [])
 have h2:=hF.g.at hF.lt i
 have h3:=hF.k.at hF.lt i
 refine ⟨BSet.or_ok h2.1 (BSet.minus_ok h1.1 h3.1),?_⟩
 rw [Flw.ev,BSet.or_n,minus_n,h1.2,h2.2,h3.2,Nat.max_self,Nat.max_self]
theorem Flw.ev_mem (hF:F.OK) {x:List BSet} (h:GoodW F.w x) (i v:Nat):(F.ev x i).mem v=((F.gen.getD i (BSet.new F.w)).mem v || (((F.rs.getD i []).any fun j=>(x.getD j.toNat (BSet.new F.w)).mem v) && !(F.kill.getD i (BSet.new F.w)).mem v)):=by
 have h1:=orAll_ok hF.lt h (F.rs.getD i [])
 have h2:=hF.g.at hF.lt i
 have h3:=hF.k.at hF.lt i
 rw [Flw.ev,BSet.or_mem h2.1 (BSet.minus_ok h1.1 h3.1),BSet.minus_mem h1.1 h3.1,orAll_mem hF.lt h]
theorem Flw.rd_in (hF:F.OK) (i:Nat):(F.rs.getD i []).length < 64∧∀j ∈ F.rs.getD i [],0≤j∧j < F.rs.length:=by
 rw [List.getD_eq_getElem?_getD]
 cases hm:F.rs[i]? with
 | none=>exact ⟨by simp,fun j h=>by simp at h⟩
 | some m=>exact hF.r m (List.mem_of_getElem? hm)
theorem orAll_same {w k:Nat} {x:List BSet} {a:BSet}:∀(js:List Int) (s:BSet),(∀j ∈ js,j.toNat ≠ k)→js.foldl (fun s j=>s.or ((x.set k a).getD j.toNat (BSet.new w))) s=js.foldl (fun s j=>s.or (x.getD j.toNat (BSet.new w))) s
 | [],s,_=>rfl
 | j :: js,s,h=>by
  rw [List.foldl_cons,List.foldl_cons,orAll_same js _ fun i hi=>h i (by simp [hi])]
  have:(x.set k a).getD j.toNat (BSet.new w)=x.getD j.toNat (BSet.new w):=by
   rw [List.getD_eq_getElem?_getD,List.getD_eq_getElem?_getD,List.getElem?_set_ne (Ne.symm (h j (by simp)))]
  rw [this]
def setHt (w:Nat) (s:BSet):Nat:=((List.range w).filter fun v=>s.mem v).length
def setLe (a b:BSet):Prop:=∀v,a.mem v=true→b.mem v=true
def Flw.sys (F:Flw) (hF:F.OK):Sys BSet where
 n:=F.rs.length
 ev:=F.ev
 rd i:=F.rs.getD i []
 ok s:=s.OK∧s.n=F.w
 le:=setLe
 bot:=BSet.new F.w
 ht:=setHt F.w
 top:=F.w
 refl a _:=fun _ h=>h
 trans a b c _ _ _ h1 h2:=fun v h=>h2 v (h1 v h)
 anti a b ha hb h1 h2:=BSet.ext ha.1 hb.1 (by rw [ha.2,hb.2]) fun v _=>by
  rw [Bool.eq_iff_iff];exact ⟨h1 v,h2 v⟩
 botOk:=⟨BSet.new_ok hF.lt,rfl⟩
 botLe a _:=fun v h=>by rw [BSet.new_mem] at h;cases h
 htop a _:=by
  have:=List.length_filter_le (fun v=>a.mem v) (List.range F.w)
  simpa [setHt] using this
 hlt a b ha hb hle hne:=by
  have hex:∃ v,v < F.w∧a.mem v=false∧b.mem v=true:=by
   apply Classical.byContradiction
   intro hno
   refine hne (BSet.ext ha.1 hb.1 (by rw [ha.2,hb.2]) fun v hv=>?_)
   rw [ha.2] at hv
   cases h1:a.mem v with
   | true=>exact (hle v h1).symm
   | false =>
    cases h2:b.mem v with
    | false=>rfl
    | true=>exact (hno ⟨v,hv,h1,h2⟩).elim
  obtain ⟨v,hv,h1,h2⟩:=hex
  exact cntL_lt (fun x h=>hle x h) (a:=v) _ (List.mem_range.2 hv) h1 h2
 evOk x i _ hx _:=Flw.ev_ok hF hx i
 mono x y i hx hy hxo hyo hle hi:=fun v h=>by
  rw [Flw.ev_mem hF hxo] at h
  rw [Flw.ev_mem hF hyo]
  simp only [Bool.or_eq_true,Bool.and_eq_true,List.any_eq_true] at h ⊢
  rcases h with h | ⟨⟨j,hj,h⟩,hk⟩
  ·exact .inl h
  ·refine .inr ⟨⟨j,hj,?_⟩,hk⟩
   have hjl:=(Flw.rd_in hF i).2 j hj
   obtain ⟨a,ha⟩:∃ a,x[j.toNat]?=some a:=⟨_,List.getElem?_eq_getElem (by omega)⟩
   obtain ⟨b,hb⟩:∃ b,y[j.toNat]?=some b:=⟨_,List.getElem?_eq_getElem (by omega)⟩
   rw [List.getD_eq_getElem?_getD,ha] at h
   rw [List.getD_eq_getElem?_getD,hb]
   exact hle _ a b ha hb v h
 dep x i k a hno:=by
  unfold Flw.ev orAll
  rw [orAll_same _ _ hno]
 nn i j hj:=((Flw.rd_in hF i).2 j hj).1
noncomputable def Flw.sol (F:Flw) (hF:F.OK):List BSet:=(F.sys hF).sol
theorem Flw.sol_least (hF:F.OK):(F.sys hF).Least (F.sol hF):=(F.sys hF).least
theorem Flw.sol_len (hF:F.OK):(F.sol hF).length=F.rs.length:=(F.sol_least hF).fit.len
end Go.Proofs.YtbhkamemheaajaaGreatDoor.Vm
