/- A part of the proof: Uj Uk Ul Um Un. -/
import Derived.Test.YtchkknkjhiaooaaGreatDoorQ29
set_option linter.unusedVariables false
set_option linter.unusedSimpArgs false
set_option linter.constructorNameAsVariable false
namespace Go.Proofs.YtchkknkjhiaooaaGreatDoor.Vm
open Go Go.RowKit
variable {N:Nat} {g:Glob}
structure InB (k b A:Nat) (same:Bool) (x:List Env) (e:Env) (F:AFrame) (S:St):Prop where
 f11:F 11=.int .i64 k
 f12:F 12=.bool same
 f13:F 13=.int .i64 b
 f14:F 14=.ptr A 0 0
 s2:S.obj 2=some (.row 2 (els envT x))
 sA:S.obj A=some (.row 2 [[.bool e.isSome,encF valc 2 e.vals]])
 a:3≤A∧A < S.next
set_option maxHeartbeats 1000000 in
theorem ref20_In_some (p:Prg) (i:Int) (hp:p.Fit) {f:Fun} (hf:p.fn i=some f):Ret P (gl N) false 34 [encP p,.int .i64 i] (.fsl 2 (els envT f.cin)):=by
 have hok:=fn_ok hf
 have hl:=hok.len
 have hsm:=fn_fit hp hf
 have hroom:f.blks.length≤room:=by simp [room];omega
 have hw6:f.wid≤6:=by have:=hok.wid;have:=hok.vars.2.2.2;omega
 have hwl:=f.wid_lt
 have hone:∀e:Env,(encF valc 2 e.vals).one=true:=fun e=>fsl_one (encF_sl (e:=valc) (sz:=2) (l:=e.vals))
 have hpT:∀(e:Env) {S:St} {n:Nat},pict S [] (n + 2) (.agg [.bool e.isSome,encF valc 2 e.vals])=some (.agg (envT e)):=fun e {S n}=>by
  have h:FSl valc 2 (encF valc 2 e.vals) e.vals:=encF_sl
  simp [mapOpt,pict_stab h.stab,envT]
 have hsol:∀e:Env,(encF valc 2 e.vals).solid=true:=fun e=>by
  have h:FSl valc 2 (encF valc 2 e.vals) e.vals:=encF_sl
  exact h.solid
 have hpgl:f.pgr.length=f.blks.length:=by simp [Fun.pgr]
 have hpga:∀k,k < f.blks.length→f.pgr[k]?=some (f.preds (k:Int)):=fun k hk=>by simp [Fun.pgr,hk]
 have hpre:∀k:Int,p.preds i k=f.preds k:=fun k=>by simp [Prg.preds,hf]
 refine Ret.in c34 (by simp) ?_
 simp [k34]
 refine (ref06_Fun p i hp).use (n:=9) (by simp [mapOpt,pict_stab p.funsS.stab]) (by simp [solids,AV.solid,p.funsS.solid]) ?_
 rw [hf]
 simp [f.blksS.len,hroom]
 refine W.whileI (fun (k:Nat) F S=>k≤f.blks.length∧F 1=.int .i64 i∧F 2=.ptr 0 0 0∧F 5=.ptr 1 0 0∧F 7=.int .i64 f.blks.length∧F 8=.sl 2 2 0 f.blks.length∧F 10=.int .i64 k∧S.obj 0=some (.row 1 [[p.funsV]])∧S.obj 1=some (.row 3 [func f])∧S.obj 2=some (.row 2 (List.replicate f.blks.length [.bool false,.nilsl]))∧3≤S.next∧Has prc 1 S (F 9) (f.pgr.take k)∧Bel S (F 9)∧∀q c,F 9=.sl 1 q 0 c→3≤q) (fun k=>f.blks.length - k) ?_ 0 _ _ ?_
 ·rintro k F S ⟨hk,f1,f2,f5,f7,f8,f10,s0,s1,s2,hn,h9,b9,y9⟩
  simp [f7,f10]
  by_cases hlt:k < f.blks.length
  ·have e4:=wrapS k (by omega)
   simp [hlt,f1,f2,f10,s0]
   refine (ref06_Preds p i k hp).ret.use (n:=9) (by simp [mapOpt,pict_stab p.funsS.stab]) rfl ?_
   rw [hpre]
   have hpf:FSl intc 1 (encF intc 1 (f.preds (k:Int))) (f.preds (k:Int)):=encF_sl
   have hpo:=fsl_one hpf
   simp [one_cells hpo]
   refine appV_own (e:=prc) (x:=f.preds (k:Int)) (h9.new b9) (by simp [okEl,prc,hpo]) (by simp [room];omega) fun S1 m1 m2 m3=>?_
   simp at m2 m3
   have o1:∀q,q < 3→S1.obj q=S.obj q:=fun q hq=>by
    rw [m3 q (by omega) fun len h=>by have:=y9 _ _ h;omega,if_neg (by omega)]
   simp [f1,f2,f5,f7,f8,f10,e4]
   refine ⟨k + 1,by omega,by omega,by omega,by rw [o1 0 (by omega)];exact s0,by rw [o1 1 (by omega)];exact s1,by rw [o1 2 (by omega)];exact s2,by omega,?_,Bel.sl (by omega),by omega⟩
   rw [take_succ_get (hpga k hlt)]
   simpa [hpgl] using m1
  ·have:k=f.blks.length:=by omega
   subst this
   rw [List.take_of_length_le (by omega)] at h9
   generalize hprV:F 9=prV at *
   have hstart:f.csys.Mid (List.replicate f.blks.length Option.none) (fun i=>i < f.blks.length):=Sys.Mid.start (Y:=f.csys)
   have hI0:InI p i f prV F S:=⟨f1,f2,f5,f7,f8,hprV,s0,s1,hn,h9,b9,y9⟩
   have hs2:S.obj 2=some (.row 2 (els envT (List.replicate f.blks.length Option.none))):=by
    rw [s2]
    simp [els,envT,Env.vals,encF]
   have hg0:f.csys.gap (List.replicate f.blks.length Option.none)≤f.blks.length * 13:=by
    have h1:=gap_le (Y:=f.csys) (List.replicate f.blks.length Option.none)
    have h2:f.csys.top≤13:=by show 1 + 2 * f.wid≤13;omega
    rw [List.length_replicate] at h1
    exact Nat.le_trans h1 (Nat.mul_le_mul_left _ h2)
   have e13:IntKind.i64.wrap ((f.blks.length:Int) * 13)=((f.blks.length * 13:Nat):Int):=by rw [wrap_in (by omega)];omega
   have h13:f.blks.length * 13≤156:=by omega
   simp
   refine W.whileI (fun (k:Nat) F S=>F 11=.int .i64 k∧∃ x,InI p i f prV F S∧S.obj 2=some (.row 2 (els envT x))∧f.csys.Mid x (fun i=>i < f.blks.length)∧f.csys.gap x + k≤f.blks.length * 13) (fun k=>f.blks.length * 13 + 1 - k) ?_ 0 _ _ ?_
   ·clear f1 f2 f5 f7 f8 f10 s0 s1 s2 hn h9 b9 y9 hprV hstart hI0 hs2 hg0
    rintro k F S ⟨f11,x0,hI,s2,hmid,hgap⟩
    have f7:=hI.f7
    have e4:=wrapS k (by omega)
    simp [f7,f11,e13]
    have hkle:(k:Int)≤(f.blks.length:Int) * 13:=by omega
    simp [hkle]
    refine W.whileI (fun (b:Nat) F S=>b≤f.blks.length∧F 11=.int .i64 k∧F 13=.int .i64 b∧∃ same x,F 12=.bool same∧InI p i f prV F S∧S.obj 2=some (.row 2 (els envT x))∧RoI f.csys x0 x b same) (fun b=>f.blks.length - b) ?_ 0 _ _ ?_
    ·clear f7 f11 hI s2
     rintro b F S ⟨hb,f11,f13,same,x,f12,hI,s2,hR⟩
     have f7:=hI.f7
     have f5:=hI.f5
     have s1':=hI.s1
     simp only [func] at s1'
     have hn3:=hI.n
     simp [f7,f13]
     by_cases hltb:b < f.blks.length
     ·have e5:=wrapS b (by omega)
      have hxl:x.length=f.blks.length:=hR.mid.fit.len
      have hxfit:=hR.mid.fit.ok
      obtain ⟨s,hs⟩:∃ s,x[b]?=some s:=⟨_,List.getElem?_eq_getElem (by omega)⟩
      have z1:¬ 1=S.next:=by omega
      simp [hltb,f13]
      refine Bra.cut (fun F' S'=>InI p i f prV F' S'∧InB k b S.next same x (f.cevTo x b []) F' S') (bra_dec (fun h=>?_) (fun h=>?_)) ?_
      ·simp [f5,s1',z1]
       refine (ref20_Start f).use (n:=9) (by simp [mapOpt,pict_stab f.blksS.stab]) (by simp [solids,AV.solid,f.blksS.solid]) ?_
       have he:f.cevTo x b []=some (startL f.par f.vars):=by simp [Fun.cevTo,h,Fun.start]
       rw [he]
       simp [envT,hone]
       exact ⟨hI.up rfl rfl rfl rfl rfl rfl (fun q hq _ _=>by simp [show ¬ q=S.next by omega]) (by simp),⟨by simp [f11],by simp [f12],by simp [f13],by simp,by simp [show ¬ 2=S.next by omega,s2],by simp,by simp;omega⟩⟩
      ·have he:f.cevTo x b []=Option.none:=by simp [Fun.cevTo,h]
       rw [he]
       simp
       exact ⟨hI.up rfl rfl rfl rfl rfl rfl (fun q hq _ _=>by simp [show ¬ q=S.next by omega]) (by simp),⟨by simp [f11],by simp [f12],by simp [f13],by simp,by simp [show ¬ 2=S.next by omega,s2],by simp [Env.vals,encF],by simp;omega⟩⟩
      ·clear f5 f7 f11 f12 f13 s1' hI s2
       generalize hA:S.next=A at *
       rintro F S1 ⟨hI,hB⟩
       have hpl:(f.preds (b:Int)).length≤f.blks.length:=f.predsTo_len _ _
       simp
       refine W.whileI (fun (j:Nat) F S=>j≤(f.preds (b:Int)).length∧F 15=.int .i64 j∧InI p i f prV F S∧InB k b A same x (f.cevTo x b ((f.preds (b:Int)).take j)) F S) (fun j=>(f.preds (b:Int)).length - j) ?_ 0 _ _ ?_
       ·clear hI hB
        rintro j F S2 ⟨hj,f15,hI,hB⟩
        have f9:=hI.f9
        have f8:=hI.f8
        have f5:=hI.f5
        have f13:=hB.f13
        have f14:=hB.f14
        have sA:=hB.sA
        have s2:=hB.s2
        have s1':=hI.s1
        simp only [func] at s1'
        have hA3:=hB.a
        obtain ⟨o,ho1,ho2,ho3⟩:=hI.h.idx (hpga b hltb)
        have hpS:FSl intc 1 (encF intc 1 (f.preds (b:Int))) (f.preds (b:Int)):=encF_sl
        have hrow:(els prc f.pgr)[b]?=some [encF intc 1 (f.preds (b:Int))]:=by simp [els,prc,hpga b hltb]
        have hrow2:∀h:b < (els prc f.pgr).length,(els prc f.pgr)[b]=[encF intc 1 (f.preds (b:Int))]:=fun h=>(List.getElem?_eq_some_iff.1 hrow).2
        simp [f9,f13,f15,ho3,ho2,hrow,hrow2,hpS.len]
        by_cases hltj:j < (f.preds (b:Int)).length
        ·obtain ⟨jj,hjj⟩:∃ y,(f.preds (b:Int))[j]?=some y:=⟨_,List.getElem?_eq_getElem hltj⟩
         obtain ⟨jn,y,rfl,hy,_⟩:=Fun.preds_mem.1 (List.mem_of_getElem? hjj)
         have hjn:jn < f.blks.length:=(List.getElem?_eq_some_iff.1 hy).1
         obtain ⟨u,hu⟩:∃ u,x[jn]?=some u:=⟨_,List.getElem?_eq_getElem (by omega)⟩
         have e6:=wrapS j (by omega)
         have hufit:u.fit f.wid:=hxfit u (List.mem_of_getElem? hu)
         have hf1:=f.cevTo_fit (x:=x) hxfit b ((f.preds (b:Int)).take j)
         have hf2:(pastL u y.ins).fit f.wid:=pastL_fit hufit
         have hst:f.cevTo x b ((f.preds (b:Int)).take (j + 1))=(f.cevTo x b ((f.preds (b:Int)).take j)).join (pastL u y.ins):=by
          unfold Fun.cevTo
          rw [foldl_take_succ _ _ _ _ _ hjj]
          simp [List.getD_eq_getElem?_getD,hu,code_at hy]
         have hbi:=hsm.ins y (List.mem_of_getElem? hy)
         have hru:(els envT x)[jn]?=some [.bool u.isSome,encF valc 2 u.vals]:=by simp [els,hu,envT]
         have hru2:∀h:jn < (els envT x).length,(els envT x)[jn]=[.bool u.isSome,encF valc 2 u.vals]:=fun h=>(List.getElem?_eq_some_iff.1 hru).2
         simp [hltj,f9,f13,f15,ho3,ho2,hrow,hrow2,hpS.idx hjj,intc]
         refine Dra.auto [] mix ?_ ?_
         ·kernel_rfl
         simp [classes,f5,f8,f14,sA,s2,s1',ix_sl hjn,hru,hru2,f.blksS.idx hy]
         refine (ref20_past u y.ins y.insV y.insS (by omega) hufit hwl).b (n:=9) (by simp [mapOpt,hpT,pict_stab y.insS.stab]) (by simp [solids,hsol,y.insS.solid]) ?_
         simp
         refine (ref04_JoinFlat (f.cevTo x b ((f.preds (b:Int)).take j)) (pastL u y.ins) (hf1.small hwl) (hf2.small hwl)).b (n:=9) (by simp [mapOpt,hpT,envT]) (by simp [solids,hsol,envT]) ?_
         rw [← hst]
         simp [envT,f14,sA,f15,e6,hone]
         refine ⟨j + 1,by omega,by omega,by omega,hI.up rfl rfl rfl rfl rfl rfl (fun q hq h2 h3=>?_) (by simp),⟨hB.f11,hB.f12,hB.f13,hB.f14,by simp [show ¬ 2=A by omega,s2],by simp,by simpa using hB.a⟩⟩
         have:¬ q=A:=fun e=>by
          subst e
          rcases h3 with h3 | ⟨L,h3⟩
          ·omega
          ·rw [sA] at h3;cases h3
         simp [this]
        ·have:j=(f.preds (b:Int)).length:=by omega
         subst this
         rw [List.take_length] at hB
         replace sA:=hB.sA
         have hev:f.csys.ev x b=f.cevTo x b (f.preds (b:Int)):=rfl
         have hstep:=hR.step hs
         rw [hev] at hstep
         have hfE:=f.cevTo_fit (x:=x) hxfit b (f.preds (b:Int))
         generalize f.cevTo x b (f.preds (b:Int))=E at *
         have hbl:b < f.blks.length:=hltb
         have hru:(els envT x)[b]?=some [.bool s.isSome,encF valc 2 s.vals]:=by simp [els,hs,envT]
         have hru2:∀h:b < (els envT x).length,(els envT x)[b]=[.bool s.isSome,encF valc 2 s.vals]:=fun h=>(List.getElem?_eq_some_iff.1 hru).2
         have f12:=hB.f12
         have f11:=hB.f11
         have hsame:=sameT (g:=gl N) E s (hfE.small hwl)
         have hset:(els envT x).set b [.bool E.isSome,encF valc 2 E.vals]=els envT (x.set b E):=els_set (e:=envT)
         have finish:∀{S':St},S'=S2.set 2 (.row 2 (els envT (x.set b E)))→InI p i f prV F S':=fun {S'} e=>by
          subst e
          exact hI.up rfl rfl rfl rfl rfl rfl (fun q hq h2 _=>by simp [h2]) (by simp)
         simp
         refine Dra.auto [] mix ?_ ?_
         ·kernel_rfl
         cases same
         ·simp [classes,f12]
          simp [f8,f13,f14,sA,s2,ix_sl hbl,hru,hru2,hone,e5]
          exact ⟨b + 1,by omega,by omega,f11,by omega,hI.up rfl rfl rfl rfl rfl rfl (fun q hq h2 _=>by simp [h2]) (by simp),x.set b E,hset,by simpa using hstep⟩
         ·simp [classes,f12,f8,f13,f14,sA,s2,ix_sl hbl,hru,hru2]
          refine hsame.b (n:=9) (by simp [mapOpt,hpT,envT]) rfl ?_
          generalize hdd:decide (E=s)=dd at *
          cases dd
          ·simp
           simp [f8,f13,f14,sA,s2,ix_sl hbl,hru,hru2,hone,e5]
           exact ⟨b + 1,by omega,by omega,f11,by omega,hI.up rfl rfl rfl rfl rfl rfl (fun q hq h2 _=>by simp [h2]) (by simp),x.set b E,hset,by simpa using hstep⟩
          ·simp
           simp [f8,f13,f14,sA,s2,ix_sl hbl,hru,hru2,hone,e5]
           exact ⟨b + 1,by omega,by omega,f11,by omega,hI.up rfl rfl rfl rfl rfl rfl (fun q hq h2 _=>by simp [h2]) (by simp),x.set b E,hset,by simpa using hstep⟩
       ·simp
        exact ⟨hI.up rfl rfl rfl rfl rfl rfl (fun q _ _ _=>rfl) (Nat.le_refl _),⟨hB.f11,hB.f12,hB.f13,hB.f14,hB.s2,hB.sA,hB.a⟩⟩
     ·have:b=f.blks.length:=by omega
      subst this
      have hxl:x.length=f.blks.length:=hR.mid.fit.len
      have f8:=hI.f8
      cases same
      ·have hdf:=hR.df rfl
       simp [f12]
       simp [f11,e4]
       exact ⟨k + 1,by omega,by omega,hI.up rfl rfl rfl rfl rfl rfl (fun q _ _ _=>rfl) (Nat.le_refl _),x,s2,hR.mid,by omega⟩
      ·have hsol:x=f.cin:=hR.least.sol
       simp [f12,f8]
       rw [← hsol]
       refine ⟨9,pict_row (m:=8) s2 (by simp [hxl]) (by simp [hxl]) fun j z hz=>?_⟩
       rw [hz]
       simp only [els,List.getElem?_map] at hz
       cases hxj:x[j]? with
       | none=>rw [hxj] at hz;cases hz
       | some e=>rw [hxj] at hz;cases hz;exact envT_pict e
    ·simp
     exact ⟨f11,hI.up rfl rfl rfl rfl rfl rfl (fun q _ _ _=>rfl) (Nat.le_refl _),x0,s2,RoI.start hmid⟩
   ·simp
    exact ⟨hI0.up rfl rfl rfl rfl rfl rfl (fun q _ _ _=>rfl) (Nat.le_refl _),_,hs2,hstart,by omega⟩
 ·simp [func]
  exact ⟨Has.nil,Bel.nil⟩
end Go.Proofs.YtchkknkjhiaooaaGreatDoor.Vm
namespace Go.Proofs.YtchkknkjhiaooaaGreatDoor.Vm
open Go Go.RowKit
variable {N:Nat} {g:Glob}
theorem ref20_In_none (p:Prg) (i:Int) (hp:p.Fit) (hf:p.fn i=Option.none):Ret P (gl N) false 34 [encP p,.int .i64 i] .nilsl:=by
 refine Ret.in c34 (by simp) ?_
 simp [k34]
 refine (ref06_Fun p i hp).use (n:=9) (by simp [mapOpt,pict_stab p.funsS.stab]) (by simp [solids,AV.solid,p.funsS.solid]) ?_
 rw [hf]
 simp
 exact RK.stab rfl
noncomputable def Prg.cinT (p:Prg) (i:Int):AV:=match p.fn i with
 | some f=>.fsl 2 (els envT f.cin)
 | none=>.nilsl
theorem Prg.cinTS (p:Prg) (i:Int):FSl envT 2 (p.cinT i) (p.cin i):=by
 unfold Prg.cinT Prg.cin
 cases p.fn i with
 | none=>exact .inr ⟨rfl,rfl⟩
 | some f=>exact .inl rfl
theorem ref20_In (p:Prg) (i:Int) (hp:p.Fit):Ret P (gl N) false 34 [encP p,.int .i64 i] (p.cinT i):=by
 unfold Prg.cinT
 cases hf:p.fn i with
 | none=>exact ref20_In_none p i hp hf
 | some f=>exact ref20_In_some p i hp hf
theorem ref20_At (p:Prg) (i j k:Int) (hp:p.Fit):Ret P (gl N) false 38 [encP p,.int .i64 i,.int .i64 j,.int .i64 k] (.agg (envT (p.cat i j k))):=by
 refine Ret.in c38 (by simp) ?_
 have hz:envT Option.none=[.bool false,.nilsl]:=by simp [envT,encF,Env.vals]
 have hone:∀e:Env,(encF valc 2 e.vals).one=true:=fun e=>fsl_one (encF_sl (e:=valc) (sz:=2) (l:=e.vals))
 have hsol:∀e:Env,(encF valc 2 e.vals).solid=true:=fun e=>by
  have h:FSl valc 2 (encF valc 2 e.vals) e.vals:=encF_sl
  exact h.solid
 have hpT:∀(e:Env) {S:St} {n:Nat},pict S [] (n + 2) (.agg [.bool e.isSome,encF valc 2 e.vals])=some (.agg (envT e)):=fun e {S n}=>by
  have h:FSl valc 2 (encF valc 2 e.vals) e.vals:=encF_sl
  simp [mapOpt,pict_stab h.stab,envT]
 simp [k38]
 refine (ref06_Block p i j hp).use (n:=9) (by simp [mapOpt,pict_stab p.funsS.stab]) (by simp [solids,AV.solid,p.funsS.solid]) ?_
 simp
 cases hb:p.blk i j with
 | none =>
  have hc:p.cat i j k=Option.none:=by
   unfold Prg.cat
   cases hf:p.fn i with
   | none=>rfl
   | some f =>
    have:f.blk j=none:=by simpa [Prg.blk,hf] using hb
    simp [this]
  rw [hc,hz]
  simp
  exact RK.agg (by simp [AV.stab])
 | some b =>
  obtain ⟨f,hf,hfb⟩:∃ f,p.fn i=some f∧f.blk j=some b:=by
   unfold Prg.blk at hb
   cases hf:p.fn i with
   | none=>rw [hf] at hb;cases hb
   | some f=>rw [hf] at hb;exact ⟨f,rfl,hb⟩
  obtain ⟨jn,rfl,hbj,hon⟩:=blk_at hfb
  have hcat:p.cat i jn k=if 0≤k∧k≤b.ins.length then pastL (f.cin.getD jn Option.none) (b.ins.take k.toNat) else Option.none:=by
   unfold Prg.cat
   rw [hf]
   simp only [hfb]
   split
   ·rename_i h
    first
     | rw [if_pos h]
     | skip
    simp [Fun.cat,code_at hbj]
   ·rename_i h
    first
     | rw [if_neg h]
     | skip
    rfl
  simp
  by_cases h1:k < 0
  ·rw [hcat,if_neg (by omega),hz]
   simp [h1]
   exact RK.agg (by simp [AV.stab])
  ·obtain ⟨kn,rfl⟩:=Int.eq_ofNat_of_zero_le (show 0≤k by omega)
   by_cases h2:b.ins.length < kn
   ·rw [hcat,if_neg (by omega),hz]
    simp [h2,b.insS.len]
    exact RK.agg (by simp [AV.stab])
   ·obtain ⟨v',hv',hvf⟩:=b.insS.upto (k:=kn) (by omega)
    have hbl:=(fn_fit hp hf).ins b (List.mem_of_getElem? hbj)
    have hjl:jn < f.cin.length:=by rw [f.cin_len];exact (List.getElem?_eq_some_iff.1 hbj).1
    obtain ⟨u,hu⟩:∃ u,f.cin[jn]?=some u:=⟨_,List.getElem?_eq_getElem hjl⟩
    have hug:f.cin.getD jn Option.none=u:=by rw [List.getD_eq_getElem?_getD,hu];rfl
    have hufit:u.fit f.wid:=by rw [← hug];exact f.cin_fit jn
    have hcv:p.cinT i=.fsl 2 (els envT f.cin):=by unfold Prg.cinT;rw [hf]
    have hcS:FSl envT 2 (.fsl 2 (els envT f.cin)) f.cin:=.inl rfl
    have hIn:=ref20_In p i hp (N:=N)
    rw [hcv] at hIn
    rw [hcat,if_pos (by omega),hug,Int.toNat_natCast]
    simp [h2,b.insS.len]
    refine Dra.auto [] mix ?_ ?_
    ·kernel_rfl
    simp [classes]
    refine hIn.b (n:=9) (by simp [mapOpt,pict_stab p.funsS.stab]) (by simp [solids,AV.solid,p.funsS.solid]) ?_
    have hix:=hcS.idx hu
    simp [hix,hv',envT]
    refine (ref20_past u (b.ins.take kn) v' hvf (by simp;omega) hufit f.wid_lt).b (n:=9) (by simp [mapOpt,hpT,pict_stab hvf.stab]) (by simp [solids,hsol,hvf.solid]) ?_
    simp [envT,hone]
    exact RK.envT rfl
theorem ref20_Value (p:Prg) (i j k v:Int) (hp:p.Fit):Ret P (gl N) false 39 [encP p,.int .i64 i,.int .i64 j,.int .i64 k,.int .i64 v] (encV ((p.cat i j k).get v)):=by
 refine Ret.in c39 (by simp) ?_
 have hpT:∀(e:Env) {S:St} {n:Nat},pict S [] (n + 2) (.agg [.bool e.isSome,encF valc 2 e.vals])=some (.agg (envT e)):=fun e {S n}=>by
  have h:FSl valc 2 (encF valc 2 e.vals) e.vals:=encF_sl
  simp [mapOpt,pict_stab h.stab,envT]
 simp [k39]
 refine (ref20_At p i j k hp).use (n:=9) (by simp [mapOpt,pict_stab p.funsS.stab]) (by simp [solids,AV.solid,p.funsS.solid]) ?_
 simp
 refine (ref04_GetFlat (p.cat i j k) v).use (n:=9) (by simp [mapOpt,envT,hpT]) rfl ?_
 simp
 exact RK.aggEq rfl rfl
end Go.Proofs.YtchkknkjhiaooaaGreatDoor.Vm
namespace Go.Proofs.YtchkknkjhiaooaaGreatDoor.Vm
open Go Go.RowKit
variable {N:Nat} {g:Glob}
theorem asc_eq:∀(a b:List Int),a.Pairwise (· < ·)→b.Pairwise (· < ·)→(∀x,x ∈ a ↔ x ∈ b)→a=b
 | [],[],_,_,_=>rfl
 | [],y :: b,_,_,h=>by have:=(h y).2 (by simp);cases this
 | x :: a,[],_,_,h=>by have:=(h x).1 (by simp);cases this
 | x :: a,y :: b,ha,hb,h=>by
  rw [List.pairwise_cons] at ha hb
  have hx:=(h x).1 (by simp)
  have hy:=(h y).2 (by simp)
  have e:x=y:=by
   rcases List.mem_cons.1 hx with hx | hx
   ·exact hx
   ·rcases List.mem_cons.1 hy with hy | hy
    ·exact hy.symm
    ·have:=ha.1 y hy
     have:=hb.1 x hx
     omega
  subst e
  rw [asc_eq a b ha.2 hb.2 fun z=>?_]
  constructor
  ·intro hz
   rcases List.mem_cons.1 ((h z).1 (by simp [hz])) with e | hz'
   ·have:=ha.1 z hz;omega
   ·exact hz'
  ·intro hz
   rcases List.mem_cons.1 ((h z).2 (by simp [hz])) with e | hz'
   ·have:=hb.1 z hz;omega
   ·exact hz'
theorem knownK_sub (e:Env) (l:List Ins):∀k,(knownK e l k).Sublist ((l.take k).map Ins.id)
 | 0=>by simp [knownK]
 | k + 1=>by
  rw [knownK]
  cases hx:l[k]? with
  | none =>
   have h:=knownK_sub e l k
   have:l.take (k + 1)=l.take k:=by rw [List.take_of_length_le (by rw [List.getElem?_eq_none_iff] at hx;omega),List.take_of_length_le (by rw [List.getElem?_eq_none_iff] at hx;omega)]
   rw [this]
   simpa using h
  | some x =>
   rw [take_succ_get hx,List.map_append]
   refine List.Sublist.append (knownK_sub e l k) ?_
   simp only
   split
   ·simp
   ·simp
theorem flat_subs {g h:Nat→List Int}:∀(L:List Nat),(∀j ∈ L,(g j).Sublist (h j))→((L.map g).flatten).Sublist ((L.map h).flatten)
 | [],_=>by simp
 | j :: L,hyp=>by
  simp only [List.map_cons,List.flatten_cons]
  exact (hyp j (by simp)).append (flat_subs L fun k hk=>hyp k (by simp [hk]))
theorem known_sub (f:Fun):f.known.Sublist f.ids:=by
 have h:=flat_subs (g:=f.knownB) (h:=fun j=>(f.code j).map Ins.id) (List.range f.blks.length) fun j _=>by
  have:=knownK_sub (f.cin.getD j Option.none) (f.code j) (f.code j).length
  rw [List.take_length] at this
  exact this
 have e:((List.range f.blks.length).map fun j=>(f.code j).map Ins.id)=f.blks.map Blk.ids:=by
  apply List.ext_getElem?
  intro i
  by_cases hi:i < f.blks.length
  ·simp [hi,Fun.code,Blk.ids]
  ·simp [hi]
 rw [e] at h
 exact h
theorem sorted_up {l:List Int} (h:l.Nodup):(sorted l).Pairwise (· < ·):=by
 have hn:(sorted l).Nodup:=(List.mergeSort_perm _ _).nodup_iff.2 h
 have hp:(sorted l).Pairwise fun x y=>decide (x≤y)=true:=List.pairwise_mergeSort (fun a b c h1 h2=>by simp at *;omega) (fun a b=>by simp;omega) _
 refine (hp.and hn).imp fun h=>?_
 obtain ⟨h1,h2⟩:=h
 simp at h1
 omega
def idsOf (n:Nat) (r:List Bool):List Int:=((List.range n).filter fun y=>r[y]? == some true).map fun y:Nat=>(y:Int)
theorem idsOf_succ (n:Nat) (r:List Bool):idsOf (n + 1) r=idsOf n r ++ if r[n]?=some true then [(n:Int)] else []:=by
 unfold idsOf
 rw [List.range_succ,List.filter_append,List.map_append]
 congr 1
 by_cases h:r[n]?=some true <;> simp [h]
theorem idsOf_mem {n:Nat} {r:List Bool} {x:Int}:x ∈ idsOf n r ↔ ∃ y:Nat,x=(y:Int)∧y < n∧r[y]?=some true:=by
 unfold idsOf
 simp only [List.mem_map,List.mem_filter,List.mem_range,beq_iff_eq]
 constructor
 ·rintro ⟨y,⟨h1,h2⟩,rfl⟩;exact ⟨y,rfl,h1,h2⟩
 ·rintro ⟨y,rfl,h1,h2⟩;exact ⟨y,⟨h1,h2⟩,rfl⟩
theorem idsOf_up (r:List Bool):∀n,(idsOf n r).Pairwise (· < ·)
 | 0=>by simp [idsOf]
 | n + 1=>by
  rw [idsOf_succ,List.pairwise_append]
  refine ⟨idsOf_up r n,by split <;> simp,fun a ha b hb=>?_⟩
  obtain ⟨y,rfl,hy,_⟩:=idsOf_mem.1 ha
  split at hb
  ·simp at hb;omega
  ·cases hb
theorem idsOf_len (r:List Bool) (n:Nat):(idsOf n r).length≤n:=by
 unfold idsOf
 have:=List.length_filter_le (fun y=>r[y]? == some true) (List.range n)
 simpa using this
def Mrk (r:List Bool) (L:List Int):Prop:=r.length=96∧∀y:Nat,r[y]?=some true ↔ (y:Int) ∈ L
theorem Mrk.set {r:List Bool} {L:List Int} {n:Nat} (h:Mrk r L) (hn:n < 96):Mrk (r.set n true) (L ++ [(n:Int)]):=by
 refine ⟨by rw [List.length_set];exact h.1,fun y=>?_⟩
 have hl:=h.1
 by_cases e:y=n
 ·subst e
  rw [List.getElem?_set_self (by omega)];simp
 ·rw [List.getElem?_set_ne (Ne.symm e),h.2 y]
  simp only [List.mem_append,List.mem_singleton]
  constructor
  ·exact .inl
  ·rintro (h' | h')
   ·exact h'
   ·omega
theorem Mrk.sorted {p:Prg} {i:Int} {f:Fun} (hf:p.fn i=some f) {r:List Bool} (h:Mrk r f.known) (hid:∀x ∈ f.known,0≤x∧x < 96):idsOf 96 r=Vm.sorted f.known:=by
 obtain ⟨hs,h0,hg⟩:=fn_sane hf
 have hnd:=(Prg.sane_iff.1 hs).2.2
 have h1:f.ids.Nodup:=by
  have h2:=(p.idsTo_sub (i.toNat + 1)).nodup hnd
  rw [Prg.idsTo_succ hg,List.nodup_append] at h2
  exact h2.2.1
 refine asc_eq _ _ (idsOf_up r 96) (sorted_up ((known_sub f).nodup h1)) fun x=>?_
 rw [idsOf_mem,sorted_mem]
 constructor
 ·rintro ⟨y,rfl,_,hy⟩;exact (h.2 y).1 hy
 ·intro hx
  obtain ⟨h3,h4⟩:=hid x hx
  obtain ⟨y,rfl⟩:∃ y:Nat,x=(y:Int):=⟨x.toNat,by omega⟩
  exact ⟨y,rfl,by omega,(h.2 y).2 hx⟩
end Go.Proofs.YtchkknkjhiaooaaGreatDoor.Vm
namespace Go.Proofs.YtchkknkjhiaooaaGreatDoor.Vm
open Go Go.RowKit
variable {N:Nat} {g:Glob}
structure KnI (p:Prg) (i:Int) (f:Fun) (L:List Int) (F:AFrame) (S:St):Prop where
 f1:F 1=.int .i64 i
 f2:F 2=.ptr 0 0 0
 f5:F 5=.ptr 1 0 0
 f7:F 7=.sl 1 2 0 96
 s0:S.obj 0=some (.row 1 [[p.funsV]])
 s1:S.obj 1=some (.row 3 [[.int .i64 f.par,.int .i64 f.vars,f.blksV]])
 s2:∃ r,S.obj 2=some (.row 1 (els boolc r))∧Mrk r L
 n:3≤S.next
theorem KnI.up {p:Prg} {i:Int} {f:Fun} {L:List Int} {F F':AFrame} {S S':St} (h:KnI p i f L F S) (h1:F' 1=F 1) (h2:F' 2=F 2) (h5:F' 5=F 5) (h7:F' 7=F 7) (hu:∀q,q < 3→S'.obj q=S.obj q) (hn:S.next≤S'.next):KnI p i f L F' S':=by
 obtain ⟨r,hr,hm⟩:=h.s2
 exact ⟨by rw [h1];exact h.f1,by rw [h2];exact h.f2,by rw [h5];exact h.f5,by rw [h7];exact h.f7,by rw [hu 0 (by omega)];exact h.s0,by rw [hu 1 (by omega)];exact h.s1,⟨r,by rw [hu 2 (by omega)];exact hr,hm⟩,by have:=h.n;omega⟩
set_option maxHeartbeats 1000000 in
theorem ref20_Known (p:Prg) (i:Int) (hp:p.Fit):OwnL P (gl N) intc 1 42 [encP p,.int .i64 i] (p.known i):=by
 refine OwnL.in c42 (by simp) ?_
 have hroom:(96:Nat)≤room:=by simp [room]
 simp [k42,hroom]
 refine (ref06_Fun p i hp).use (n:=9) (by simp [mapOpt,pict_stab p.funsS.stab]) (by simp [solids,AV.solid,p.funsS.solid]) ?_
 have hfacts:(∃ L:List Int,(∀r,Mrk r L→idsOf 96 r=p.known i)∧((p.fn i=Option.none∧L=[]) ∨ ∃ f,p.fn i=some f∧L=f.known)):=by
  cases hf:p.fn i with
  | none =>
   refine ⟨[],fun r hr=>?_,.inl ⟨rfl,rfl⟩⟩
   have hk:p.known i=[]:=by unfold Prg.known;rw [hf]
   rw [hk]
   cases hi:idsOf 96 r with
   | nil=>rfl
   | cons x l =>
    obtain ⟨y,_,_,hy⟩:=idsOf_mem.1 (show x ∈ idsOf 96 r by rw [hi];simp)
    have:=(hr.2 y).1 hy
    cases this
  | some f =>
   refine ⟨f.known,fun r hr=>?_,.inr ⟨f,rfl,rfl⟩⟩
   have hk:p.known i=sorted f.known:=by unfold Prg.known;rw [hf]
   rw [hk]
   refine hr.sorted hf fun x hx=>?_
   obtain ⟨b,B,k,y,hB,hy,_,rfl⟩:=known_mem.1 hx
   have hok:=fn_ok hf
   have h1:=(hok.blk (List.mem_of_getElem? hB)).2.2.2.2 y (List.mem_of_getElem? hy)
   simp only [Prg.insOK,Bool.and_eq_true] at h1
   have hP:y.okP:=by simpa [Ins.ok] using h1.1.1
   exact ⟨hP.2.1,hP.2.2.1⟩
 obtain ⟨L,hL,hcase⟩:=hfacts
 have tail:∀(F:AFrame) (S:St),KnI p i ((p.fn i).getD Fun.none) L F S→True:=fun _ _ _=>trivial
 clear tail
 have h12:((p.fn i).getD Fun.none).blks.length≤12:=by
  cases h:p.fn i with
  | none=>simp
  | some f=>exact (fn_ok h).len.2
 have hstep:∀(b k:Nat) (B:Blk) (x:Ins),((p.fn i).getD Fun.none).blks[b]?=some B→B.ins[k]?=some x→∃ f,p.fn i=some f∧f.blks[b]?=some B∧p.cat i b ((k + 1:Nat):Int)=f.cat b (k + 1)∧B.ins.length≤16∧0≤x.id∧x.id < 96:=fun b k B x hB hx=>by
  cases hf:p.fn i with
  | none=>rw [hf] at hB;simp at hB
  | some f =>
   rw [hf] at hB
   simp at hB
   have hok:=fn_ok hf
   have hbk:=hok.blk (List.mem_of_getElem? hB)
   have hkl:=(List.getElem?_eq_some_iff.1 hx).1
   have hon:B.on=true:=by
    cases hon:B.on
    ·have:=(hbk.1 hon).1
     rw [this] at hkl;simp at hkl
    ·rfl
   have h1:=hbk.2.2.2.2 x (List.mem_of_getElem? hx)
   simp only [Prg.insOK,Bool.and_eq_true] at h1
   have hP:x.okP:=by simpa [Ins.ok] using h1.1.1
   exact ⟨f,rfl,hB,cat_blk hf hB hon (by omega),hbk.2.2.2.1,hP.2.1,hP.2.2.1⟩
 have hzero:p.fn i=Option.none→((p.fn i).getD Fun.none).blks.length=0:=fun h=>by rw [h];simp
 have hLd:L=((p.fn i).getD Fun.none).known ∨ ((p.fn i).getD Fun.none).blks.length=0:=by
  rcases hcase with ⟨h,_⟩ | ⟨f,h,rfl⟩
  ·exact .inr (hzero h)
  ·exact .inl (by rw [h];rfl)
 have hL0:((p.fn i).getD Fun.none).blks.length=0→L=[]:=fun h=>by
  rcases hcase with ⟨_,h⟩ | ⟨f,h1,rfl⟩
  ·exact h
  ·rw [h1] at h
   have:=(fn_ok h1).len.1
   simp at h
   rw [h] at this;simp at this
 have hfn:∀f',p.fn i=some f'→(p.fn i).getD Fun.none=f':=fun f' h=>by rw [h];rfl
 generalize (p.fn i).getD Fun.none=f at *
 simp
 refine ⟨by simp [room],?_⟩
 refine W.whileI (fun (b:Nat) F S=>b≤f.blks.length∧F 8=.int .i64 b∧KnI p i f (f.knownTo b) F S) (fun b=>f.blks.length - b) ?_ 0 _ _ ?_
 ·rintro b F S ⟨hb,f8,hI⟩
  have f5:=hI.f5
  have s1:=hI.s1
  simp [f5,f8,s1,f.blksS.len]
  by_cases hltb:b < f.blks.length
  ·have e4:=wrapS b (by omega)
   obtain ⟨B,hB⟩:∃ B,f.blks[b]?=some B:=⟨_,List.getElem?_eq_getElem hltb⟩
   simp [hltb]
   refine W.whileI (fun (k:Nat) F S=>k≤B.ins.length∧F 8=.int .i64 b∧F 9=.int .i64 k∧KnI p i f (f.knownTo b ++ f.knownBTo b k) F S) (fun k=>B.ins.length - k) ?_ 0 _ _ ?_
   ·clear f5 f8 s1 hI
    rintro k F S ⟨hk,f8,f9,hI⟩
    have f1:=hI.f1
    have f2:=hI.f2
    have f5:=hI.f5
    have f7:=hI.f7
    have s0:=hI.s0
    have s1:=hI.s1
    have hn3:=hI.n
    simp [f5,f8,f9,s1,f.blksS.idx hB,B.insS.len]
    by_cases hltk:k < B.ins.length
    ·obtain ⟨x,hx⟩:∃ x,B.ins[k]?=some x:=⟨_,List.getElem?_eq_getElem hltk⟩
     obtain ⟨f',hf',hB',hcat,hB16,hid0,hid96⟩:=hstep b k B x hB hx
     have hff:=hfn f' hf'
     subst hff
     have e5:=wrapS k (by omega)
     have hx':(f.code b)[k]?=some x:=by rw [code_at hB];exact hx
     have hst:=knownB_succ hx'
     have z0:¬ 0=S.next:=by omega
     have z1:¬ 1=S.next:=by omega
     have z2:¬ 2=S.next:=by omega
     obtain ⟨idn,hidn⟩:∃ n:Nat,x.id=(n:Int):=⟨x.id.toNat,by omega⟩
     obtain ⟨r,s2,hM⟩:=hI.s2
     have hrl:=hM.1
     have hidl:idn < 96:=by omega
     obtain ⟨u,hu⟩:∃ u,r[idn]?=some u:=⟨_,List.getElem?_eq_getElem (by omega)⟩
     have hdd:0≤x.def→x.def=x.dst:=fun h=>by
      unfold Ins.def at h ⊢
      split
      ·rfl
      ·rename_i h';rw [if_neg h'] at h;omega
     simp [hltk,f5,f8,f9,s1,f.blksS.idx hB,B.insS.idx hx,z1]
     refine (ref05_Def x).use (n:=9) (by rfl) rfl ?_
     have keep:∀{F':AFrame} {S':St},F' 1=F 1→F' 2=F 2→F' 5=F 5→F' 7=F 7→(∀q,q < 3→S'.obj q=S.obj q)→S.next≤S'.next→KnI p i f (f.knownTo b ++ f.knownBTo b k) F' S':=fun h1 h2 h5 h7 hu hn=>hI.up h1 h2 h5 h7 hu hn
     by_cases ho:f.isOne b k x
     ·rw [if_pos ho] at hst
      have hd:=hdd ho.1
      have ho2:=ho.2
      rw [hd] at ho2
      simp [ho.1,f1,f2,f8,f9,s0,z0,e5]
      refine (ref20_Value p i b ((k + 1:Nat):Int) x.dst hp).use (n:=9) (by simp [mapOpt,pict_stab p.funsS.stab]) rfl ?_
      rw [hcat]
      simp [ho2,f7,hidn,ix_sl hidl,s2,hu,z2,boolc]
      simp [f8,f9,e5]
      refine ⟨k + 1,by omega,by omega,by omega,?_⟩
      rw [hst,← List.append_assoc,hidn]
      refine ⟨by simp [f1],by simp [f2],by simp [f5],by simp [f7],by simp [z0,s0],by simp [z1,s1],⟨r.set idn true,?_,hM.set hidl⟩,by simp;omega⟩
      simp
      show (els boolc r).set idn (boolc true)=_
      rw [els_set]
     ·rw [if_neg ho,List.append_nil] at hst
      by_cases hd:0≤x.def
      ·have h1:¬ ((f.cat b (k + 1)).get x.dst).k=1:=fun h=>ho ⟨hd,by rw [hdd hd];exact h⟩
       simp [hd,f1,f2,f8,f9,s0,z0,e5]
       refine (ref20_Value p i b ((k + 1:Nat):Int) x.dst hp).use (n:=9) (by simp [mapOpt,pict_stab p.funsS.stab]) rfl ?_
       rw [hcat]
       simp [h1]
       simp [f8,f9,e5]
       refine ⟨k + 1,by omega,by omega,by omega,?_⟩
       rw [hst]
       exact keep rfl rfl rfl rfl (fun q hq=>by simp [show ¬ q=S.next by omega]) (by simp)
      ·simp [hd]
       simp [f8,f9,e5]
       refine ⟨k + 1,by omega,by omega,by omega,?_⟩
       rw [hst]
       exact keep rfl rfl rfl rfl (fun q hq=>by simp [show ¬ q=S.next by omega]) (by simp)
    ·have:k=B.ins.length:=by omega
     subst this
     have hkB:f.knownB b=f.knownBTo b B.ins.length:=by unfold Fun.knownB Fun.knownBTo;rw [code_at hB]
     simp [f8,e4]
     refine ⟨b + 1,by omega,by omega,by omega,?_⟩
     rw [f.knownTo_succ,hkB]
     exact hI.up rfl rfl rfl rfl (fun _ _=>rfl) (Nat.le_refl _)
   ·simp [f8,Fun.knownBTo,knownK]
    exact hI.up rfl rfl rfl rfl (fun _ _=>rfl) (Nat.le_refl _)
  ·have:b=f.blks.length:=by omega
   subst this
   obtain ⟨r,s2,hM⟩:=hI.s2
   have f7:=hI.f7
   have hML:Mrk r L:=by
    rcases hLd with h | h
    ·rw [h];exact hM
    ·rw [hL0 h]
     rw [h] at hM
     simpa [Fun.knownTo] using hM
   rw [← hL r hML]
   have hn3:=hI.n
   simp
   refine W.whileI (fun (y:Nat) F S=>y≤96∧F 7=.sl 1 2 0 96∧F 12=.int .i64 y∧S.obj 2=some (.row 1 (els boolc r))∧3≤S.next∧Has intc 1 S (F 11) (idsOf y r)∧Bel S (F 11)∧∀q c,F 11=.sl 1 q 0 c→3≤q) (fun y=>96 - y) ?_ 0 _ _ ?_
   ·clear f5 f7 f8 s1 s2 hI hn3
    rintro y F S ⟨hy,f7,f12,s2,hn3,h11,b11,y11⟩
    simp [f12]
    by_cases hlty:y < 96
    ·have e5:=wrapS y (by omega)
     have hrl:=hM.1
     obtain ⟨u,hu⟩:∃ u,r[y]?=some u:=⟨_,List.getElem?_eq_getElem (by omega)⟩
     have hst:=idsOf_succ y r
     have hil:=idsOf_len r y
     simp [show (y:Int) < 96 by omega,f7,f12,ix_sl hlty,s2,hu,boolc]
     cases u
     ·have:¬ r[y]?=some true:=by rw [hu];simp
      rw [if_neg this,List.append_nil] at hst
      simp [f7,f12,e5]
      exact ⟨y + 1,by omega,by omega,by omega,s2,hn3,by rw [hst];exact h11,b11,y11⟩
     ·rw [if_pos hu] at hst
      simp [f12]
      refine appV_own (e:=intc) (x:=(y:Int)) (h11.new b11) rfl (by simp [room];omega) fun S2 hS hnx hoth=>?_
      simp at hnx hoth
      simp [f7,f12,e5]
      refine ⟨y + 1,by omega,by omega,by omega,?_,by omega,by rw [hst];simpa using hS,Bel.sl (by omega),by omega⟩
      rw [hoth 2 (by omega) (fun c e=>by have:=y11 2 c e;omega),if_neg (by omega)]
      exact s2
    ·have:y=96:=by omega
     subst this
     simp
     exact h11
   ·simp [f7]
    exact ⟨s2,hn3,.inl ⟨rfl,by simp [idsOf]⟩,Bel.nil⟩
 ·simp
  have hM0:Mrk (List.replicate 96 false) []:=⟨by simp,fun y=>by
   constructor
   ·intro h
    have:=List.mem_of_getElem? h
    rw [List.mem_replicate] at this
    cases this.2
   ·intro h;cases h⟩
  have:f.knownTo 0=[]:=by simp [Fun.knownTo]
  rw [this]
  exact ⟨rfl,rfl,rfl,rfl,by simp,by simp,⟨List.replicate 96 false,by simp [els,boolc],hM0⟩,by simp⟩
end Go.Proofs.YtchkknkjhiaooaaGreatDoor.Vm
namespace Go.Proofs.YtchkknkjhiaooaaGreatDoor.Vm
open Go Go.RowKit
variable {N:Nat} {g:Glob}
theorem law20_flats (l:List Env) (v:AV) (hv:FSl envc 2 v l) (hl:l.length < 2 ^ 20) (hs:∀e ∈ l,Env.small e):Ret P g false 32 [v] (encF envT 2 l):=by
 refine Ret.in c32 (by simp) ?_
 have hone:∀e:Env,(encF valc 2 e.vals).one=true:=fun e=>fsl_one (encF_sl (e:=valc) (sz:=2) (l:=e.vals))
 simp [k32]
 refine W.whileI (fun (a:Nat) F S=>a≤l.length∧F 0=v∧F 4=.int .i64 a∧Has envT 2 S (F 3) (l.take a)∧Bel S (F 3)) (fun a=>l.length - a) ?_ 0 _ _ ?_
 ·rintro a F S ⟨ha,f0,f4,h3,b3⟩
  simp [f0,f4,hv.len]
  by_cases hlt:a < l.length
  ·have e4:=wrapS a (by omega)
   obtain ⟨e,he⟩:∃ e,l[a]?=some e:=⟨_,List.getElem?_eq_getElem hlt⟩
   have hes:=hs e (List.mem_of_getElem? he)
   simp [hlt,f0,f4,hv.idx he]
   refine (theirFlat_ret e hes).use (n:=9) (by simp [mapOpt]) (by simp [solids,AV.solid]) ?_
   simp [envT]
   refine appV_own (e:=envT) (x:=e) (h3.new b3) (by simp [okEl,envT,hone]) (by simp [room];omega) fun S1 m1 m2 m3=>?_
   simp [f0,f4,e4]
   refine ⟨a + 1,by omega,by omega,by omega,?_,Bel.sl (by rw [m2];exact Nat.lt_succ_self _)⟩
   rw [take_succ_get he]
   simpa using m1
  ·have:a=l.length:=by omega
   subst this
   rw [List.take_length] at h3
   simp
   rcases h3 with ⟨h,hn⟩ | ⟨o,h,ho,hne⟩
   ·rw [h,hn]
    exact RK.eq (by simp [encF]) (by simp [encF,AV.stab])
   ·rw [h]
    have hE:encF envT 2 l=.fsl 2 (els envT l):=by unfold encF;rw [if_neg hne]
    rw [hE]
    refine ⟨9,pict_row (m:=8) ho (by simp) (by simp) fun j z hz=>?_⟩
    rw [hz]
    simp only [els,List.getElem?_map] at hz
    cases hxj:l[j]? with
    | none=>rw [hxj] at hz;cases hz
    | some e=>rw [hxj] at hz;cases hz;exact envT_pict e
 ·simp
  exact ⟨.inl ⟨rfl,rfl⟩,Bel.nil⟩
theorem ref20_Flats (l:List Env) (v w:AV) (hv:FSl envT 2 v l) (hw:FSl envT 2 w l) (hl:l.length < 2 ^ 40) (hs:∀e ∈ l,Env.small e):Ret P g false 31 [v,w] (.bool true):=by
 refine Ret.in c31 (by simp) ?_
 have hpT:∀(e:Env) {S:St} {n:Nat},pict S [] (n + 2) (.agg [.bool e.isSome,encF valc 2 e.vals])=some (.agg (envT e)):=fun e {S n}=>by
  have h:FSl valc 2 (encF valc 2 e.vals) e.vals:=encF_sl
  simp [mapOpt,pict_stab h.stab,envT]
 simp [k31,hv.len,hw.len]
 refine W.whileI (fun (a:Nat) F S=>a≤l.length∧F 0=v∧F 1=w∧F 5=.int .i64 a) (fun a=>l.length - a) ?_ 0 _ _ ?_
 ·rintro a F S ⟨ha,f0,f1,f5⟩
  simp [f0,f5,hv.len]
  by_cases hlt:a < l.length
  ·have e4:=wrapS a (by omega)
   obtain ⟨e,he⟩:∃ e,l[a]?=some e:=⟨_,List.getElem?_eq_getElem hlt⟩
   have hes:=hs e (List.mem_of_getElem? he)
   have h1:=sameT (g:=g) e e hes
   rw [decide_eq_true rfl] at h1
   simp [hlt]
   refine Dra.auto [] mix ?_ ?_
   ·kernel_rfl
   simp [classes,f0,f1,f5,hv.idx he,hw.idx he,envT]
   refine h1.b (n:=9) (by simp [mapOpt,hpT,envT]) rfl ?_
   simp [f0,f1,f5,e4]
   exact ⟨a + 1,by omega,by omega,by omega⟩
  ·have:a=l.length:=by omega
   subst this
   simp
   exact RK.stab rfl
 ·simp
set_option maxHeartbeats 4000000 in
theorem law_ConstsAre (p:Prg) (i j k v:Int):Ret P (gl N) false 5 [encP p,.int .i64 i,.int .i64 j,.int .i64 k,.int .i64 v] (.bool true):=by
 refine Ret.in c5 (by simp) ?_
 simp [k5]
 refine (awake20_ret).use (n:=9) (by rfl) rfl ?_
 simp
 refine (ref06_Few p).use (n:=9) (by simp [mapOpt,pict_stab p.funsS.stab]) (by simp [solids,AV.solid,p.funsS.solid]) ?_
 cases hfew:p.few
 ·simp
  exact RK.eq rfl rfl
 have hp:=Prg.few_fit hfew
 simp
 refine (consts_Value p i j k v hp).use (n:=9) (by simp [mapOpt,pict_stab p.funsS.stab]) rfl ?_
 have hcl:(p.cin i).length≤12:=by
  unfold Prg.cin
  cases hf:p.fn i with
  | none=>simp
  | some f=>simp only;rw [f.cin_len];exact (fn_ok hf).len.2
 have hcs:∀e ∈ p.cin i,Env.small e:=fun e he=>by
  unfold Prg.cin at he
  cases hf:p.fn i with
  | none=>rw [hf] at he;cases he
  | some f=>rw [hf] at he;exact (f.cin_least.fit.ok e he:e.fit f.wid).small f.wid_lt
 have hcv:=p.cinS i
 have hct:=p.cinTS i
 have hF:FSl envT 2 (encF envT 2 (p.cin i)) (p.cin i):=encF_sl
 have hsm:=p.cat_small i j k
 have hIn:=consts_In (N:=N) p i hp
 have hInT:=ref20_In (N:=N) p i hp
 have hpT:∀(e:Env) {S:St} {n:Nat},pict S [] (n + 2) (.agg [.bool e.isSome,encF valc 2 e.vals])=some (.agg (envT e)):=fun e {S n}=>by
  have h:FSl valc 2 (encF valc 2 e.vals) e.vals:=encF_sl
  simp [mapOpt,pict_stab h.stab,envT]
 have hps:∀{S:St} {n:Nat} {l:List AV},mapOpt (pict S [] (n + 2)) l=some l→mapOpt (pict S [] (n + 2)) (.agg [p.funsV] :: l)=some (.agg [p.funsV] :: l):=fun h=>by
  simp [mapOpt,pict_stab p.funsS.stab,h]
 have hK1:=(consts_Known (N:=N) p i hp).ret
 have hK2:=(ref20_Known (N:=N) p i hp).ret
 have hkl:(p.known i).length < 2 ^ 40:=by
  unfold Prg.known
  cases hf:p.fn i with
  | none=>simp
  | some f =>
   simp only
   rw [sorted_len]
   have h1:=f.knownTo_len (fn_ok hf) f.blks.length
   have h2:=(fn_ok hf).len.2
   have:f.known.length≤f.blks.length * 16:=h1
   omega
 have hKs:FSl intc 1 (encF intc 1 (p.known i)) (p.known i):=encF_sl
 have hInts:=ref01_Ints (g:=gl N) (p.known i) (p.known i) _ _ hKs hKs hkl
 rw [decide_eq_true rfl] at hInts
 have hSame:=sameT (g:=gl N) (p.cat i j k) (p.cat i j k) hsm
 rw [decide_eq_true rfl] at hSame
 simp
 refine Dra.auto [] mix ?_ ?_
 ·kernel_rfl
 simp [classes]
 refine hIn.b (n:=9) (by simp [mapOpt,pict_stab p.funsS.stab]) (by simp [solids,AV.solid,p.funsS.solid]) ?_
 simp
 refine (law20_flats (p.cin i) (p.cinV i) hcv (by omega) hcs).b (n:=9) (by simp [mapOpt,pict_stab hcv.stab]) (by simp [solids,hcv.solid]) ?_
 simp
 refine hInT.b (n:=9) (by simp [mapOpt,pict_stab p.funsS.stab]) (by simp [solids,AV.solid,p.funsS.solid]) ?_
 simp
 refine (ref20_Flats (p.cin i) _ _ hF hct (by omega) hcs).b (n:=9) (by simp [mapOpt,pict_stab hF.stab,pict_stab hct.stab]) rfl ?_
 simp
 refine (consts_At p i j k hp).b (n:=9) (by simp [mapOpt,pict_stab p.funsS.stab]) (by simp [solids,AV.solid,p.funsS.solid]) ?_
 simp
 refine (theirFlat_ret (p.cat i j k) hsm).b (n:=9) (by simp [mapOpt]) (by simp [solids,AV.solid]) ?_
 simp
 refine (ref20_At p i j k hp).b (n:=9) (by simp [mapOpt,pict_stab p.funsS.stab]) (by simp [solids,AV.solid,p.funsS.solid]) ?_
 simp (config:={ maxSteps:=2000000 })
 refine hSame.b (n:=9) (by simp [mapOpt,envT_pict]) rfl ?_
 simp (config:={ maxSteps:=2000000 })
 refine (ref20_Value p i j k v hp).b (n:=9) (by simp [mapOpt,pict_stab p.funsS.stab]) rfl ?_
 have hc:=val_cells_eq ((p.cat i j k).get v) ((p.cat i j k).get v)
 rw [decide_eq_true rfl] at hc
 simp at hc
 simp (config:={ maxSteps:=2000000 }) [hc]
 refine hK1.b (n:=9) (by simp [mapOpt,pict_stab p.funsS.stab]) rfl ?_
 simp (config:={ maxSteps:=2000000 })
 refine hK2.b (n:=9) (by simp [mapOpt,pict_stab p.funsS.stab]) rfl ?_
 simp (config:={ maxSteps:=2000000 })
 refine hInts.b (n:=9) (by simp [mapOpt,pict_stab hKs.stab]) rfl ?_
 simp (config:={ maxSteps:=2000000 })
 exact RK.stab rfl
end Go.Proofs.YtchkknkjhiaooaaGreatDoor.Vm
