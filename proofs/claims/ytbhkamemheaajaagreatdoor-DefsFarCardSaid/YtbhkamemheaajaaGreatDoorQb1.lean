/- A part of the proof: Aw. -/
import Derived.Test.YtbhkamemheaajaaGreatDoorQb0
set_option linter.unusedVariables false
set_option linter.unusedSimpArgs false
set_option linter.constructorNameAsVariable false
namespace Go.Proofs.YtbhkamemheaajaaGreatDoor.Vm
open Go Go.RowKit
set_option maxRecDepth 100000
variable {N:Nat} {g:Glob}
theorem ref10_Path {v:AV} {G:List (List Int)} (hv:GrV v G) (h0:0 < G.length) (hG:G.length≤64) (hl:∀l ∈ G,l.length < 1048576) (a b:Nat) (ha:a < G.length) (hb:b < G.length):RetE P g false 27 [v,.int .i64 (a:Int),.int .i64 (b:Int)]
  (fun y=>∃ t:Bool,y=.bool t∧((∃ l m,(rclean G)[a]?=some l∧((m:Nat):Int) ∈ l∧Rch (rclean G) m b)→t=true)):=by
 refine RetE.in c27 (by simp) ?_
 simp [k27]
 have hia:inGr G.length (a:Int)=true:=by simp [inGr];omega
 have hib:inGr G.length (b:Int)=true:=by simp [inGr];omega
 refine (ref10_is hv.len hv.stab (a:Int)).use (n:=9) (by simp [mapOpt,pict_stab hv.stab]) rfl ?_
 simp [hia]
 refine (ref10_is hv.len hv.stab (b:Int)).use (n:=9) (by simp [mapOpt,pict_stab hv.stab]) rfl ?_
 simp [hib]
 refine (ref10_Clean hv h0 hG hl).use (n:=9) (by simp [mapOpt,pict_stab hv.stab]) rfl ?_
 have hcf:FSl prc 1 (.fsl 1 (els prc (rclean G))) (rclean G):=FSl.mk
 have hcl:(rclean G).length=G.length:=by simp [rclean]
 obtain ⟨l,hla⟩:∃ l,(rclean G)[a]?=some l:=⟨_,List.getElem?_eq_getElem (by omega)⟩
 have hlf:FSl intc 1 (encF intc 1 l) l:=encF_sl
 have hlm:∀x ∈ l,0≤x∧x < G.length:=fun x hx=>by
  rw [rclean,List.getElem?_map] at hla
  cases hg:G[a]? with
  | none=>rw [hg] at hla;cases hla
  | some m =>
   rw [hg] at hla
   have hla:rcl m G.length=l:=Option.some.inj hla
   rw [← hla,rcl_mem] at hx
   exact hx.2
 have hll:l.length≤G.length:=by
  rw [rclean,List.getElem?_map] at hla
  cases hg:G[a]? with
  | none=>rw [hg] at hla;cases hla
  | some m =>
   rw [hg] at hla
   have hla:rcl m G.length=l:=Option.some.inj hla
   rw [← hla];exact rcl_len m _
 simp
 refine W.whileI (fun (k:Nat) F S=>k≤l.length∧F 0=v∧F 1=.int .i64 a∧F 2=.int .i64 b∧F 7=.fsl 1 (els prc (rclean G))∧F 8=.int .i64 k∧∀(q m:Nat),q < k→l[q]?=some (m:Int)→¬ Rch (rclean G) m b) (fun k=>l.length - k) ?_ 0 _ _ ?_
 ·rintro k F S ⟨hk,f0,f1,f2,f7,f8,hno⟩
  simp [f7,f1,f8,hcf.idx hla,prc,hlf.len]
  by_cases hlt:k < l.length
  ·have e4:=wrapS k (by omega)
   obtain ⟨x,hx⟩:∃ x,l[k]?=some x:=⟨_,List.getElem?_eq_getElem hlt⟩
   obtain ⟨hx0,hx1⟩:=hlm x (List.mem_of_getElem? hx)
   obtain ⟨m,rfl⟩:∃ n:Nat,x=(n:Int):=⟨x.toNat,by omega⟩
   simp [hlt,f0,f1,f2,f7,f8,hcf.idx hla,prc,hlf.idx hx,intc]
   refine (ref10_Reach hv hG hl m (by omega)).use (n:=9) (by simp [mapOpt,pict_stab hv.stab]) (by simp [solids,hv.solid,AV.solid]) ?_
   rintro y ⟨r,rfl,hrl,hr⟩
   have hrS:FSl boolc 1 (.fsl 1 (els boolc r)) r:=FSl.mk
   obtain ⟨t,ht⟩:∃ t,r[b]?=some t:=⟨_,List.getElem?_eq_getElem (by omega)⟩
   simp [f2,hrS.idx ht,boolc]
   cases t with
   | true =>
    simp
    exact .inr ⟨1,rfl⟩
   | false =>
    simp [f0,f1,f2,f7,f8,e4]
    refine ⟨k + 1,by omega,by omega,by omega,fun q m' hq hm' hrc=>?_⟩
    by_cases hqk:q=k
    ·subst hqk
     rw [hx] at hm'
     have:m=m':=by have:=Option.some.inj hm';omega
     subst this
     rw [hr b hrc] at ht;cases ht
    ·exact hno q m' (by omega) hm' hrc
  ·have:k=l.length:=by omega
   subst this
   simp [hlt]
   refine .inl ⟨.bool false,⟨rfl,fun l' hl' m hm hrc=>?_⟩,1,rfl⟩
   rw [hla] at hl';cases hl'
   obtain ⟨q,hq⟩:=List.getElem?_of_mem hm
   exact hno q m (List.getElem?_eq_some_iff.1 hq).1 hq hrc
 ·simp
structure FrI (p:Prg) (i:Int) (f:Fun) (gv:AV) (F:AFrame) (S:St):Prop where
 f1:F 1=.int .i64 i
 f2:F 2=.ptr 0 0 0
 f5:F 5=.bool true
 f6:F 6=.fsl 2 (els setc ((List.range f.blks.length).map f.din))
 f7:F 7=gv
 s0:S.obj 0=some (.row 1 [[p.funsV]])
 n:1≤S.next
theorem law_DefsFar (p:Prg) (i:Int):Ret P (gl N) false 5 [encP p,.int .i64 i] (.bool true):=by
 refine Ret.in c5 (by simp) ?_
 simp [k5]
 refine (awake18_ret).use (n:=9) (by rfl) rfl ?_
 simp
 refine (ref06_Few p).use (n:=9) (by simp [mapOpt,pict_stab p.funsS.stab]) (by simp [solids,AV.solid,p.funsS.solid]) ?_
 cases hfew:p.few
 ·simp
  exact RK.eq rfl rfl
 have hp:=Prg.few_fit hfew
 simp
 refine (prog_Sane p hp).use (n:=9) (by simp [mapOpt,pict_stab p.funsS.stab]) (by simp [solids,AV.solid,p.funsS.solid]) ?_
 cases hsane:p.sane
 ·simp
  exact RK.eq rfl rfl
 simp
 refine gua_decF (fun h1=>?_) (fun h1=>?_) <;> simp [h1,p.funsS.len]
 ·refine bra_dec (fun h2=>?_) (fun h2=>?_) <;> simp [h2]
  ·exact RK.eq rfl rfl
  obtain ⟨nI,rfl⟩:∃ n:Nat,i=(n:Int):=⟨i.toNat,by omega⟩
  obtain ⟨f,hfi⟩:∃ f,p.funs[nI]?=some f:=⟨_,List.getElem?_eq_getElem (by omega)⟩
  have hf:p.fn (nI:Int)=some f:=by
   unfold Prg.fn
   rw [if_pos ⟨by omega,hsane⟩];exact hfi
  have hok:=fn_ok hf
  have hl:=hok.len
  refine (defs_In p nI hp hf).use (n:=9) (by simp [mapOpt,pict_stab p.funsS.stab]) (by simp [solids,AV.solid,p.funsS.solid]) ?_
  have hin:FSl setc 2 (.fsl 2 (els setc ((List.range f.blks.length).map f.din))) ((List.range f.blks.length).map f.din):=FSl.mk
  simp [p.funsS.idx hfi]
  refine (ref10_Of f (by omega) (by omega) (fun b hb=>by have:=(hok.out b hb).1;omega)).use (n:=9) (by simp [mapOpt,pict_stab f.blksS.stab]) (by simp [solids,AV.solid,f.blksS.solid]) ?_
  have hgr:=prc_gr (rclean f.gout)
  have hgl:(rclean f.gout).length=f.blks.length:=by simp [rclean,Fun.gout]
  have hgm:∀l ∈ rclean f.gout,l.length < 1048576:=fun l h=>by
   unfold rclean at h
   obtain ⟨m,_,rfl⟩:=List.mem_map.1 h
   have h3:=rcl_len m f.gout.length
   have h4:f.gout.length=f.blks.length:=by simp [Fun.gout]
   omega
  generalize hgv:AV.fsl 1 (els prc (rclean f.gout))=gv at *
  simp [hgr.len,hgl]
  refine W.whileI (fun (b:Nat) F S=>b≤f.blks.length∧F 8=.int .i64 b∧FrI p nI f gv F S) (fun b=>f.blks.length - b) ?_ 0 _ _ ?_
  ·rintro b F S ⟨hb,f8,hI⟩
   simp [hI.f7,f8,hgr.len,hgl]
   by_cases hlt:b < f.blks.length
   ·have e4:=wrapS b (by omega)
    have hbi:((List.range f.blks.length).map f.din)[b]?=some (f.din b):=by simp [hlt]
    have hdo:=f.din_ok b
    simp [hlt]
    refine W.whileI (fun (c:Nat) F S=>c≤f.blks.length∧F 8=.int .i64 b∧F 9=.int .i64 c∧FrI p nI f gv F S) (fun c=>f.blks.length - c) ?_ 0 _ _ ?_
    ·clear f8 hI
     rintro c F S ⟨hc,f8,f9,hI⟩
     simp [hI.f7,f9,hgr.len,hgl]
     by_cases hltc:c < f.blks.length
     ·have e5:=wrapS c (by omega)
      obtain ⟨Cb,hC⟩:∃ B,f.blks[c]?=some B:=⟨_,List.getElem?_eq_getElem hltc⟩
      have hCl:Cb.ins.length≤16:=(hok.blk (List.mem_of_getElem? hC)).2.2.2.1
      simp [hltc,hI.f7,f8,f9]
      refine (ref10_Path hgr (by omega) (by omega) hgm c b (by omega) (by omega)).use (n:=9) (by simp [mapOpt,pict_stab hgr.stab]) (by simp [solids,hgr.solid,AV.solid]) ?_
      rintro y ⟨t,rfl,ht⟩
      simp [hI.f1,hI.f2,f9,hI.s0,p.funsS.idx hfi,f.blksS.idx hC]
      refine W.whileI (fun (k:Nat) F S=>k≤Cb.ins.length∧F 8=.int .i64 b∧F 9=.int .i64 c∧F 10=.bool t∧F 11=Cb.insV∧F 12=.int .i64 k∧FrI p nI f gv F S) (fun k=>Cb.ins.length - k) ?_ 0 _ _ ?_
      ·clear f8 f9 hI
       rintro k F S ⟨hk,f8,f9,f10,f11,f12,hI⟩
       simp [f11,f12,Cb.insS.len]
       by_cases hltk:k < Cb.ins.length
       ·have e6:=wrapS k (by omega)
        obtain ⟨x,hx⟩:∃ x,Cb.ins[k]?=some x:=⟨_,List.getElem?_eq_getElem hltk⟩
        have hfar:((f.din b).isB x.id && (f.din b).mem x.id.toNat)=true→t=true∧0≤x.def:=fun hh=>by
         simp only [Bool.and_eq_true,BSet.isB_iff] at hh
         obtain ⟨⟨h3,_⟩,h4⟩:=hh
         obtain ⟨h5,h6⟩:=din_ins hf h4 hC (List.mem_of_getElem? hx) (by omega)
         obtain ⟨l,m,h7,h8,h9⟩:=h5
         exact ⟨ht ⟨l,m,h7,h8,h9⟩,h6⟩
        simp [hltk]
        refine Dra.auto [] mix ?_ ?_
        ·kernel_rfl
        simp [classes,hI.f6,f8,hin.idx hbi,f11,f12,Cb.insS.idx hx]
        refine (bits_Has (f.din b) x.id hdo.1).b (n:=9) (by simp [mapOpt]) rfl ?_
        cases hh:((f.din b).isB x.id && (f.din b).mem x.id.toNat) with
        | false =>
         simp [f8,f9,f10,f11,f12,e6]
         exact ⟨k + 1,by omega,by omega,by omega,⟨hI.f1,hI.f2,hI.f5,hI.f6,hI.f7,hI.s0,hI.n⟩⟩
        | true =>
         obtain ⟨ht1,hd⟩:=hfar hh
         simp [f10,ht1,f11,f12,Cb.insS.idx hx]
         refine (instr_Def x).b (n:=9) (by rfl) rfl ?_
         simp [show ¬ x.def < 0 by omega,f8,f9,f10,f11,f12,e6]
         exact ⟨k + 1,by omega,by omega,by first | omega | simp [ht1],by omega,⟨hI.f1,hI.f2,hI.f5,hI.f6,hI.f7,hI.s0,hI.n⟩⟩
       ·simp [hltk,f8,f9,e5]
        exact ⟨c + 1,by omega,by omega,by omega,⟨hI.f1,hI.f2,hI.f5,hI.f6,hI.f7,hI.s0,hI.n⟩⟩
      ·simp [f8,f9]
       exact ⟨hI.f1,hI.f2,hI.f5,hI.f6,hI.f7,hI.s0,hI.n⟩
     ·simp [hltc,f8,e4]
      exact ⟨b + 1,by omega,by omega,by omega,⟨hI.f1,hI.f2,hI.f5,hI.f6,hI.f7,hI.s0,hI.n⟩⟩
    ·simp [f8]
     exact ⟨hI.f1,hI.f2,hI.f5,hI.f6,hI.f7,hI.s0,hI.n⟩
   ·simp [hlt,hI.f5]
    exact RK.eq rfl rfl
  ·simp
   exact ⟨rfl,rfl,rfl,rfl,rfl,by simp,by simp⟩
 ·exact RK.eq rfl rfl
end Go.Proofs.YtbhkamemheaajaaGreatDoor.Vm
