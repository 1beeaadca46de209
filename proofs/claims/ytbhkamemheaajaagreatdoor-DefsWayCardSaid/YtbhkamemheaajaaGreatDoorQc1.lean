/- A part of the proof: Vw Vy Vz Ax. -/
import Derived.IntWalk
import Derived.KernelRfl
import Derived.Test.YtbhkamemheaajaaGreatDoorQc0
set_option linter.unusedVariables false
set_option linter.unusedSimpArgs false
set_option linter.constructorNameAsVariable false
namespace Go.Proofs.YtbhkamemheaajaaGreatDoor.Vm
open Go Go.RowKit
section
variable {P:Program} {g:Glob}
variable {l:List VOper} {aft:List (List Nat)} {F FF:AFrame} {S0 R:St} {ds:List DS} {G:Nat→AFrame}
section
variable (D:DrawOK P g l aft F FF S0 R ds G)
include D
end
end
end Go.Proofs.YtbhkamemheaajaaGreatDoor.Vm
namespace Go.Proofs.YtbhkamemheaajaaGreatDoor.Vm
open Go Go.RowKit
section
variable {P:Program} {g:Glob}
section
variable {d:Option Nat} {F:AFrame} {S S0 R:St} {af:List Nat}
end
end
section
variable {P:Program} {g:Glob}
attribute [simp] partV fillV over fitsAll EK.fits eqCells valEq scalarEq okEl mapOpt SK.isRead SK.isMake
attribute [simp] AV.plain plains AV.solid solids AV.young youngs youngss
attribute [simp] KK.fits cutL
end
end Go.Proofs.YtbhkamemheaajaaGreatDoor.Vm
namespace Go.Proofs.YtbhkamemheaajaaGreatDoor.Vm
open Go Go.RowKit
section
variable {P:Program} {g:Glob}
end
section
variable {α:Type} {e:α→List AV} {l m:List α}
end
section
variable {P:Program} {g:Glob}
end
section
variable {α:Type} {e:α→List AV} [PlainE e] {l:List α}
end
attribute [simp] AObj.plainO Kept AObj.ren AV.shift shifts
section
variable {α:Type} {e:α→List AV} {sz:Nat} {v:AV} {l:List α}
end
section
variable {P:Program} {g:Glob} {α:Type} {e:α→List AV} {sz:Nat} {l:List α}
end
end Go.Proofs.YtbhkamemheaajaaGreatDoor.Vm
namespace Go.Proofs.YtbhkamemheaajaaGreatDoor.Vm
open Go Go.RowKit
set_option maxRecDepth 100000
variable {N:Nat} {g:Glob}
theorem law_DefsWay (p:Prg) (i:Int):Ret P (gl N) false 3 [encP p,.int .i64 i] (.bool true):=by
 refine Ret.in c3 (by simp) ?_
 simp [k3]
 refine (awake18_ret).use (n:=9) (by rfl) rfl ?_
 simp
 refine (ref06_Few p).use (n:=9) (by simp [mapOpt,pict_stab p.funsS.stab]) (by simp [solids,AV.solid,p.funsS.solid]) ?_
 cases hfew:p.few
 ·simp
  exact RK.eq rfl rfl
 have hp:=Prg.few_fit hfew
 simp
 refine (prog_Sane p hp).use (n:=9) (by simp [mapOpt,pict_stab p.funsS.stab]) (by simp [solids,AV.solid,p.funsS.solid]) ?_
 cases hsane:p.sane
 ·simp
  exact RK.eq rfl rfl
 simp
 refine gua_decF (fun h1=>?_) (fun h1=>?_) <;> simp [h1,p.funsS.len]
 ·refine bra_dec (fun h2=>?_) (fun h2=>?_) <;> simp [h2]
  ·exact RK.eq rfl rfl
  obtain ⟨im,rfl⟩:∃ n:Nat,i=(n:Int):=⟨i.toNat,by omega⟩
  obtain ⟨f,hfi⟩:∃ f,p.funs[im]?=some f:=⟨_,List.getElem?_eq_getElem (by omega)⟩
  have hf:p.fn (im:Int)=some f:=by
   unfold Prg.fn
   rw [if_pos ⟨by omega,hsane⟩];exact hfi
  have hok:=fn_ok hf
  have hl:=hok.len
  have hfx:=p.funsS.idx hfi
  refine (defs_In p im hp hf).use (n:=9) (by simp [mapOpt,pict_stab p.funsS.stab]) (by simp [solids,AV.solid,p.funsS.solid]) ?_
  have hin:FSl setc 2 (.fsl 2 (els setc ((List.range f.blks.length).map f.din))) ((List.range f.blks.length).map f.din):=FSl.mk
  have hinl:((List.range f.blks.length).map f.din).length=f.blks.length:=by simp
  have hine:∀k,k < f.blks.length→((List.range f.blks.length).map f.din)[k]?=some (f.din k):=fun k hk=>by simp [hk]
  generalize (List.range f.blks.length).map f.din=dins at *
  simp
  refine W.whileI (fun (j:Nat) F S=>j≤f.blks.length∧F 1=.int .i64 im∧F 2=.ptr 0 0 0∧F 5=.bool true∧F 6=.fsl 2 (els setc dins)∧F 7=.int .i64 j∧S.obj 0=some (.row 1 [[p.funsV]])∧1≤S.next) (fun j=>f.blks.length - j) ?_ 0 _ _ ?_
  ·rintro j F S ⟨hj,f1,f2,f5,f6,f7,s0,sn⟩
   simp [f1,f2,f7,s0,hfx,f.blksS.len]
   by_cases hlt:j < f.blks.length
   ·have e4:=wrapS j (by omega)
    obtain ⟨b,hb⟩:∃ b,f.blks[j]?=some b:=⟨_,List.getElem?_eq_getElem hlt⟩
    have hbm:=List.mem_of_getElem? hb
    have hbk:=hok.blk hbm
    have hpr:p.preds im j=f.preds j:=by simp [Prg.preds,hf]
    have hmf:FSl intc 1 (encF intc 1 (f.preds j)) (f.preds j):=encF_sl
    have hml:(f.preds j).length≤12:=by
     have h5:=f.predsTo_len (j:Int) f.blks.length
     have h6:=hl.2
     unfold Fun.preds;omega
    have q0:¬ 0=S.next:=by omega
    have q1:¬ 0=S.next + 1:=by omega
    simp [hlt,f1,f2,f7,s0,hfx,f.blksS.idx hb]
    cases hon:b.on
    ·simp [f1,f2,f5,f6,f7,s0,e4,q0]
     exact ⟨j + 1,by omega,by omega,by omega⟩
    ·simp
     refine (newW (w:=96) (by omega)).use (n:=9) (by simp [mapOpt]) rfl ?_
     simp [f1,f2,f7,s0,q0,q1]
     refine (prog_Preds p im j hp).ret.use (n:=9) (by simp [mapOpt,pict_stab p.funsS.stab]) rfl ?_
     rw [hpr]
     let sk:Nat→BSet:=fun k=>((f.preds j).take k).foldl (fun s j=>s.or (f.ends.getD j.toNat (BSet.new 96))) (BSet.new 96)
     have hsk:∀k,(sk k).OK∧(sk k).n=96:=fun k=>by
      obtain ⟨h1,h2,_⟩:=orAll_fold (by omega) f.ends_good ((f.preds j).take k) (BSet.new 96) new96.1 rfl
      exact ⟨h1,h2⟩
     simp
     refine W.whileI (fun (k:Nat) F' S'=>k≤(f.preds j).length∧F' 1=.int .i64 im∧F' 2=.ptr 0 0 0∧F' 5=.bool true∧F' 6=.fsl 2 (els setc dins)∧F' 7=.int .i64 j∧F' 8=.ptr S.next 0 0∧F' 9=.ptr (S.next + 1) 0 0∧F' 10=encF intc 1 (f.preds j)∧F' 11=.int .i64 k ∧
      S'.obj 0=some (.row 1 [[p.funsV]])∧S'.next=S.next + 2∧S'.obj S.next=some (.row 3 [blkc b])∧S'.obj (S.next + 1)=some (.row 2 [setc (sk k)])) (fun k=>(f.preds j).length - k) ?_ 0 _ _ ?_
     ·rintro k F' S' ⟨hk,f1,f2,f5,f6,f7,f8,f9,f10,f11,t0,tn,tA,tB⟩
      simp [f10,f11,hmf.len]
      by_cases hltk:k < (f.preds j).length
      ·obtain ⟨jj,hjj⟩:∃ jj,(f.preds j)[k]?=some jj:=⟨_,List.getElem?_eq_getElem hltk⟩
       obtain ⟨k2,y,rfl,hy,hyo⟩:=Fun.preds_mem.1 (List.mem_of_getElem? hjj)
       have hyk:=hok.blk (List.mem_of_getElem? hy)
       have hyon:y.on=true:=by
        cases hyn:y.on with
        | true=>rfl
        | false=>rw [(hyk.1 hyn).2] at hyo;cases hyo
       have hk2:=(List.getElem?_eq_some_iff.1 hy).1
       have hat:p.dat im k2 (y.ins.length:Nat)=f.dat k2 y.ins.length:=dat_blk hf hy hyon (Nat.le_refl _)
       have hato:=f.dat_ok k2 y.ins.length
       have hend:f.ends[k2]?=some (f.dat k2 y.ins.length):=by rw [f.ends_dat hok hk2,code_at hy]
       have e5:=wrapS k (by omega)
       have hst:sk (k + 1)=(sk k).or (f.dat k2 y.ins.length):=by
        show ((f.preds j).take (k + 1)).foldl _ _=_
        rw [foldl_take_succ _ _ _ _ _ hjj]
        simp only [List.getD_eq_getElem?_getD,Int.toNat_natCast,hend,Option.getD_some]
        rfl
       simp [hltk]
       refine Dra.auto [] mix ?_ ?_
       ·kernel_rfl
       simp [classes,f1,f2,f8,f9,f10,f11,t0,tA,tB,hmf.idx hjj,intc,hfx,f.blksS.idx hy,y.insS.len]
       refine (defs_At p im k2 (y.ins.length:Nat) hp).b (n:=9) (by simp [mapOpt,pict_stab p.funsS.stab]) (by simp [solids,AV.solid,p.funsS.solid]) ?_
       rw [hat]
       simp
       refine (union_ret (hsk k).1 hato.1).b (n:=9) (by simp [mapOpt]) rfl ?_
       simp [f1,f2,f5,f6,f7,f8,f9,f10,f11,t0,tA,tB,e5]
       exact ⟨k + 1,by omega,by omega,by omega,tn,by rw [hst],by rw [hst]⟩
      ·have:k=(f.preds j).length:=by omega
       subst this
       have hfin:sk (f.preds j).length=f.din j:=by
        show ((f.preds j).take (f.preds j).length).foldl _ _=_
        rw [List.take_length];rfl
       rw [hfin] at tB
       have hdo:=f.din_ok j
       have hat0:p.dat im j 0=f.din j:=by
        have h0:=dat_blk hf hb hon (k:=0) (by omega)
        rw [Fun.dat_zero] at h0
        simpa using h0
       have hlej:¬ ((f.blks.length:Int)≤(j:Int)):=by omega
       simp
       refine Dra.auto [] mix ?_ ?_
       ·kernel_rfl
       simp [classes,f1,f2,f6,f7,f8,f9,t0,tA,tB,hin.len,hinl,hlej,hin.idx (hine j hlt)]
       refine (bits_Same _ _ hdo.1 hdo.1).b (n:=9) (by simp [mapOpt]) rfl ?_
       simp [f1,f2,f7,f8,f9,t0,tA,tB]
       refine (defs_At p im j 0 hp).b (n:=9) (by simp [mapOpt,pict_stab p.funsS.stab]) (by simp [solids,AV.solid,p.funsS.solid]) ?_
       rw [hat0]
       simp
       refine (bits_Same _ _ hdo.1 hdo.1).b (n:=9) (by simp [mapOpt]) rfl ?_
       simp
       refine W.whileI (fun (k:Nat) F' S'=>k≤b.ins.length∧F' 1=.int .i64 im∧F' 2=.ptr 0 0 0∧F' 5=.bool true∧F' 6=.fsl 2 (els setc dins)∧F' 7=.int .i64 j∧F' 8=.ptr S.next 0 0∧F' 12=.int .i64 k ∧
        S'.obj 0=some (.row 1 [[p.funsV]])∧S.next + 2≤S'.next∧S'.obj S.next=some (.row 3 [blkc b])) (fun k=>b.ins.length - k) ?_ 0 _ _ ?_
       ·clear f1 f2 f5 f6 f7 f8 f9 f10 f11 t0 tn tA tB
        rintro k F' S' ⟨hk,f1,f2,f5,f6,f7,f8,f12,t0,tn,tA⟩
        simp [f8,f12,tA,b.insS.len]
        by_cases hltk:k < b.ins.length
        ·obtain ⟨x,hx⟩:∃ x,b.ins[k]?=some x:=⟨_,List.getElem?_eq_getElem hltk⟩
         have hil:b.ins.length≤16:=hbk.2.2.2.1
         have hxf:=ins_fine (hbk.2.2.2.2 x (List.mem_of_getElem? hx))
         have e5:=wrapS k (by omega)
         have hat1:p.dat im j (k + 1:Nat)=f.dat j (k + 1):=dat_blk hf hb hon (by omega)
         have hat0:p.dat im j k=f.dat j k:=dat_blk hf hb hon (by omega)
         have o0:=f.dat_ok j k
         have o1:=f.dat_ok j (k + 1)
         have hst:=Fun.dat_succ hb hx
         have q0:¬ 0=S'.next:=by omega
         have q1:¬ 0=S'.next + 1:=by omega
         have q2:¬ S.next=S'.next:=by omega
         have q3:¬ S.next=S'.next + 1:=by omega
         simp [hltk,f1,f2,f7,f8,f12,t0]
         refine (defs_At p im j k hp).use (n:=9) (by simp [mapOpt,pict_stab p.funsS.stab]) (by simp [solids,AV.solid,p.funsS.solid]) ?_
         rw [hat0]
         simp [f1,f2,f7,f8,f12,t0,q0,q2,e5]
         refine (defs_At p im j (k + 1:Nat) hp).use (n:=9) (by simp [mapOpt,pict_stab p.funsS.stab]) (by simp [solids,AV.solid,p.funsS.solid]) ?_
         rw [hat1]
         simp [f8,f12,tA,q2,q3,b.insS.idx hx]
         refine (instr_Def x).use (n:=9) (by rfl) rfl ?_
         simp
         by_cases hd:x.def < 0
         ·rw [if_neg (by omega)] at hst
          simp [hd]
          refine (bits_Same _ _ o0.1 o1.1).use (n:=9) (by simp [mapOpt]) rfl ?_
          rw [hst]
          simp [f1,f2,f5,f6,f7,f8,f12,t0,tA,q0,q1,q2,q3,e5]
          exact ⟨k + 1,by omega,by omega,by omega,by omega⟩
         ·rw [if_pos (by omega)] at hst
          have hdefs:p.defs im x.def=f.dids x.def:=by simp [Prg.defs,hf,hd]
          have hmf2:FSl intc 1 (encF intc 1 (f.dids x.def)) (f.dids x.def):=encF_sl
          have hml2:=hok.dids_len x.def
          have hofl:(BSet.ofL 96 (f.dids x.def)).OK:=BSet.ofL_ok (by omega) _
          have hmo:=BSet.minus_ok o0.1 hofl
          have hrea:((f.dat j k).minus (BSet.ofL 96 (f.dids x.def))).with x.id=f.dat j (k + 1):=by
           rw [hst,Ins.reach,if_neg (by omega),o0.2]
          have hone:p.ofD im j (k + 1:Nat) x.def=[x.id]:=by
           have h:=ofD_one hok hb hx (by omega)
           unfold Prg.ofD
           rw [hat1,hdefs]
           exact h
          have he1:encF intc 1 [x.id]=.fsl 1 [[.int .i64 x.id]]:=rfl
          simp [hd]
          refine Dra.auto [] mix ?_ ?_
          ·kernel_rfl
          simp [classes,f1,f2,f7,f8,f12,t0,tA,q0,q1,q2,q3]
          refine (prog_Defs p im x.def hp).ret.b (n:=9) (by simp [mapOpt,pict_stab p.funsS.stab]) rfl ?_
          rw [hdefs]
          simp
          refine (ofW_ret (w:=96) (by omega) hmf2 (by omega)).b (n:=9) (by simp [mapOpt,pict_stab hmf2.stab]) rfl ?_
          simp
          refine (minus_ret o0.1 hofl).b (n:=9) (by simp [mapOpt]) rfl ?_
          simp [f8,f12,tA,q2,q3,b.insS.idx hx]
          refine (with_ret x.id hmo).b (n:=9) (by simp [mapOpt]) rfl ?_
          rw [hrea]
          simp
          refine (bits_Same _ _ o1.1 o1.1).b (n:=9) (by simp [mapOpt]) rfl ?_
          simp [f1,f2,f7,f12,t0,q0,q1,e5]
          refine (defs_Of p im j (k + 1:Nat) x.def hp).b (n:=9) (by simp [mapOpt,pict_stab p.funsS.stab]) (by simp [solids,AV.solid,p.funsS.solid]) ?_
          rw [hone,he1]
          simp [f1,f2,f5,f6,f7,f8,f12,t0,tA,q0,q1,q2,q3,e5]
          exact ⟨k + 1,by omega,by omega,by omega,by omega⟩
        ·simp [hltk,f1,f2,f5,f6,f7,t0,e4]
         exact ⟨j + 1,by omega,by omega,by omega,by omega⟩
       ·simp [f1,f2,f5,f6,f7,f8,t0,tA,tn]
     ·simp [f1,f2,f5,f6,f7,s0,q0,q1]
      exact ⟨hon,rfl,rfl⟩
   ·simp [hlt,f5]
    exact RK.eq rfl rfl
  ·simp
 ·exact RK.eq rfl rfl
end Go.Proofs.YtbhkamemheaajaaGreatDoor.Vm
