/- A part of the proof: Av. -/
import Derived.Test.YtbhkamemheaajaaGreatDoorQ35
set_option linter.unusedVariables false
set_option linter.unusedSimpArgs false
set_option linter.constructorNameAsVariable false
namespace Go.Proofs.YtbhkamemheaajaaGreatDoor.Vm
open Go Go.RowKit
set_option maxRecDepth 100000
variable {N:Nat} {g:Glob}
theorem fillR_get {α:Type} {x y:α} {a n:Nat} (h:a < n):(List.replicate a x ++ List.replicate (n - a) y)[a]?=some y:=by
 rw [List.getElem?_append_right (by simp),List.length_replicate,Nat.sub_self,List.getElem?_replicate,if_pos (by omega)]
theorem fillR_set {α:Type} {x y:α} {a n:Nat} (h:a < n):(List.replicate a x ++ List.replicate (n - a) y).set a x=List.replicate (a + 1) x ++ List.replicate (n - (a + 1)) y:=by
 obtain ⟨k,hk⟩:∃ k,n - a=k + 1:=⟨n - a - 1,by omega⟩
 have hk2:n - (a + 1)=k:=by omega
 rw [List.set_append_right _ _ (by simp),hk,hk2,List.replicate_succ (n:=k) (a:=y),List.length_replicate,Nat.sub_self,List.set_cons_zero,List.replicate_succ' (n:=a) (a:=x),List.append_assoc]
 rfl
def LastI (f:Fun) (j k:Nat) (l:List Int):Prop:=∀(v:Nat) (w:Int),l[v]?=some w→0≤w→w ∈ f.dids (v:Int)∧(f.dat j k).mem w.toNat=true
theorem LastI.step {p:Prg} {i:Int} {f:Fun} (hf:p.fn i=some f) {j k:Nat} {l:List Int} {b:Blk} {x:Ins} (h:LastI f j k l) (hb:f.blks[j]?=some b) (hx:b.ins[k]?=some x):(x.def < 0→LastI f j (k + 1) l)∧∀dn:Nat,x.def=(dn:Int)→dn < l.length→LastI f j (k + 1) (l.set dn x.id):=by
 have hok:=fn_ok hf
 have hxm:=List.mem_of_getElem? hx
 have hfine:=ins_fine ((hok.blk (List.mem_of_getElem? hb)).2.2.2.2 x hxm)
 have hid:x.id ∈ f.dids x.def:=Fun.dids_mem.2 ⟨x,code_insts hb hxm,rfl,rfl⟩
 refine ⟨fun hd v w hv hw=>?_,fun dn hdn hdl v w hv hw=>?_⟩
 ·rw [Fun.dat_succ hb hx,if_neg (by omega)]
  exact h v w hv hw
 ·rw [Fun.dat_succ hb hx,if_pos (by omega),reach_mem (f.dat_ok j k) hfine (by omega)]
  have e:((w.toNat:Nat):Int)=w:=by omega
  rw [e]
  by_cases hvd:v=dn
  ·subst hvd
   rw [List.getElem?_set_self hdl] at hv
   cases hv
   exact ⟨by rw [← hdn];exact hid,by simp⟩
  ·rw [List.getElem?_set_ne (Ne.symm hvd)] at hv
   obtain ⟨h1,h2⟩:=h v w hv hw
   have hno:w ∉ f.dids x.def:=fun h3=>by
    obtain ⟨y,hy,hy1,hy2⟩:=Fun.dids_mem.1 h1
    obtain ⟨z,hz,hz1,hz2⟩:=Fun.dids_mem.1 h3
    have:=insts_uniq hf hy hz (by rw [hy2,hz2])
    subst this
    omega
   exact ⟨h1,by rw [h2];simp [hno]⟩
theorem LastI.has {f:Fun} {j k:Nat} {l:List Int} {v:Nat} {w:Int} (h:LastI f j k l) (hv:l[v]?=some w) (hw:0≤w):((f.dat j k).isB w && (f.dat j k).mem w.toNat)=true:=by
 have h1:=(h v w hv hw).2
 have:w.toNat < 96:=by
  apply Classical.byContradiction
  intro hno
  rw [BSet.mem_top (f.dat_ok j k).1 (by rw [(f.dat_ok j k).2];omega)] at h1
  cases h1
 rw [h1]
 simp [BSet.isB,(f.dat_ok j k).2];omega
def WdI (p:Prg) (f:Fun) (nv:Nat) (jn:Nat) (S:St):Prop:=∃ (b:Blk) (l:List Int),f.blks[jn]?=some b∧b.on=true∧S.obj 0=some (.row 1 [[p.funsV]])∧S.obj 1=some (.row 3 [func f])∧S.obj 3=some (.row 1 (els intc l))∧l.length=nv∧4≤S.next∧LastI f jn 0 l
def WdN (p:Prg) (f:Fun) (nv:Nat) (jn:Nat) (b:Blk) (o n:Nat) (S:St):Prop:=∃ l:List Int,S.obj 0=some (.row 1 [[p.funsV]])∧S.obj 1=some (.row 3 [func f])∧S.obj 3=some (.row 1 (els intc l))∧l.length=nv∧S.obj o=some (.row 3 [blkc b])∧4≤o∧o < S.next∧LastI f jn n l
theorem law_DefsWalk (p:Prg) (i j:Int) (ways:List Int) (wv:AV) (hw:FSl intc 1 wv ways):Ret P (gl N) false 4 [encP p,.int .i64 i,.int .i64 j,wv] (.bool true):=by
 refine Ret.in c4 (by simp) ?_
 simp [k4]
 refine (awake18_ret).use (n:=9) (by rfl) rfl ?_
 simp
 refine (ref06_Few p).use (n:=9) (by simp [mapOpt,pict_stab p.funsS.stab]) (by simp [solids,AV.solid,p.funsS.solid]) ?_
 cases hfew:p.few
 ·simp
  exact RK.eq rfl rfl
 have hp:=Prg.few_fit hfew
 simp
 refine (prog_Sane p hp).use (n:=9) (by simp [mapOpt,pict_stab p.funsS.stab]) (by simp [solids,AV.solid,p.funsS.solid]) ?_
 cases hsane:p.sane
 ·simp
  exact RK.eq rfl rfl
 simp [hw.len]
 refine bra_dec (fun h2=>?_) (fun h2=>?_) <;> simp [h2]
 ·exact RK.eq rfl rfl
 refine (prog_Fun p i hp).use (n:=9) (by simp [mapOpt,pict_stab p.funsS.stab]) (by simp [solids,AV.solid,p.funsS.solid]) ?_
 simp
 refine (prog_Block p i j hp).use (n:=9) (by simp [mapOpt,pict_stab p.funsS.stab]) (by simp [solids,AV.solid,p.funsS.solid]) ?_
 simp
 cases hf:p.fn i with
 | none =>
  simp
  exact RK.eq rfl rfl
 | some f =>
  cases hb:p.blk i j with
  | none =>
   simp
   exact RK.eq rfl rfl
  | some b =>
   have hfb:f.blk j=some b:=by simpa [Prg.blk,hf] using hb
   obtain ⟨jn,hjn,hb0,hon⟩:=blk_at hfb
   subst hjn
   have hok:=fn_ok hf
   have hvo:=hok.vars
   obtain ⟨nv,hnv⟩:∃ n:Nat,f.vars=(n:Int):=⟨f.vars.toNat,by have:=hvo.1;have:=hvo.2.2.1;omega⟩
   have hnv6:nv≤6:=by have:=hvo.2.2.2;omega
   have hroom:nv≤room:=by simp [room];omega
   have e1:∀n:Nat,List.replicate n [AV.int .i64 0]=els intc (List.replicate n 0):=fun n=>els_replicate (e:=intc)
   simp [hnv,hroom]
   refine W.whileI (fun (v:Nat) F S=>v≤nv∧F 1=.int .i64 i∧F 2=.int .i64 jn∧F 3=wv∧F 4=.ptr 0 0 0∧F 9=.bool true∧F 10=.ptr 1 0 0∧F 14=.sl 1 3 0 nv∧F 15=.int .i64 v∧S.obj 0=some (.row 1 [[p.funsV]])∧S.obj 1=some (.row 3 [func f])∧4≤S.next ∧
    S.obj 3=some (.row 1 (List.replicate v [AV.int .i64 (-1)] ++ List.replicate (nv - v) [AV.int .i64 0]))) (fun v=>nv - v) ?_ 0 _ _ ?_
   ·rintro v F S ⟨hv,f1,f2,f3,f4,f9,f10,f14,f15,s0,s1,sn,s3⟩
    simp [f10,f15,s1,hnv]
    by_cases hvl:v < nv
    ·have e4:=wrapS v (by omega)
     have hg1:=fillR_get (x:=[AV.int .i64 (-1)]) (y:=[AV.int .i64 0]) hvl
     have hg2:=fillR_set (x:=[AV.int .i64 (-1)]) (y:=[AV.int .i64 0]) hvl
     generalize List.replicate v [AV.int .i64 (-1)] ++ List.replicate (nv - v) [AV.int .i64 0]=es at *
     simp [hvl,f14,f15,ix_sl hvl,s3,hg1,f1,f2,f3,f4,f9,f10,e4]
     exact ⟨v + 1,by omega,by omega,by omega,by simp [s0],by simp [s1,hnv],sn,by simp [hg2]⟩
    ·have:v=nv:=by omega
     subst this
     rw [Nat.sub_self,List.replicate_zero,List.append_nil] at s3
     have s3':S.obj 3=some (.row 1 (els intc (List.replicate v (-1)))):=by rw [s3];simp [els,intc]
     simp [hvl]
     refine W.whileI (fun (k:Nat) F S=>k≤ways.length∧F 1=.int .i64 i∧(∃ jm:Nat,F 2=.int .i64 jm∧WdI p f v jm S)∧F 3=wv∧F 4=.ptr 0 0 0∧F 9=.bool true∧F 10=.ptr 1 0 0∧F 14=.sl 1 3 0 v∧F 16=.int .i64 k) (fun k=>ways.length - k) ?_ 0 _ _ ?_
     ·clear s0 s1 s3 s3' sn f1 f2 f3 f4 f9 f10 f14 f15
      rintro k F S ⟨hk,f1,⟨jm,f2,b',l,hb',hon',s0,s1,s3,hll,sn,hLI⟩,f3,f4,f9,f10,f14,f16⟩
      simp [f16,f3,hw.len]
      by_cases hkl:k < ways.length
      ·by_cases hk8:k < 6
       ·have hblk:p.blk i jm=some b':=by
         have hlv:f.live (jm:Int)=true:=by simp [Fun.live,hb',hon']
         simp [Prg.blk,hf,Fun.blk,hlv,hb']
        have hbm:=List.mem_of_getElem? hb'
        have hbk:=hok.blk hbm
        have hbo:=hok.out b' hbm
        simp [hkl,show (k:Int) < 6 by omega,f16,f1,f2,f4,s0]
        refine (prog_Block p i jm hp).use (n:=9) (by simp [mapOpt,pict_stab p.funsS.stab]) (by simp [solids,AV.solid,p.funsS.solid]) ?_
        simp [hblk]
        refine W.whileI (fun (n:Nat) F' S'=>n≤b'.ins.length + 1∧F' 1=.int .i64 i∧F' 2=.int .i64 jm∧F' 3=wv∧F' 4=.ptr 0 0 0∧F' 9=.bool true∧F' 10=.ptr 1 0 0∧F' 14=.sl 1 3 0 v∧F' 16=.int .i64 k∧F' 17=.ptr S.next 0 0∧F' 19=.int .i64 n∧WdN p f v jm b' S.next (min n b'.ins.length) S') (fun n=>b'.ins.length + 1 - n) ?_ 0 _ _ ?_
        ·rintro n F' S' ⟨hn,f1,f2,f3,f4,f9,f10,f14,f16,f17,f19,l,t0,t1,t3,hll,tA,on,tn,hLI⟩
         simp [f17,f19,tA,b'.insS.len]
         by_cases hnl:n≤b'.ins.length
         ·rw [Nat.min_eq_left hnl] at hLI
          have hil:b'.ins.length≤16:=hbk.2.2.2.1
          have e5:=wrapS n (by omega)
          have hdo:=f.dat_ok jm n
          simp [hnl,f1,f2,f4,f19,t0]
          refine (defs_At p i jm n hp).use (n:=9) (by simp [mapOpt,pict_stab p.funsS.stab]) (by simp [solids,AV.solid,p.funsS.solid]) ?_
          rw [dat_blk hf hb' hon' hnl]
          simp
          generalize hS1:(S'.new (.row 2 [[.int .i64 0,.nilsl]])).set S'.next (.row 2 [[.int .i64 ((f.dat jm n).n:Int),.fsl 1 (els u64c (f.dat jm n).ws)]])=S1
          have n1:S1.next=S'.next + 1:=by rw [← hS1];simp
          have u1:Up S' S1:=by rw [← hS1];exact (Up.new _ _).put (Nat.le_refl _) _
          have o2:S1.obj S'.next=some (.row 2 [[.int .i64 ((f.dat jm n).n:Int),.fsl 1 (els u64c (f.dat jm n).ws)]]):=by rw [← hS1];simp
          clear hS1
          have r0:=u1.2 0 (by omega)
          have r1:=u1.2 1 (by omega)
          have r3:=u1.2 3 (by omega)
          have rA:=u1.2 S.next tn
          rw [t0] at r0;rw [t1] at r1;rw [t3] at r3;rw [tA] at rA
          refine W.whileI (fun (q:Nat) F'' S''=>q≤v∧F'' 1=.int .i64 i∧F'' 2=.int .i64 jm∧F'' 3=wv∧F'' 4=.ptr 0 0 0∧F'' 9=.bool true∧F'' 10=.ptr 1 0 0∧F'' 14=.sl 1 3 0 v∧F'' 16=.int .i64 k∧F'' 17=.ptr S.next 0 0∧F'' 19=.int .i64 n∧F'' 20=.ptr S'.next 0 0∧F'' 21=.int .i64 q∧S''=S1) (fun q=>v - q) ?_ 0 _ _ ?_
          ·rintro q F'' S'' ⟨hq,f1,f2,f3,f4,f9,f10,f14,f16,f17,f19,f20,f21,rfl⟩
           simp [f10,f21,r1,hnv]
           by_cases hql:q < v
           ·have e6:=wrapS q (by omega)
            obtain ⟨w,hwq⟩:∃ w,l[q]?=some w:=⟨_,List.getElem?_eq_getElem (by omega)⟩
            simp [hql]
            refine Dra.auto [] mix ?_ ?_
            ·kernel_rfl
            simp [classes,f14,f21,ix_sl hql,r3,hwq,intc]
            by_cases hw0:0≤w
            ·have hh:=hLI.has hwq hw0
             simp [hw0,f14,f20,f21,ix_sl hql,r3,hwq,intc,o2]
             refine (bits_Has (f.dat jm n) w hdo.1).b (n:=9) (by simp [mapOpt]) rfl ?_
             rw [hh]
             simp [f1,f2,f3,f4,f9,f10,f14,f16,f17,f19,f20,f21,e6]
             exact ⟨q + 1,by omega,by omega,by omega⟩
            ·simp [hw0,f1,f2,f3,f4,f9,f10,f14,f16,f17,f19,f20,f21,e6]
             exact ⟨q + 1,by omega,by omega,by omega⟩
           ·simp [hql,f17,f19,rA,b'.insS.len]
            by_cases hnl2:n < b'.ins.length
            ·obtain ⟨x,hx⟩:∃ x,b'.ins[n]?=some x:=⟨_,List.getElem?_eq_getElem hnl2⟩
             have hxv:=ins_vars (hbk.2.2.2.2 x (List.mem_of_getElem? hx))
             have hst:=hLI.step hf hb' hx
             have hmin:min (n + 1) b'.ins.length=n + 1:=by omega
             have n0:¬ S.next=3:=by omega
             simp [hnl2,f17,f19,rA,b'.insS.idx hx]
             refine (instr_Def x).use (n:=9) (by rfl) rfl ?_
             simp
             by_cases hd:0≤x.def
             ·obtain ⟨dn,hdn⟩:∃ n:Nat,x.def=(n:Int):=⟨x.def.toNat,by omega⟩
              have hdl:dn < v:=by
               rcases hxv.2 with h | h <;> omega
              obtain ⟨w,hwd⟩:∃ w,l[dn]?=some w:=⟨_,List.getElem?_eq_getElem (by omega)⟩
              have hset:(els intc l).set dn [.int .i64 x.id]=els intc (l.set dn x.id):=els_set (e:=intc)
              simp [hd]
              refine Dra.auto [] mix ?_ ?_
              ·kernel_rfl
              simp [classes,f14,f17,f19,rA,b'.insS.idx hx]
              refine (instr_Def x).b (n:=9) (by rfl) rfl ?_
              rw [hdn]
              simp [ix_sl hdl,r3,hwd,rA,b'.insS.idx hx,intc,hset,f1,f2,f3,f4,f9,f10,f14,f16,f17,f19,e5]
              refine ⟨n + 1,by omega,by omega,by omega,l.set dn x.id,by simp [r0],by simp [r1],by simp,by simp [hll],by simp [n0,rA],on,by simp;omega,?_⟩
              rw [hmin]
              exact hst.2 dn hdn (by omega)
             ·simp [hd,f1,f2,f3,f4,f9,f10,f14,f16,f17,f19,e5]
              refine ⟨n + 1,by omega,by omega,by omega,l,r0,r1,r3,hll,rA,on,by omega,?_⟩
              rw [hmin]
              exact hst.1 (by omega)
            ·have:n=b'.ins.length:=by omega
             subst this
             have hmin:min (b'.ins.length + 1) b'.ins.length=b'.ins.length:=by omega
             simp [f1,f2,f3,f4,f9,f10,f14,f16,f17,f19,e5]
             exact ⟨b'.ins.length + 1,by omega,by omega,by omega,l,r0,r1,r3,hll,rA,on,by omega,by rw [hmin];exact hLI⟩
          ·simp [f1,f2,f3,f4,f9,f10,f14,f16,f17,f19]
         ·have:n=b'.ins.length + 1:=by omega
          subst this
          have hmin:min (b'.ins.length + 1) b'.ins.length=b'.ins.length:=by omega
          rw [hmin] at hLI
          have hbl:b'.out.length < 64:=hbo.1
          simp [f17,tA,b'.outS.len,show ¬ b'.ins.length + 1≤b'.ins.length by omega]
          by_cases ho0:b'.out=[]
          ·simp [ho0,f9]
           exact RK.eq rfl rfl
          ·obtain ⟨wk,hwk⟩:∃ w,ways[k]?=some w:=⟨_,List.getElem?_eq_getElem hkl⟩
           obtain ⟨a,ha⟩:=low_and wk
           simp [ho0,f17,tA]
           refine Dra.auto [] mix ?_ ?_
           ·kernel_rfl
           simp [classes,f3,f16,f17,tA,hw.idx hwk,intc,b'.outS.len]
           have hop:0 < b'.out.length:=List.length_pos_iff.2 ho0
           have hr:(iand IntKind.i64 wk 65535).tmod (b'.out.length:Int)=((a % b'.out.length:Nat):Int):=by rw [ha];rfl
           obtain ⟨jj,hj⟩:∃ j,b'.out[a % b'.out.length]?=some j:=⟨_,List.getElem?_eq_getElem (Nat.mod_lt _ hop)⟩
           obtain ⟨hj0,hjn,b2,hb2,hon2⟩:=live_lt (hbk.2.2.1 jj (List.mem_of_getElem? hj))
           obtain ⟨jn2,rfl⟩:∃ n:Nat,jj=(n:Int):=⟨jj.toNat,by omega⟩
           simp only [Int.toNat_natCast] at hb2
           have hjoin:LastI f jn2 0 l:=fun v w hv hw=>by
            obtain ⟨h1,h2⟩:=hLI v w hv hw
            exact ⟨h1,by rw [Fun.dat_zero];exact Fun.din_of hok hb' (List.mem_of_getElem? hj) h2⟩
           have e7:=wrapS k (by omega)
           have hidx:=b'.outS.idx hj
           rw [show ((a % b'.out.length:Nat):Int)=(a:Int) % (b'.out.length:Int) from rfl] at hidx
           rw [hr]
           simp [ho0,hidx,intc,f1,f3,f4,f9,f10,f14,f16,e7]
           exact ⟨k + 1,by omega,by omega,⟨jn2,rfl,b2,l,hb2,hon2,t0,t1,t3,hll,by omega,hjoin⟩,by omega⟩
        ·simp [f1,f2,f3,f4,f9,f10,f14,f16]
         exact ⟨l,by simp [show ¬ 0=S.next by omega,s0],by simp [show ¬ 1=S.next by omega,s1],by simp [show ¬ 3=S.next by omega,s3],hll,by simp,sn,by simp,hLI⟩
       ·simp [hkl,show ¬ (k:Int) < 6 by omega,f16,f9]
        exact RK.eq rfl rfl
      ·simp [hkl,f9]
       exact RK.eq rfl rfl
     ·simp [f1,f2,f3,f4,f9,f10,f14]
      refine ⟨jn,rfl,b,List.replicate v (-1),hb0,hon,s0,s1,s3',by simp,sn,?_⟩
      intro u w hu hw
      have:=List.mem_of_getElem? hu
      rw [List.mem_replicate] at this
      omega
   ·simp [hnv]
end Go.Proofs.YtbhkamemheaajaaGreatDoor.Vm
