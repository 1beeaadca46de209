/- A part of the proof: An Az AA. -/
import Derived.Test.YtbhkamemheaajaaGreatDoorQ28
set_option linter.unusedVariables false
set_option linter.unusedSimpArgs false
set_option linter.constructorNameAsVariable false
namespace Go.Proofs.YtbhkamemheaajaaGreatDoor.Vm
open Go Go.RowKit
set_option maxRecDepth 100000
variable {N:Nat} {g:Glob}
theorem encN_true {α:Type} {e:α→List AV} {sz:Nat} {l:List α}:encN true e sz l=encF e sz l:=by simp [encN,encF]
theorem FSl.cut3 {α:Type} {e:α→List AV} {sz:Nat} {v:AV} {l:List α} (h:FSl e sz v l):pk (.slice sz false true true) [v,.int .i64 (l.length:Int),.int .i64 (l.length:Int)]=some (encF e sz l):=by
 rcases h with rfl | ⟨rfl,rfl⟩
 ·cases l with
  | nil=>simp [pk,bnds,els,encF]
  | cons a l =>
   have h1:¬ ((l.length:Int) + 1 < 0):=by omega
   have h2:(0:Int)≤(l.length:Int) + 1:=by omega
   have h3:List.take (l.length + 1) (e a :: List.map e l)=e a :: List.map e l:=List.take_of_length_le (by simp)
   simp [pk,bnds,els,encF,h1,h2,h3]
 ·simp [pk,bnds,encF]
theorem sl_cut3 {sz o n:Nat} (hn:¬ n=0):pk (.slice sz false true true) [.sl sz o 0 n,.int .i64 (n:Int),.int .i64 (n:Int)]=some (.sl sz o 0 n):=by
 have h:¬ ((n:Int) < 0):=by omega
 have h2:(0:Int)≤(n:Int):=by omega
 simp [pk,bnds,h,h2,hn]
theorem Blk.nrm_ins (y:Blk):y.nrm.insV=encF insc 11 y.ins:=encN_true
theorem Blk.nrm_out (y:Blk):y.nrm.outV=encF intc 1 y.out:=encN_true
def nrmTo (l:List Blk) (k:Nat):List Blk:=(l.take k).map Blk.nrm ++ l.drop k
theorem nrmTo_len (l:List Blk) (k:Nat):(nrmTo l k).length=l.length:=by simp [nrmTo];omega
theorem nrmTo_at {l:List Blk} {k:Nat} {y:Blk} (h:l[k]?=some y):(nrmTo l k)[k]?=some y:=by
 have hk:=(List.getElem?_eq_some_iff.1 h).1
 unfold nrmTo
 rw [List.getElem?_append_right (by rw [List.length_map,List.length_take];omega),List.length_map,List.length_take,Nat.min_eq_left (by omega),Nat.sub_self,List.getElem?_drop]
 exact h
theorem nrmTo_set {l:List Blk} {k:Nat} {y:Blk} (h:l[k]?=some y):(nrmTo l k).set k y.nrm=nrmTo l (k + 1):=by
 have hk:=(List.getElem?_eq_some_iff.1 h).1
 unfold nrmTo
 rw [List.set_append_right _ _ (by rw [List.length_map,List.length_take];omega),List.length_map,List.length_take,Nat.min_eq_left (by omega),Nat.sub_self,take_succ_get h,List.map_append,List.append_assoc]
 congr 1
 have:l.drop k=y :: l.drop (k + 1):=by
  rw [List.drop_eq_getElem_cons hk]
  rw [List.getElem?_eq_getElem hk] at h
  rw [Option.some.inj h]
 rw [this];rfl
theorem nrmTo_zero (l:List Blk):nrmTo l 0=l:=by simp [nrmTo]
theorem nrmTo_all (l:List Blk):nrmTo l l.length=l.map Blk.nrm:=by simp [nrmTo]
theorem apply_own {p:Prg} {i:Nat} {f:Fun} (hpl:p.funs.length < 2 ^ 20) (hf:p.funs[i]?=some f) (h0:0 < f.blks.length) (hbl:f.blks.length≤12) {S:St} {K:AV→St→Prop}
  (hk:∀S' A B,Up S S'→A < S'.next→B < S'.next→S.next≤A→S.next≤B→A ≠ B→S'.obj A=some (.row 3 ((els func p.funs).set i [.int .i64 f.par,.int .i64 f.vars,.sl 3 B 0 f.blks.length]))→S'.obj B=some (.row 3 (els blkc (f.blks.map Blk.nrm)))→K (.agg [.sl 3 A 0 p.funs.length]) S') :
  Cal P g 74 [encP p,.int .i64 (i:Int)] S K:=by
 refine c74.in (by simp) ?_
 have hi:=(List.getElem?_eq_some_iff.1 hf).1
 have hroom:p.funs.length≤room:=by simp [room];omega
 have hroom2:f.blks.length≤room:=by simp [room];omega
 have hpn:¬ p.funs.length=0:=by omega
 have hfn:¬ f.blks.length=0:=by omega
 have hfe:(els func p.funs)[i]?=some (func f):=by simp [els,hf]
 have hget:p.funs[i]=f:=by rw [List.getElem?_eq_getElem hi] at hf;exact Option.some.inj hf
 obtain ⟨fs,hfs⟩:∃ fs,fs=els func p.funs:=⟨_,rfl⟩
 obtain ⟨bs,hbs⟩:∃ bs,bs=els blkc f.blks:=⟨_,rfl⟩
 have hokA:okAll 3 fs:=by
  rw [hfs]
  refine List.all_eq_true.2 fun e he=>?_
  simp only [els,List.mem_map] at he
  obtain ⟨h,_,rfl⟩:=he
  simp [okEl,func,fsl_one h.blksS]
 have hokB:okAll 3 bs:=by
  rw [hbs]
  refine List.all_eq_true.2 fun e he=>?_
  simp only [els,List.mem_map] at he
  obtain ⟨h,_,rfl⟩:=he
  simp [okEl,blkc,fsl_one h.insS,fsl_one h.outS]
 have hfl:fs.length=p.funs.length:=by rw [hfs];simp
 have hbl2:bs.length=f.blks.length:=by rw [hbs];simp
 have htA:List.take p.funs.length fs=fs:=List.take_of_length_le (by omega)
 have htB:List.take f.blks.length bs=bs:=List.take_of_length_le (by omega)
 have heA:elems S p.funsV=some fs:=by rw [hfs];exact p.funsS.elems
 have hsA:∀S:St,elems S p.funsV=some fs:=fun S=>by rw [hfs];exact p.funsS.elems
 have hsB:∀S:St,elems S f.blksV=some bs:=fun S=>by rw [hbs];exact f.blksS.elems
 rw [← hfs] at hfe
 have hget2:fs[i]'(by omega)=func f:=by rw [List.getElem?_eq_getElem (by omega)] at hfe;exact Option.some.inj hfe
 have q1:¬ S.next=S.next + 1:=by omega
 have q2:¬ S.next=S.next + 1 + 1:=by omega
 have q3:¬ S.next=S.next + 1 + 1 + 1:=by omega
 have q4:¬ S.next + 1 + 1=S.next + 1 + 1 + 1:=by omega
 have hmin:∀k:Nat,k=min k k:=fun k=>(Nat.min_self k).symm
 simp [k74,hroom,hsA,p.funsS.len,hpn,hi,ix_sl hi,hfe,hget2,hroom2,hsB,f.blksS.len,hfn,hokA,hokB,hfl,hbl2,htA,htB,q1,q2,q3,q4]
 generalize hA:S.next + 1 + 1=A at *
 have q5:¬ S.next + 1=A:=by omega
 have hcA:pk (.slice 3 false true true) [.sl 3 A 0 p.funs.length,.int .i64 (p.funs.length:Int),.int .i64 (p.funs.length:Int)]=some (.sl 3 A 0 p.funs.length):=sl_cut3 hpn
 refine W.whileI (fun (k:Nat) F S'=>k≤f.blks.length∧F 1=.int .i64 i∧F 2=.ptr S.next 0 0∧F 4=.ptr (S.next + 1) 0 0∧F 5=.sl 3 A 0 p.funs.length∧F 6=.sl 3 (A + 1) 0 f.blks.length∧F 38=.int .i64 f.blks.length∧F 39=.int .i64 k ∧
  Up S S'∧S'.next=A + 2∧S'.obj A=some (.row 3 fs)∧S'.obj (A + 1)=some (.row 3 (els blkc (nrmTo f.blks k)))∧S'.obj (S.next + 1)=some (.row 1 [[.nilsl]])) (fun k=>f.blks.length - k) ?_ 0 _ _ ?_
 ·rintro k F S' ⟨hk',f1,f2,f4,f5,f6,f38,f39,up,nx,oA,oB,oR⟩
  simp [f38,f39]
  by_cases hlt:k < f.blks.length
  ·have e4:=wrapS k (by omega)
   obtain ⟨y,hy⟩:∃ y,f.blks[k]?=some y:=⟨_,List.getElem?_eq_getElem hlt⟩
   have hey:(els blkc (nrmTo f.blks k))[k]?=some (blkc y):=by simp [els,nrmTo_at hy]
   have hel:(els blkc (nrmTo f.blks k)).length=f.blks.length:=by simp [nrmTo_len]
   have hset:(els blkc (nrmTo f.blks k)).set k [.bool y.on,encF insc 11 y.ins,encF intc 1 y.out]=els blkc (nrmTo f.blks (k + 1)):=by
    rw [← nrmTo_set hy,← els_set]
    show _=(els blkc (nrmTo f.blks k)).set k [.bool y.on,y.nrm.insV,y.nrm.outV]
    rw [Blk.nrm_ins,Blk.nrm_out]
   have hc1:=y.insS.cut3
   have hc2:=y.outS.cut3
   have ho1:=fsl_one (encF_sl (e:=insc) (sz:=11) (l:=y.ins))
   have ho2:=fsl_one (encF_sl (e:=intc) (sz:=1) (l:=y.out))
   have hk1:(encF insc 11 y.ins).cells=[encF insc 11 y.ins]:=FSl.cells encF_sl
   have hk2:(encF intc 1 y.out).cells=[encF intc 1 y.out]:=FSl.cells encF_sl
   generalize els blkc (nrmTo f.blks k)=es at *
   have hge:∀v,(es.set k v)[k]?=some v:=fun v=>List.getElem?_set_self (by omega)
   simp [hlt,f6,f39,ix_sl hlt]
   refine Dra.auto [] mix ?_ ?_
   ·kernel_rfl
   simp [classes,oB,hey,blkc,y.insS.len,y.outS.len,hc1,hc2,ho1,ho2,hk1,hk2,hge,set_set,hset,f1,f2,f4,f5,f6,f38,f39,e4,q2]
   exact ⟨k + 1,by omega,by omega,by omega,up.put (by omega) _,nx,oA,rfl,oR⟩
  ·have:k=f.blks.length:=by omega
   subst this
   rw [nrmTo_all] at oB
   simp [f1,f5,f6,ix_sl hi,oA,hfe,hget2,hcA,f4,oR,q5]
   refine hk _ A (A + 1) ((up.put (by omega) _).put (by omega) _) (by simp [nx]) (by simp [nx]) (by omega) (by omega) (by omega) ?_ ?_
   ·simp [show ¬ A=S.next + 1 by omega,show ¬ A=S.next by omega,hfs]
   ·simp [show ¬ A + 1=S.next + 1 by omega,show ¬ A=S.next by omega,oB,q2]
 ·simp [nrmTo_zero,← hbs,q2,q5]
  refine ⟨?_,hA,fun h=>by omega⟩
  refine Up.put (Up.more (Up.put (Up.more (Up.more (Up.new _ _) _) _) ?_ _) _) ?_ _ <;> omega
end Go.Proofs.YtbhkamemheaajaaGreatDoor.Vm
namespace Go.Proofs.YtbhkamemheaajaaGreatDoor.Vm
open Go Go.RowKit
set_option maxRecDepth 100000
variable {N:Nat} {g:Glob}
theorem apply_block3 {i b t id:Int} {B k:Nat} {es:List (List AV)} {z:Blk} {S:St} {K:AV→St→Prop} (hB:S.obj B=some (.row 3 es)) (hBl:B < S.next) (hz:es[k]?=some (blkc z)) (hr:rises z.out=true) (hl:z.out.length < 2 ^ 18)
  (hk:K (.tuple []) ((S.new (.row 17 [edc i b t])).set B (.row 3 (es.set k [.bool z.on,z.insV,.fsl 1 (els intc (oneMore z.out t))])))):Cal P g 77 [.ptr B k 0,encE3 i b t,.int .i64 id] S K:=by
 refine c77.in (by simp) ?_
 have q1:¬ B=S.next:=by omega
 simp [k77]
 refine Dra.auto [] mix ?_ ?_
 ·kernel_rfl
 simp [classes,hB,hz,blkc,q1]
 refine (apply_with z.outS t hr hl).b (n:=9) (by simp [mapOpt,pict_stab z.outS.stab]) (by simp [solids,AV.solid,z.outS.solid]) ?_
 simp [hB,hz,blkc,q1]
 exact hk
theorem chk_zero {p:Prg} {i b t:Int} (h:p.chk i b t=0):p.sane=true∧∃ (im bm:Nat) (f:Fun) (y:Blk),i=(im:Int)∧b=(bm:Int)∧p.funs[im]?=some f∧p.fn (im:Int)=some f∧f.blks[bm]?=some y∧y.on=true∧f.live t=true∧t ∉ y.out:=by
 unfold Prg.chk at h
 split at h
 ·rename_i hs
  split at h
  ·rename_i hi
   unfold Prg.chkE at h
   split at h
   ·omega
   ·rename_i hn
    split at h
    ·omega
    ·rename_i he
     obtain ⟨im,rfl⟩:∃ n:Nat,i=(n:Int):=⟨i.toNat,by omega⟩
     obtain ⟨f,hf⟩:∃ f,p.funs[im]?=some f:=⟨_,List.getElem?_eq_getElem (by omega)⟩
     have hfn:p.fn (im:Int)=some f:=by
      unfold Prg.fn
      rw [if_pos ⟨by omega,hs⟩];exact hf
     cases h1:p.blk im b with
     | none=>simp [h1] at hn
     | some y =>
      cases h2:p.blk im t with
      | none=>simp [h2] at hn
      | some y2 =>
       have hb1:f.blk b=some y:=by simpa [Prg.blk,hfn] using h1
       have hb2:f.blk t=some y2:=by simpa [Prg.blk,hfn] using h2
       obtain ⟨bm,rfl,hy,hon⟩:=blk_at hb1
       refine ⟨hs,im,bm,f,y,rfl,rfl,hf,hfn,hy,hon,?_,?_⟩
       ·unfold Fun.blk at hb2
        split at hb2
        ·assumption
        ·cases hb2
       ·simpa [Prg.isEdge,h1] using he
  ·omega
 ·omega
noncomputable def Prg.app (p:Prg) (i b t:Int):Prg:=if p.chk i b t=0 then p.edge i.toNat b.toNat t else p
theorem blkc_mem {S:St} {n:Nat} (z:Blk):mapOpt (Vm.pict S [] (n + 1)) (blkc z)=some (blkc z):=by
 simp [mapOpt,blkc,pict_stab z.insS.stab,pict_stab z.outS.stab]
theorem func_mem {S:St} {n:Nat} (f:Fun):mapOpt (Vm.pict S [] (n + 1)) (func f)=some (func f):=by
 simp [mapOpt,func,pict_stab f.blksS.stab]
theorem edge_pict {p:Prg} {im bm:Nat} {f:Fun} {y:Blk} {t:Int} (hf:p.funs[im]?=some f) (hy:f.blks[bm]?=some y) {S:St} {A B:Nat}
  (oA:S.obj A=some (.row 3 ((els func p.funs).set im [.int .i64 f.par,.int .i64 f.vars,.sl 3 B 0 f.blks.length])))
  (oB:S.obj B=some (.row 3 ((els blkc (f.blks.map Blk.nrm)).set bm [.bool y.nrm.on,y.nrm.insV,.fsl 1 (els intc (oneMore y.nrm.out t))]))) :
  Vm.pict S [] 7 (.sl 3 A 0 p.funs.length)=some (p.edge im bm t).funsV:=by
 have hbs:(els blkc (f.blks.map Blk.nrm)).set bm [.bool y.nrm.on,y.nrm.insV,.fsl 1 (els intc (oneMore y.nrm.out t))]=els blkc (f.edge bm t).blks:=by
  have hne:oneMore y.out t ≠ []:=fun h=>by have:=oneMore_len y.out t;rw [h] at this;simp at this
  have e1:(y.wide t).outV=.fsl 1 (els intc (oneMore y.out t)):=by
   show encN true intc 1 (oneMore y.out t)=_
   rw [encN_true,encF,if_neg hne]
  rw [edge_blks hy,← els_set]
  show _=(els blkc (f.blks.map Blk.nrm)).set bm [.bool y.on,y.nrm.insV,(y.wide t).outV]
  rw [e1];rfl
 rw [hbs] at oB
 have hml:f.blks.length=(f.edge bm t).blks.length:=(edge_len hy).symm
 have pB:Vm.pict S [] 6 (.sl 3 B 0 f.blks.length)=some (f.edge bm t).blksV:=by
  have:(f.edge bm t).blksV=.fsl 3 (els blkc (f.edge bm t).blks):=rfl
  rw [this]
  refine pict_row oB (by simp [hml]) (by simp [hml]) fun k e he=>?_
  simp only [els,List.getElem?_map] at he ⊢
  cases hz:(f.edge bm t).blks[k]? with
  | none=>rw [hz] at he;cases he
  | some z=>rw [hz] at he;cases he;simp [blkc_mem]
 have hpl:(p.edge im bm t).funs.length=p.funs.length:=by rw [pedge_funs hf];simp
 have hV:(p.edge im bm t).funsV=.fsl 3 (els func (p.edge im bm t).funs):=rfl
 rw [hV]
 refine pict_row oA (by simp) (by simp [hpl]) fun k e he=>?_
 have him:=(List.getElem?_eq_some_iff.1 hf).1
 simp only [els,List.getElem?_map]
 rw [pedge_at hf]
 by_cases hk:k=im
 ·subst hk
  rw [List.getElem?_set_self (by simpa using him)] at he
  cases he
  rw [if_pos rfl]
  have h1:Vm.pict S [] 6 (.int .i64 f.par)=some (.int .i64 f.par):=by simp
  have h2:Vm.pict S [] 6 (.int .i64 f.vars)=some (.int .i64 f.vars):=by simp
  simp only [mapOpt,pB,h1,h2]
  rfl
 ·rw [List.getElem?_set_ne (Ne.symm hk)] at he
  rw [if_neg hk]
  simp only [els,List.getElem?_map] at he
  cases hz:p.funs[k]? with
  | none=>rw [hz] at he;cases he
  | some z=>rw [hz] at he;cases he;simp [func_mem]
theorem edge_RK {p:Prg} {im bm:Nat} {f:Fun} {y:Blk} {t:Int} (hf:p.funs[im]?=some f) (hy:f.blks[bm]?=some y) {S:St} {A B:Nat}
  (oA:S.obj A=some (.row 3 ((els func p.funs).set im [.int .i64 f.par,.int .i64 f.vars,.sl 3 B 0 f.blks.length])))
  (oB:S.obj B=some (.row 3 ((els blkc (f.blks.map Blk.nrm)).set bm [.bool y.nrm.on,y.nrm.insV,.fsl 1 (els intc (oneMore y.nrm.out t))]))) :
  RK (.tuple [.agg [(p.edge im bm t).funsV],.int .i64 0]) (.tuple [.agg [.sl 3 A 0 p.funs.length],.int .i64 0]) S:=by
 have h:=edge_pict hf hy oA oB
 refine ⟨9,?_⟩
 have h1:Vm.pict S [] 8 (.int .i64 0)=some (.int .i64 0):=by simp
 have h2:Vm.pict S [] 8 (.agg [.sl 3 A 0 p.funs.length])=some (.agg [(p.edge im bm t).funsV]):=by
  show (mapOpt (Vm.pict S [] 7) [.sl 3 A 0 p.funs.length]).map AV.agg=_
  simp only [mapOpt,h]
  rfl
 show (mapOpt (Vm.pict S [] 8) [.agg [.sl 3 A 0 p.funs.length],.int .i64 0]).map AV.tuple=_
 simp only [mapOpt,h1,h2]
 rfl
theorem apply_Apply3 (p:Prg) (i b t:Int) (hp:p.Fit):Ret P (gl N) false 34 [encP p,encE3 i b t] (.tuple [encP (p.app i b t),.int .i64 (p.chk i b t)]):=by
 refine Ret.in c34 (by simp) ?_
 simp [k34]
 refine (edit_Check p i b t hp).use (n:=9) (by simp [mapOpt,pict_stab p.funsS.stab]) (by simp [solids,AV.solid,p.funsS.solid]) ?_
 by_cases hc:p.chk i b t=0
 ·have happ:p.app i b t=p.edge i.toNat b.toNat t:=by unfold Prg.app;rw [if_pos hc]
  rw [happ]
  obtain ⟨hsane,im,bm,f,y,rfl,rfl,hf,hfn,hy,hon,hlv,hno⟩:=chk_zero hc
  have hok:=fn_ok hfn
  have hl:=hok.len
  have him:=(List.getElem?_eq_some_iff.1 hf).1
  have hbm:=(List.getElem?_eq_some_iff.1 hy).1
  have hyk:=hok.blk (List.mem_of_getElem? hy)
  have hyo:=(hok.out y (List.mem_of_getElem? hy)).1
  simp only [Int.toNat_natCast]
  simp [hc]
  refine apply_own (i:=im) (by have:=(Prg.sane_iff.1 hsane).1;omega) hf (by omega) (by omega) fun S1 A B up hA hB hA1 hB1 hAB oA oB=>?_
  have u0:=up.2 0 (by simp)
  have u1:=up.2 1 (by simp)
  have u2:=up.2 2 (by simp)
  have n1:=up.1
  simp at u0 u1 u2 n1 hA1 hB1
  have heA:((els func p.funs).set im [.int .i64 f.par,.int .i64 f.vars,.sl 3 B 0 f.blks.length])[im]?=some [.int .i64 f.par,.int .i64 f.vars,.sl 3 B 0 f.blks.length]:=List.getElem?_set_self (by simpa using him)
  have heB:(els blkc (f.blks.map Blk.nrm))[bm]?=some (blkc y.nrm):=by simp [els,hy]
  generalize hfs:(els func p.funs).set im [.int .i64 f.par,.int .i64 f.vars,.sl 3 B 0 f.blks.length]=fs at *
  generalize hbs:els blkc (f.blks.map Blk.nrm)=bs at *
  have q0:¬ 0=S1.next:=by omega
  have q1:¬ 1=S1.next:=by omega
  have q2:¬ 2=S1.next:=by omega
  have qA:¬ A=S1.next:=by omega
  have qB:¬ B=S1.next:=by omega
  simp [u0,u1,u2,q0,q1,q2]
  refine Dra.auto [13] mix ?_ ?_
  ·kernel_rfl
  simp [classes,u0,u1,u2,q0,q1,q2,qA,qB,oA,oB,heA,ix_sl him,ix_sl hbm]
  refine (prog_NewId p hp).b (n:=9) (by simp [mapOpt,pict_stab p.funsS.stab]) (by simp [solids,AV.solid,p.funsS.solid]) ?_
  simp
  refine ⟨.tuple [],_,apply_block3 (z:=y.nrm) (B:=B) (k:=bm) (es:=bs) (by simp [qB,oB]) (by simp;omega) heB hyk.2.1 (by show y.out.length < 2 ^ 18;omega) ⟨rfl,rfl⟩,?_⟩
  have qC:¬ S1.next=B:=by omega
  have qD:¬ A=B:=hAB
  have q3:¬ 2=B:=by omega
  have q4:¬ 2=S1.next + 1:=by omega
  have q5:¬ A=S1.next + 1:=by omega
  have q6:¬ A=2:=by omega
  have q7:¬ B=2:=by omega
  have qE:¬ S1.next=2:=by omega
  simp [u2,q2,q3,q4,qC,qD,qE]
  exact edge_RK (B:=B) hf hy (by simp [q6,qD,q5,qA,oA,hfs]) (by simp [q7,hbs])
 ·have happ:p.app i b t=p:=by unfold Prg.app;rw [if_neg hc]
  rw [happ]
  simp [hc]
  exact ⟨9,by simp [mapOpt,pict_stab p.funsS.stab]⟩
end Go.Proofs.YtbhkamemheaajaaGreatDoor.Vm
namespace Go.Proofs.YtbhkamemheaajaaGreatDoor.Vm
open Go Go.RowKit
set_option maxRecDepth 100000
variable {N:Nat} {g:Glob}
theorem law20_flatsE (l:List Env) (v:AV) (hv:FSl envc 2 v l) (hl:l.length < 2 ^ 20) (hs:∀e ∈ l,Env.small e):Ret P g false 37 [v] (encF envT 2 l):=by
 refine Ret.in c37 (by simp) ?_
 have hone:∀e:Env,(encF valc 2 e.vals).one=true:=fun e=>fsl_one (encF_sl (e:=valc) (sz:=2) (l:=e.vals))
 simp [k37]
 refine W.whileI (fun (a:Nat) F S=>a≤l.length∧F 0=v∧F 4=.int .i64 a∧Has envT 2 S (F 3) (l.take a)∧Bel S (F 3)) (fun a=>l.length - a) ?_ 0 _ _ ?_
 ·rintro a F S ⟨ha,f0,f4,h3,b3⟩
  simp [f0,f4,hv.len]
  by_cases hlt:a < l.length
  ·have e4:=wrapS a (by omega)
   obtain ⟨e,he⟩:∃ e,l[a]?=some e:=⟨_,List.getElem?_eq_getElem hlt⟩
   have hes:=hs e (List.mem_of_getElem? he)
   simp [hlt,f0,f4,hv.idx he]
   refine (theirFlat_ret e hes).use (n:=9) (by simp [mapOpt]) (by simp [solids,AV.solid]) ?_
   simp [envT]
   refine appV_own (e:=envT) (x:=e) (h3.new b3) (by simp [okEl,envT,hone]) (by simp [room];omega) fun S1 m1 m2 m3=>?_
   simp [f0,f4,e4]
   refine ⟨a + 1,by omega,by omega,by omega,?_,Bel.sl (by rw [m2];exact Nat.lt_succ_self _)⟩
   rw [take_succ_get he]
   simpa using m1
  ·have:a=l.length:=by omega
   subst this
   rw [List.take_length] at h3
   simp
   rcases h3 with ⟨h,hn⟩ | ⟨o,h,ho,hne⟩
   ·rw [h,hn]
    exact RK.eq (by simp [encF]) (by simp [encF,AV.stab])
   ·rw [h]
    have hE:encF envT 2 l=.fsl 2 (els envT l):=by unfold encF;rw [if_neg hne]
    rw [hE]
    refine ⟨9,pict_row (m:=8) ho (by simp) (by simp) fun j z hz=>?_⟩
    rw [hz]
    simp only [els,List.getElem?_map] at hz
    cases hxj:l[j]? with
    | none=>rw [hxj] at hz;cases hz
    | some e=>rw [hxj] at hz;cases hz;exact envT_pict e
 ·simp
  exact ⟨.inl ⟨rfl,rfl⟩,Bel.nil⟩
theorem ref20_FlatsE (l:List Env) (v w:AV) (hv:FSl envT 2 v l) (hw:FSl envT 2 w l) (hl:l.length < 2 ^ 40) (hs:∀e ∈ l,Env.small e):Ret P g false 36 [v,w] (.bool true):=by
 refine Ret.in c36 (by simp) ?_
 have hpT:∀(e:Env) {S:St} {n:Nat},pict S [] (n + 2) (.agg [.bool e.isSome,encF valc 2 e.vals])=some (.agg (envT e)):=fun e {S n}=>by
  have h:FSl valc 2 (encF valc 2 e.vals) e.vals:=encF_sl
  simp [mapOpt,pict_stab h.stab,envT]
 simp [k36,hv.len,hw.len]
 refine W.whileI (fun (a:Nat) F S=>a≤l.length∧F 0=v∧F 1=w∧F 5=.int .i64 a) (fun a=>l.length - a) ?_ 0 _ _ ?_
 ·rintro a F S ⟨ha,f0,f1,f5⟩
  simp [f0,f5,hv.len]
  by_cases hlt:a < l.length
  ·have e4:=wrapS a (by omega)
   obtain ⟨e,he⟩:∃ e,l[a]?=some e:=⟨_,List.getElem?_eq_getElem hlt⟩
   have hes:=hs e (List.mem_of_getElem? he)
   have h1:=sameT (g:=g) e e hes
   rw [decide_eq_true rfl] at h1
   simp [hlt]
   refine Dra.auto [] mix ?_ ?_
   ·kernel_rfl
   simp [classes,f0,f1,f5,hv.idx he,hw.idx he,envT]
   refine h1.b (n:=9) (by simp [mapOpt,hpT,envT]) rfl ?_
   simp [f0,f1,f5,e4]
   exact ⟨a + 1,by omega,by omega,by omega⟩
  ·have:a=l.length:=by omega
   subst this
   simp
   exact RK.stab rfl
 ·simp
theorem Env.leq_of_le {a c:Env} {n:Nat} (ha:a.fit n) (hc:c.fit n) (h:a.le c):a.leq c=true:=by
 cases a with
 | none=>rfl
 | some l =>
  obtain ⟨m,rfl,hlm⟩:=h l rfl
  obtain ⟨hl1,hl2⟩:=ha l rfl
  obtain ⟨hm1,hm2⟩:=hc m rfl
  have:leqL l m (max l.length m.length):=fun j _=>by
   exact (Val.leq_iff (getL_ok _ _) (getL_ok _ _)).2 (getL_mono hl2 hm2 (by omega) hlm _)
  show decide (leqL l m (max l.length m.length))=true
  exact decide_eq_true this
theorem pedge_fit {p:Prg} {f:Fun} {im bm:Nat} {t:Int} {y:Blk} (hp:p.Fit) (hf:p.funs[im]?=some f) (hok:FunOK p f) (hy:f.blks[bm]?=some y) (hon:y.on=true) (hl:f.live t=true) (hn:t ∉ y.out):(p.edge im bm t).Fit:=by
 have he:=pedge_ok (t:=t) hf hok hy hon hl hn
 refine ⟨by rw [pedge_funs hf];simpa using hp.funs,fun z hz=>?_⟩
 obtain ⟨k,hk⟩:=List.getElem?_of_mem hz
 rw [pedge_at hf] at hk
 by_cases h:k=im
 ·rw [if_pos h] at hk
  cases hk
  have h12:=he.len.2
  refine ⟨by omega,fun b hb=>?_,fun b hb=>?_⟩
  ·have:=(he.blk hb).2.2.2.1;omega
  ·have:=(he.out b hb).1;omega
 ·rw [if_neg h] at hk
  exact hp.each z (List.mem_of_getElem? hk)
theorem cin_smallE (p:Prg) (i:Int):(p.cin i).length < 2 ^ 20∧∀e ∈ p.cin i,Env.small e:=by
 unfold Prg.cin
 split
 ·exact ⟨by simp,fun e he=>by cases he⟩
 ·rename_i f hf
  have hok:=fn_ok hf
  have hl:=hok.len
  refine ⟨by rw [f.cin_len];omega,fun e he=>?_⟩
  obtain ⟨k,hk⟩:=List.getElem?_of_mem he
  have:=(f.cin_fit k).small f.wid_lt
  rwa [List.getD_eq_getElem?_getD,hk] at this
theorem law_ConstsEdge (p:Prg) (i b t:Int):Ret P (gl N) false 7 [encP p,.int .i64 i,.int .i64 b,.int .i64 t] (.bool true):=by
 refine Ret.in c7 (by simp) ?_
 simp [k7]
 refine (awake20_ret).use (n:=9) (by rfl) rfl ?_
 simp
 refine (ref06_Few p).use (n:=9) (by simp [mapOpt,pict_stab p.funsS.stab]) (by simp [solids,AV.solid,p.funsS.solid]) ?_
 cases hfew:p.few
 ·simp
  exact RK.eq rfl rfl
 have hp:=Prg.few_fit hfew
 simp
 refine (prog_Sane p hp).use (n:=9) (by simp [mapOpt,pict_stab p.funsS.stab]) (by simp [solids,AV.solid,p.funsS.solid]) ?_
 cases hsane:p.sane
 ·simp
  exact RK.eq rfl rfl
 simp
 refine (apply_Apply3 p i b t hp).use (n:=9) (by simp [mapOpt,pict_stab p.funsS.stab]) (by simp [solids,AV.solid,p.funsS.solid]) ?_
 have hc1:=cin_smallE p i
 by_cases hc:p.chk i b t=0
 ·have happ:p.app i b t=p.edge i.toNat b.toNat t:=by unfold Prg.app;rw [if_pos hc]
  rw [happ]
  obtain ⟨_,im,bm,f,y,rfl,rfl,hf,hfn,hy,hon,hlv,hno⟩:=chk_zero hc
  have hok:=fn_ok hfn
  have hl:=hok.len
  have hfit:=pedge_fit (t:=t) hp hf hok hy hon hlv hno
  have hfe:=pedge_fn (t:=t) hsane hf hy hon hlv hno
  have hel:=edge_len (t:=t) hy
  have hfx:=p.funsS.idx hf
  have hw:FSl envc 2 (.fsl 2 (els envc f.cin)) f.cin:=FSl.mk
  have hn2:FSl envc 2 (.fsl 2 (els envc (f.edge bm t).cin)) (f.edge bm t).cin:=FSl.mk
  have hwl:=f.cin_len
  have hnl:=(f.edge bm t).cin_len
  have hcin:∀(k:Nat) (x z:Env),f.cin[k]?=some x→(f.edge bm t).cin[k]?=some z→x.leq z=true∧x.small∧z.small:=fun k x z hx hz=>by
   have h1:=f.cin_fit k
   have h2:=(f.edge bm t).cin_fit k
   rw [List.getD_eq_getElem?_getD,hx] at h1
   rw [List.getD_eq_getElem?_getD,hz] at h2
   exact ⟨Env.leq_of_le h1 h2 (edge_cin hy k hx hz),h1.small f.wid_lt,h2.small (f.edge bm t).wid_lt⟩
  simp only [Int.toNat_natCast]
  generalize p.edge im bm t=p' at *
  generalize f.edge bm t=f' at *
  simp [hc]
  refine (consts_In_some p im hp hfn).use (n:=9) (by simp [mapOpt,pict_stab p.funsS.stab]) (by simp [solids,AV.solid,p.funsS.solid]) ?_
  simp
  refine (consts_In_some p' im hfit hfe).use (n:=9) (by simp [mapOpt,pict_stab p'.funsS.stab]) (by simp [solids,AV.solid,p'.funsS.solid]) ?_
  simp [hw.len,hn2.len,hwl,hnl,hel,hfx,f.blksS.len]
  refine W.whileI (fun (k:Nat) F S=>k≤f.blks.length∧F 9=.bool true∧F 12=.fsl 2 (els envc f.cin)∧F 13=.fsl 2 (els envc f'.cin)∧F 14=.int .i64 k) (fun k=>f.blks.length - k) ?_ 0 _ _ ?_
  ·rintro k F S ⟨hk,f9,f12,f13,f14⟩
   simp [f12,f14,hw.len,hwl]
   by_cases hlt:k < f.blks.length
   ·have e4:=wrapS k (by omega)
    obtain ⟨x,hx⟩:∃ x,f.cin[k]?=some x:=⟨_,List.getElem?_eq_getElem (by omega)⟩
    obtain ⟨z,hz⟩:∃ z,f'.cin[k]?=some z:=⟨_,List.getElem?_eq_getElem (by omega)⟩
    obtain ⟨hle,hxs,hzs⟩:=hcin k x z hx hz
    simp [hlt]
    refine Dra.auto [] mix ?_ ?_
    ·kernel_rfl
    simp [classes,f12,f13,f14,hw.idx hx,hn2.idx hz]
    refine (env_LeqFlat x z hxs hzs).b (n:=9) (by simp [mapOpt]) (by simp [solids,AV.solid]) ?_
    rw [hle]
    simp [f9,f12,f13,f14,e4]
    exact ⟨k + 1,by omega,by omega,by omega⟩
   ·simp [hlt,f9]
    exact RK.eq rfl rfl
  ·simp
 ·have happ:p.app i b t=p:=by unfold Prg.app;rw [if_neg hc]
  rw [happ]
  have hcs:=p.cinS i
  have hef:FSl envT 2 (encF envT 2 (p.cin i)) (p.cin i):=encF_sl
  simp
  refine (consts_In p i hp).use (n:=9) (by simp [mapOpt,pict_stab p.funsS.stab]) (by simp [solids,AV.solid,p.funsS.solid]) ?_
  simp
  refine (consts_In p i hp).use (n:=9) (by simp [mapOpt,pict_stab p.funsS.stab]) (by simp [solids,AV.solid,p.funsS.solid]) ?_
  simp [hc]
  refine (law20_flatsE (p.cin i) (p.cinV i) hcs hc1.1 hc1.2).use (n:=9) (by simp [mapOpt,pict_stab hcs.stab]) (by simp [solids,AV.solid,hcs.solid]) ?_
  simp
  refine (law20_flatsE (p.cin i) (p.cinV i) hcs hc1.1 hc1.2).use (n:=9) (by simp [mapOpt,pict_stab hcs.stab]) (by simp [solids,AV.solid,hcs.solid]) ?_
  simp
  refine (ref20_FlatsE (p.cin i) _ _ hef hef (by have:=hc1.1;omega) hc1.2).use (n:=9) (by simp [mapOpt,pict_stab hef.stab]) (by simp [solids,AV.solid,hef.solid]) ?_
  simp
  exact RK.eq rfl rfl
end Go.Proofs.YtbhkamemheaajaaGreatDoor.Vm
