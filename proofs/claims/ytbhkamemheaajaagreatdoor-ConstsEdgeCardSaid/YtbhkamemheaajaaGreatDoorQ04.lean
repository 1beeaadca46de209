/- A part of the proof: Vk Vl. -/
import Derived.Test.YtbhkamemheaajaaGreatDoorQ03
set_option linter.unusedVariables false
set_option linter.unusedSimpArgs false
set_option linter.constructorNameAsVariable false
namespace Go.Proofs.YtbhkamemheaajaaGreatDoor.Vm
open Go Go.RowKit
theorem St.set_same {S:St} {o:Nat} {x:AObj} (h:S.obj o=some x):S.set o x=S:=by
 cases S with | mk n f =>
 simp only [St.set,St.mk.injEq,true_and]
 funext q
 split
 ·rename_i e;subst e;exact h.symm
 ·rfl
section
variable {P:Program} {C:Ctx} {F:AFrame} {a:Act} {o:Oper}
theorem does_makeSlice {id nx:Nat} (hR:Rel C) (hf:Fits C id nx) (hF:FrameOK C F a) {t e:TypeId} {l c:Operand} (ho:o.op=.makeSlice t l c) (ht:P.underlying t=some (.slice e)) {zc:List AV} (hz:zeroC P e=some zc) {i:TypeInfo} (hi:P.info? e=some i)
  (hs0:0 < i.size) (hb:0 < i.bytes) (hb2:i.bytes≤512) (hzl:zc.length=i.size) {vl vc:VX} (hl:cx l=some vl) (hc:cx c=some vc) {y:AV} {S':St}
  (hy:sk (.makeSlice zc i.size i.bytes) [vl.eval F,vc.eval F] ⟨id,C.S.obj⟩=some (y,S')):DoesAt P C a o y S' id nx:=by
 obtain ⟨z,h1,hzv⟩:=zeroC_cells hz C
 have k1:=cx_sound hF hl
 have k2:=cx_sound hF hc
 have hsz:sizeT P e=some i.size:=by simp [sizeT,hi]
 simp only [sk] at hy
 split at hy
 ·rename_i n m e'
  simp only [List.cons.injEq,and_true] at e'
  rw [e'.1] at k1;rw [e'.2] at k2
  obtain ⟨k1,k2⟩:=ints_inv k1 k2
  split at hy
  ·rename_i hcond
   obtain ⟨rfl,h0,hle⟩:=hcond
   simp only [Option.some.injEq,Prod.mk.injEq] at hy
   obtain ⟨rfl,rfl⟩:=hy
   have hzs:z.cells.size=i.size:=by have:=hzv.length;simp at this;omega
   unfold room at hle
   have hw:IntKind.i64.wrap n=n:=IntWalk.i64_in n ⟨by omega,by omega⟩
   have hbn:(i.bytes:Int) * n≤2 ^ 48:=by
    have a1:(i.bytes:Int) * n≤512 * n:=Int.mul_le_mul_of_nonneg_right (by omega) h0
    omega
   let cells:Array Value:=(Array.range (n.toNat * i.size)).map (fun j=>z.cells[j % z.cells.size]!)
   have hcl:cells.toList=(List.replicate n.toNat z.cells.toList).flatten:=rep_cells z.cells n.toNat i.size hzs hs0
   have hcs:cells.size=n.toNat * i.size:=by simp [cells]
   have hrel:VRs C cells.toList (List.replicate n.toNat zc).flatten:=by rw [hcl];exact hzv.replicate _
   have hall:∀x ∈ List.replicate n.toNat zc,x.length=i.size:=fun x hx=>by rw [List.eq_of_mem_replicate hx];exact hzl
   refine ⟨_,C.madeAt id nx (.cells cells e (0,0)) (.row i.size (List.replicate n.toNat zc)) i.size,?_,rfl,le_madeAt hR hf _ _ _,rel_madeAt hR hf _ _ _ (obj_madeAt hR hf _ _ _ _ hs0 hall (by simp [hcs]) (vs:=cells.toList) (by intro j v hj;simpa using hj) hrel),sl_madeAt _ _ cells e _ i.size n.toNat n.toNat (Nat.le_refl _) (by rw [hcs];exact Nat.le_refl _),madeAt_μ _ _ _ _ _ _,rfl⟩
   have hrun:(Instr.makeSlice t (.int .i64 n) (.int .i64 n)).run P C.w=.ok (.slice (some ⟨C.w.heap.size,0,none⟩) n.toNat n.toNat) (C.w.alloc (.cells cells e (0,0))):=by
    have n1:¬ (n < 0):=by omega
    have n2:¬ ((i.bytes:Int) * n > 2 ^ 48):=by omega
    simp only [Instr.makeSlice,Sem.run_bind,run_underlying ht,Result.andThen_ok,asInt,asIntOf,Sem.run_pure,run_typeInfo hi,hw]
    have n3:((decide (n < 0) || decide ((i.bytes:Int) * n > 2 ^ 48) || decide (n < 0) || decide (n > n))=true)=False:=by simp;omega
    simp only [n1,n2,decide_false,Bool.or_self,Bool.false_or,gt_iff_lt,Int.lt_irrefl,Bool.false_eq_true,if_false,false_or,or_self]
    simp only [Sem.run_bind,run_askRoom,Sem.run_pure,Result.andThen_ok,run_sizeOf hsz]
    by_cases hz0:n.toNat * i.size=0
    ·simp only [hz0,if_true,Sem.run_pure,Result.andThen_ok,run_newRow]
     have e0:cells=#[]:=by apply Array.eq_empty_of_size_eq_zero;rw [hcs,hz0]
     rw [e0]
     have e1:∀f:Nat→Value,(Array.range 0).map f=#[]:=fun f=>by simp
     simp [run_newRow,e1]
    ·simp only [hz0,if_false,Sem.run_bind,run_zeroValue h1,Sem.run_pure,Result.andThen_ok,run_newRow]
     rfl
   simp only [execOp,ho,k1,k2,Sem.run_bind,hrun,Result.andThen_ok,Sem.run_pure]
   rfl
  ·cases hy
 ·cases hy
theorem setElems_sound (hR:Rel C) {p sz off:Nat} {es ys:List (List AV)} {us:List Value} (hobj:C.S.obj p=some (.row sz es)) (hle:off + ys.length≤es.length) (hv:VRs C us ys.flatten) (hall:∀e ∈ ys,e.length=sz)
  (hone:∀x ∈ ys.flatten,x.one=true) {l:Loc} (hl:C.μ p=some l) :
  ∃ C',(storeCells ⟨l.blk,l.off + off * sz,none⟩ us).run P C.w=.ok () C'.w∧C'.S=C.S.set p (.row sz (es.take off ++ ys ++ es.drop (off + ys.length)))∧Le C C'∧Rel C':=by
 rcases hR.obj p _ hobj with ⟨_,hno⟩ | ⟨l',c,ty,vs,k1,k2,k3,k4,k5,k6,k7,k8⟩
 ·rw [hl] at hno;cases hno
 ·rw [hl] at k1;cases k1
  have hul:us.length=ys.length * sz:=by rw [hv.length,flat_len hall]
  have hvl:vs.length=es.length * sz:=by rw [k8.length,flat_len k6]
  have hmul:(off + ys.length) * sz≤es.length * sz:=Nat.mul_le_mul_right _ hle
  rw [Nat.add_mul] at hmul
  have hrun:=run_storeCells (P:=P) us (l.off + off * sz) 0 C.w c k4 (by omega) (hv.oneCell hone)
  simp only [Nat.add_zero] at hrun
  have hL:=le_wrote hR hobj hl k4 (.cells (wr c (l.off + off * sz) us) ty (0,0)) (by intro c1 e1 f1 h;cases h;exact ⟨_,_,rfl,wr_size _ _ _⟩) (.row sz (es.take off ++ ys ++ es.drop (off + ys.length)))
  refine ⟨_,hrun,rfl,hL,rel_wrote hR hobj hl hL ?_⟩
  have hnl:(es.take off ++ ys ++ es.drop (off + ys.length)).length=es.length:=by simp;omega
  refine .inr ⟨l,wr c (l.off + off * sz) us,ty,vs.take (off * sz) ++ us ++ vs.drop (off * sz + us.length),hl,k2,k3,putBlk_same _ (Array.getElem?_eq_some_iff.1 k4).1,by rw [wr_size,hnl];exact k5,?_,?_,?_⟩
  ·intro x hx
   simp only [List.mem_append] at hx
   rcases hx with (hx | hx) | hx
   ·exact k6 x (List.mem_of_mem_take hx)
   ·exact hall x hx
   ·exact k6 x (List.mem_of_mem_drop hx)
  ·exact wr_list k7 (by omega) (by omega)
  ·have hm:∀{vs xs},VRs C vs xs→VRs (C.wrote p l.blk (.cells (wr c (l.off + off * sz) us) ty (0,0)) (.row sz (es.take off ++ ys ++ es.drop (off + ys.length)))) vs xs:=fun h=>h.mono hL
   rw [List.flatten_append,List.flatten_append,flat_take off k6,flat_drop (off + ys.length) k6,hul,show (off + ys.length) * sz=off * sz + ys.length * sz by rw [Nat.add_mul]]
   exact ((hm (k8.take _)).append (hm hv)).append (hm (k8.drop _))
theorem does_copy (hR:Rel C) (hF:FrameOK C F a) {c:Call} {t u e:TypeId} {sz:Nat} {x y:Operand} (ho:o.op=.call c) (hc:c.callee=.builtin .copy) (hx':c.args.toList=[x,y]) (ht':c.argTypes.toList=[t,u])
  (ht:P.underlying t=some (.slice e)) (hs:sizeT P e=some sz) (hs0:0 < sz)
  {vx vy:VX} (hx:cx x=some vx) (hy:cx y=some vy) {r:AV} {S':St} (hr:sk (.copy sz) [vx.eval F,vy.eval F] C.S=some (r,S')):DoesM P C a o r S':=by
 have h1:=cx_sound hF hx
 have h2:=cx_sound hF hy
 have hat:c.argTypes=#[t,u]:=by apply Array.ext';simpa using ht'
 simp only [sk] at hr
 split at hr
 ·rename_i sz' p off len yv e1
  simp only [List.cons.injEq,and_true] at e1
  obtain ⟨e1,e2⟩:=e1
  split at hr
  ·rename_i sz'' es ys hobj hys
   split at hr
   ·rename_i hcond
    obtain ⟨rfl,rfl,hle,hall⟩:=hcond
    simp only [Option.some.injEq,Prod.mk.injEq] at hr
    obtain ⟨rfl,rfl⟩:=hr
    have hall':∀e ∈ ys,e.length=sz∧∀x ∈ e,x.one=true:=fun e he=>okEl_iff.1 (List.all_eq_true.1 hall e he)
    rw [← e2] at hys
    obtain ⟨ad,cp,us,k1,k2,k3⟩:=src_sound_n (P:=P) (sz:=sz) hR h2 hys (fun e he=>(hall' e he).1)
    have hk2:=k2 (min ys.length len) (Nat.min_le_left _ _)
    have hus:VRs C (us.take (min ys.length len * sz)) (ys.take len).flatten:=by
     rw [show ys.take len=ys.take (min ys.length len) by rw [List.take_eq_take_min (i:=len),Nat.min_comm],flat_take _ (fun e he=>(hall' e he).1)]
     exact k3.take _
    have htl:(ys.take len).length=min ys.length len:=by simp [Nat.min_comm]
    rw [e1] at h1
    have fin:∀base cap' C',a.eval x=.slice base len cap'→((match base with | some ad=>storeCells ad (us.take (min ys.length len * sz)) | none=>pure ()).run P C.w=.ok () C'.w)→C'.S=C.S.set p (.row sz (es.take off ++ ys.take len ++ es.drop (off + min ys.length len)))→Le C C'→Rel C' →
      DoesM P C a o (.int .i64 (min ys.length len:Nat)) (C.S.set p (.row sz (es.take off ++ ys.take len ++ es.drop (off + min ys.length len)))):=by
     intro base cap' C' hv hst g1 g2 g3
     refine ⟨_,.int .i64 (min ys.length len:Nat),C',call_builtin c .copy hc ho C.w ?_,.inl rfl,g1,g2,g3,.int _ _⟩
     rw [args_two hx',hat,hv,k1]
     rw [k1] at hk2
     cases base with
     | none =>
      simp only [Sem.run_pure] at hst
      have hw:C.w=C'.w:=by simpa using hst
      simp [builtin,Builtin.copy_,run_underlying ht,lenOf_slice,run_sizeOf hs,hk2,goInt,← hw]
     | some ad' =>
      simp only at hst
      simp [builtin,Builtin.copy_,run_underlying ht,lenOf_slice,run_sizeOf hs,hk2,hst,goInt]
    generalize hv:a.eval x=v at h1 fin
    cases h1 with
    | sl _ _ _ _ cap l cc te ff hl hlz hh hm hcap =>
     obtain ⟨C',g1,g2,g3,g4⟩:=setElems_sound (P:=P) hR hobj (off:=off) (ys:=ys.take len) (by rw [htl];have:=Nat.min_le_right ys.length len;omega) hus (fun e he=>(hall' e (List.mem_of_mem_take he)).1)
      (by intro x hx;obtain ⟨m,hm,hxm⟩:=List.mem_flatten.1 hx;exact (hall' m (List.mem_of_mem_take hm)).2 x hxm) hl
     rw [htl] at g2
     exact fin _ cap C' rfl g1 g2 g3 g4
    | slnil ad' _ _ _ =>
     have e0:C.S.set p (.row sz (es.take off ++ ys.take 0 ++ es.drop (off + min ys.length 0)))=C.S:=by
      simp [St.set_same hobj]
     rw [e0] at fin ⊢
     refine fin ad' 0 C rfl ?_ rfl (Le.refl C) hR
     cases ad' <;> simp [storeCells]
   ·cases hr
  ·cases hr
 ·cases hr
theorem zeroCells_list (z:Array Value) (n sz:Nat) (hs:z.size=sz) (h0:0 < sz):(Builtin.zeroCells z n).toList=(List.replicate n z.toList).flatten:=by
 unfold Builtin.zeroCells
 rw [hs]
 have:=rep_cells z n sz hs h0
 rwa [hs] at this
theorem does_clear (hR:Rel C) (hF:FrameOK C F a) {c:Call} {t e:TypeId} {x:Operand} (ho:o.op=.call c) (hc:c.callee=.builtin .clear) (hx':c.args.toList=[x]) (ht':c.argTypes.toList=[t])
  (ht:P.underlying t=some (.slice e)) {zc:List AV} (hz:zeroC P e=some zc) (hn:0 < zc.length)
  {vx:VX} (hx:cx x=some vx) {r:AV} {S':St} (hr:sk (.clear zc) [vx.eval F] C.S=some (r,S')):DoesM P C a o r S':=by
 have h1:=cx_sound hF hx
 obtain ⟨z,hz1,hzv⟩:=zeroC_cells hz C
 have hat:c.argTypes=#[t]:=by apply Array.ext';simpa using ht'
 have hzs:z.cells.size=zc.length:=by have:=hzv.length;simp at this;omega
 have fin0:∀ad cap,a.eval x=.slice ad 0 cap→DoesM P C a o (.tuple []) C.S:=by
  intro ad cap hv
  refine ⟨_,.tuple #[],C,call_builtin c .clear hc ho C.w ?_,.inl rfl,rfl,Le.refl C,hR,.tuple [] [] .nil⟩
  rw [args_one hx',hat,hv]
  cases ad <;> simp [builtin,Builtin.clear_,run_underlying ht]
 have fin:∀ad n cap C',a.eval x=.slice (some ad) (n + 1) cap→(storeCells ad (List.replicate (n + 1) z.cells.toList).flatten).run P C.w=.ok () C'.w→Le C C'→Rel C'→DoesM P C a o (.tuple []) C'.S:=by
  intro ad n cap C' hv hst g1 g2
  refine ⟨_,.tuple #[],C',call_builtin c .clear hc ho C.w ?_,.inl rfl,rfl,g1,g2,.tuple [] [] .nil⟩
  rw [args_one hx',hat,hv]
  rw [← zeroCells_list z.cells (n + 1) zc.length hzs hn] at hst
  simp [builtin,Builtin.clear_,run_underlying ht,run_zeroValue hz1,hst]
 simp only [sk] at hr
 generalize hv:a.eval x=v at h1
 split at hr
 ·rename_i sz p off len e1
  simp only [List.cons.injEq,and_true] at e1
  rw [e1] at h1
  split at hr
  ·rename_i sz' es hobj
   split at hr
   ·rename_i hcond
    obtain ⟨rfl,hok,hle⟩:=hcond
    simp only [Option.some.injEq,Prod.mk.injEq] at hr
    obtain ⟨rfl,rfl⟩:=hr
    rw [okEl_iff] at hok
    have e0:len=0→C.S.set p (.row sz (es.take off ++ List.replicate len zc ++ es.drop (off + len)))=C.S:=by
     intro h;subst h;simp [St.set_same hobj]
    cases h1 with
    | sl _ _ _ _ cap l cc te ff hl hlz hh hm hcap =>
     cases len with
     | zero=>rw [e0 rfl];exact fin0 _ _ hv
     | succ n =>
      obtain ⟨C',g1,g2,g3,g4⟩:=setElems_sound (P:=P) hR hobj (off:=off) (ys:=List.replicate (n + 1) zc) (by simpa using hle) (hzv.replicate (n + 1)) (fun e he=>by rw [List.eq_of_mem_replicate he];exact hok.1)
       (by intro x hx;obtain ⟨m,hm,hxm⟩:=List.mem_flatten.1 hx;rw [List.eq_of_mem_replicate hm] at hxm;exact hok.2 x hxm) hl
      simp only [List.length_replicate] at g2
      have:=fin _ n cap C' hv g1 g3 g4
      rwa [g2] at this
    | slnil ad' _ _ _=>rw [e0 rfl];exact fin0 _ _ hv
   ·cases hr
  ·cases hr
 ·rename_i sz p i off len e1
  simp only [List.cons.injEq,and_true] at e1
  rw [e1] at h1
  split at hr
  ·rename_i hok
   rw [okEl_iff] at hok
   simp only [Option.map_eq_some_iff,Prod.mk.injEq] at hr
   obtain ⟨S1,hset,rfl,rfl⟩:=hr
   have e0:len=0→S1=C.S:=by
    intro h;subst h
    unfold setCells at hset
    split at hset
    ·rename_i sz' es hobj
     split at hset
     ·rename_i e hel
      split at hset
      ·simp only [Option.some.injEq] at hset
       rw [← hset]
       have:es.set i (over e off (List.replicate 0 zc).flatten)=es:=by
        simp only [List.replicate_zero,List.flatten_nil,over]
        obtain ⟨hlt,he⟩:=List.getElem?_eq_some_iff.1 hel
        rw [← he];simp
       rw [this,St.set_same hobj]
      ·cases hset
     ·cases hset
    ·cases hset
   cases h1 with
   | asl _ _ _ _ _ cap l hl hcap =>
    cases len with
    | zero=>rw [e0 rfl];exact fin0 _ _ hv
    | succ n =>
     obtain ⟨C',g1,g2,g3,g4⟩:=setCells_sound (P:=P) hR (hzv.replicate (n + 1)) (by intro x hx;obtain ⟨m,hm,hxm⟩:=List.mem_flatten.1 hx;rw [List.eq_of_mem_replicate hm] at hxm;exact hok.2 x hxm) hset hl
     have:=fin _ n cap C' hv g1 g3 g4
     rwa [g2] at this
   | aslnil ad' _ _ _ _ _=>rw [e0 rfl];exact fin0 _ _ hv
  ·cases hr
 ·rename_i e1
  simp only [List.cons.injEq,and_true] at e1
  rw [e1] at h1
  simp only [Option.some.injEq,Prod.mk.injEq] at hr
  obtain ⟨rfl,rfl⟩:=hr
  cases h1
  exact fin0 _ _ hv
 ·cases hr
theorem does_makeMap {id nx:Nat} (hR:Rel C) (hf:Fits C id nx) {t:TypeId} (ho:o.op=.makeMap t none) {y:AV} {S':St} (hy:sk .makeMap [] ⟨id,C.S.obj⟩=some (y,S')):DoesAt P C a o y S' id nx:=by
 simp only [sk,Option.some.injEq,Prod.mk.injEq] at hy
 obtain ⟨rfl,rfl⟩:=hy
 refine ⟨.map (some C.w.heap.size),C.madeAt id nx (.map #[] 0) (.map []) 0,?_,rfl,le_madeAt hR hf _ _ _,rel_madeAt hR hf _ _ _ ?_,.map id ⟨C.w.heap.size,0,0⟩ (by simp [Ctx.madeAt]),madeAt_μ _ _ _ _ _ _,rfl⟩
 ·simp [execOp,ho,Instr.makeMap,Ctx.madeAt]
 ·exact ⟨⟨C.w.heap.size,0,0⟩,#[],0,by simp [Ctx.madeAt],by show (C.w.heap.push _)[C.w.heap.size]?=_;simp,.nil⟩
def KK.desc:KK→TypeDesc→Prop
 | .int,d=>∃ k,d=.int k
 | .str,d=>d=.string
 | .bool,d=>d=.bool
theorem keyKind_some {k:TypeId} {kk:KK} (h:keyKind P k=some kk):∃ d,P.underlying k=some d∧kk.desc d:=by
 unfold keyKind at h
 split at h <;> simp only [Option.some.injEq,reduceCtorEq] at h <;> subst h
 ·rename_i k' hu;exact ⟨_,hu,k',rfl⟩
 ·rename_i hu;exact ⟨_,hu,rfl⟩
 ·rename_i hu;exact ⟨_,hu,rfl⟩
theorem sameNow_sound {kk:KK} {d:TypeDesc} (hd:kk.desc d) {u v:Value} {x y:AV} (hx:VR C u x) (hy:VR C v y) (hf:kk.fits x=true) {b:Bool} (h:scalarEq x y=some b):Instr.sameNow d u v=some b:=by
 cases kk <;> cases x <;> simp only [KK.fits,Bool.false_eq_true] at hf <;> cases y <;> simp only [scalarEq,reduceCtorEq,Option.some.injEq] at h
 ·obtain ⟨k,rfl⟩:=hd
  rw [hx.int_inv,hy.int_inv]
  simp only [Instr.sameNow]
  exact h
 ·subst hd;rw [hx.str_inv,hy.str_inv];simp [Instr.sameNow,h]
 ·subst hd;rw [hx.bool_inv,hy.bool_inv];simp [Instr.sameNow,h]
theorem sameBits_sound {kk:KK} {u v:Value} {x y:AV} (hx:VR C u x) (hy:VR C v y) (hf:kk.fits x=true) (h:scalarEq x y=some true):Instr.sameBits 10000 v u=true:=by
 cases kk <;> cases x <;> simp only [KK.fits,Bool.false_eq_true] at hf <;> cases y <;> simp only [scalarEq,reduceCtorEq,Option.some.injEq] at h
 ·rw [hx.int_inv,hy.int_inv]
  split at h
  ·rename_i hk;subst hk;simp at h;subst h;simp [Instr.sameBits]
  ·cases h
 ·rw [hx.str_inv,hy.str_inv]
  rw [beq_toListBytes] at h
  simp only [Instr.sameBits]
  rw [beq_toListBytes]
  simp only [beq_iff_eq] at h ⊢
  exact h.symm
 ·rw [hx.bool_inv,hy.bool_inv];simp at h;subst h;simp [Instr.sameBits]
theorem checkKey_ok {kk:KK} {k:TypeId} {d:TypeDesc} (hu:P.underlying k=some d) (hd:kk.desc d) (b:Bool) (u:Value) (w:World):(Instr.checkKey b 10000 k u).run P w=.ok () w:=by
 have:∀n,(Instr.checkKey b (n + 1) k u).run P w=.ok () w:=by
  intro n
  simp only [Instr.checkKey,Sem.run_bind,run_underlying hu,Result.andThen_ok]
  cases kk
  ·obtain ⟨k',rfl⟩:=hd;cases u <;> rfl
  ·subst hd;cases u <;> rfl
  ·subst hd;cases u <;> rfl
 exact this 9999
theorem findNow_sound {kk:KK} {d:TypeDesc} (hd:kk.desc d) {u:Value} {x:AV} (hx:VR C u x) (hf:kk.fits x=true):∀{ms:List MapEntry} {es:List (AV × AV)},MapRel C ms es→∀(i:Nat) {r:Option AV},findV x es=some r →
  (r=none∧Instr.findNow d u ms i=some none) ∨ ∃ j v y,r=some y∧Instr.findNow d u ms i=some (some (i + j,v))∧VR C v y∧∃ m,ms[j]?=some m∧Instr.sameBits 10000 m.key u=true
 | _,_,.nil,i,r,h=>by simp [findV] at h;exact .inl ⟨h.symm,by simp [Instr.findNow]⟩
 | _,_,.cons m k v ms es hk hv hm,i,r,h=>by
  simp only [findV] at h
  split at h
  ·rename_i he
   simp only [Option.some.injEq] at h;subst h
   exact .inr ⟨0,m.val,v,rfl,by simp [Instr.findNow,sameNow_sound hd hx hk hf he],hv,m,by simp,sameBits_sound hx hk hf he⟩
  ·rename_i he
   rcases findNow_sound hd hx hf hm (i + 1) h with ⟨h1,h2⟩ | ⟨j,v',y,h1,h2,h3,m',h4,h5⟩
   ·exact .inl ⟨h1,by simp [Instr.findNow,sameNow_sound hd hx hk hf he,h2]⟩
   ·exact .inr ⟨j + 1,v',y,h1,by simp [Instr.findNow,sameNow_sound hd hx hk hf he,h2];omega,h3,m',by simpa using h4,h5⟩
  ·cases h
theorem putV_sound {kk:KK} {d:TypeDesc} (hd:kk.desc d) {u:Value} {x y:AV} (hx:VR C u x) (hf:kk.fits x=true):∀{ms:List MapEntry} {es es':List (AV × AV)},MapRel C ms es→∀(i:Nat),putV x y es=some es' →
  (Instr.findNow d u ms i=some none∧es'=es ++ [(x,y)]) ∨ ∃ j m,Instr.findNow d u ms i=some (some (i + j,m.val))∧ms[j]?=some m∧Instr.sameBits 10000 m.key u=true∧es'=es.set j (x,y)
 | _,_,_,.nil,i,h=>by simp [putV] at h;subst h;exact .inl ⟨by simp [Instr.findNow],rfl⟩
 | _,_,es',.cons m k v ms es hk hv hm,i,h=>by
  simp only [putV] at h
  split at h
  ·rename_i he
   simp only [Option.some.injEq] at h;subst h
   exact .inr ⟨0,m,by simp [Instr.findNow,sameNow_sound hd hx hk hf he],by simp,sameBits_sound hx hk hf he,by simp⟩
  ·rename_i he
   simp only [Option.map_eq_some_iff] at h
   obtain ⟨es1,h1,rfl⟩:=h
   rcases putV_sound hd hx hf hm (i + 1) h1 with ⟨g1,rfl⟩ | ⟨j,m',g1,g2,g3,rfl⟩
   ·exact .inl ⟨by simp [Instr.findNow,sameNow_sound hd hx hk hf he,g1],by simp⟩
   ·exact .inr ⟨j + 1,m',by simp [Instr.findNow,sameNow_sound hd hx hk hf he,g1];omega,by simpa using g2,g3,by simp⟩
  ·cases h
theorem MapRel.length:∀{ms:List MapEntry} {es:List (AV × AV)},MapRel C ms es→ms.length=es.length
 | _,_,.nil=>rfl
 | _,_,.cons _ _ _ _ _ _ _ h=>by simp [h.length]
theorem MapRel.snoc {m:MapEntry} {k v:AV} (hk:VR C m.key k) (hv:VR C m.val v):∀{ms:List MapEntry} {es:List (AV × AV)},MapRel C ms es→MapRel C (ms ++ [m]) (es ++ [(k,v)])
 | _,_,.nil=>.cons _ _ _ _ _ hk hv .nil
 | _,_,.cons _ _ _ _ _ h1 h2 h=>.cons _ _ _ _ _ h1 h2 (h.snoc hk hv)
theorem MapRel.set {m:MapEntry} {k v:AV} (hk:VR C m.key k) (hv:VR C m.val v):∀{ms:List MapEntry} {es:List (AV × AV)},MapRel C ms es→∀j,MapRel C (ms.set j m) (es.set j (k,v))
 | _,_,.nil,j=>by simp;exact .nil
 | _,_,.cons _ _ _ _ _ h1 h2 h,0=>by simp;exact .cons _ _ _ _ _ hk hv h
 | _,_,.cons _ _ _ _ _ h1 h2 h,j + 1=>by simp;exact .cons _ _ _ _ _ h1 h2 (h.set hk hv j)
theorem run_findKey {k:TypeId} {d:TypeDesc} (hu:P.underlying k=some d) {u:Value} {ms:List MapEntry} {r:Option (Nat × Value)} (h:Instr.findNow d u ms 0=some r) (w:World):(Instr.findKey k u ms).run P w=.ok r w:=by
 simp [Instr.findKey,run_underlying hu,h]
theorem run_getMap {w:World} {b:Nat} {ms:Array MapEntry} {ck:Nat} (h:w.heap[b]?=some (.map ms ck)):(getObj b).run P w=.ok (.map ms ck) w:=by
 simp [getObj,Sem.run,h]
theorem run_setMap {w:World} {b:Nat} {ms:Array MapEntry} {ck:Nat} (h:w.heap[b]?=some (.map ms ck)) (o:Obj):(setObj b o).run P w=.ok () (putBlk w b o):=by
 simp [setObj,Sem.run,h,putBlk]
theorem obj_map (hR:Rel C) {p:Nat} {es:List (AV × AV)} (h:C.S.obj p=some (.map es)):∃ l ms ck,C.μ p=some l∧C.w.heap[l.blk]?=some (.map ms ck)∧MapRel C ms.toList es:=hR.obj p _ h
theorem does_lookup (hR:Rel C) (hF:FrameOK C F a) {t q e:TypeId} {x i:Operand} {ok:Bool} (ho:o.op=.lookup t x i ok) (ht:P.underlying t=some (.map q e)) {kk:KK} (hkk:keyKind P q=some kk) {z:Value} (hz:zeroT P e=some z) {zv:AV} (hzv:ofCell z=some zv)
  {vx vi:VX} (hx:cx x=some vx) (hi:cx i=some vi) {r:AV} {S':St} (hr:sk (.lookup kk zv ok) [vx.eval F,vi.eval F] C.S=some (r,S')):Does P C a o r∧S'=C.S:=by
 have h1:=cx_sound hF hx
 have h2:=cx_sound hF hi
 obtain ⟨d,hu,hd⟩:=keyKind_some hkk
 simp only [sk] at hr
 split at hr
 ·rename_i p kx e1
  simp only [List.cons.injEq,and_true] at e1
  obtain ⟨e1,e2⟩:=e1
  rw [e1] at h1;rw [e2] at h2
  split at hr
  ·rename_i es hobj
   split at hr
   ·cases hr
   ·rename_i hfit
    simp only [Bool.not_eq_true,Bool.not_eq_false] at hfit
    simp only [Option.map_eq_some_iff,Prod.mk.injEq] at hr
    obtain ⟨f,hf,hr,rfl⟩:=hr
    obtain ⟨l,ms,ck,k1,k2,k3⟩:=obj_map hR hobj
    generalize hv:a.eval x=v at h1
    cases h1
    rename_i l' hl'
    rw [k1] at hl';cases hl'
    have hz':=ofCell_sound C hzv
    rcases findNow_sound hd h2 hfit k3 0 hf with ⟨rfl,g2⟩ | ⟨j,v,y,rfl,g2,g3,_⟩
    ·have hrun:(Instr.lookup t (.map (some l.blk)) (a.eval i) ok).run P C.w=.ok (if ok then .tuple #[z,.bool false] else z) C.w:=by
      simp only [Instr.lookup,Sem.run_bind,run_underlying ht,Result.andThen_ok,run_getMap k2,Sem.run_pure,checkKey_ok hu hd,run_findKey hu g2,run_zeroValue hz]
     refine ⟨⟨if ok then .tuple #[z,.bool false] else z,by simp only [execOp,ho,hv,Sem.run_bind,hrun,Result.andThen_ok,Sem.run_pure],?_⟩,rfl⟩
     rw [← hr]
     cases ok
     ·exact hz'
     ·exact .tuple [z,.bool false] _ (.cons _ _ _ _ hz' (.one (.bool false)))
    ·have hrun:(Instr.lookup t (.map (some l.blk)) (a.eval i) ok).run P C.w=.ok (if ok then .tuple #[v,.bool true] else v) C.w:=by
      simp only [Instr.lookup,Sem.run_bind,run_underlying ht,Result.andThen_ok,run_getMap k2,Sem.run_pure,checkKey_ok hu hd,run_findKey hu g2]
     refine ⟨⟨if ok then .tuple #[v,.bool true] else v,by simp only [execOp,ho,hv,Sem.run_bind,hrun,Result.andThen_ok,Sem.run_pure],?_⟩,rfl⟩
     rw [← hr]
     cases ok
     ·exact g3
     ·exact .tuple [v,.bool true] _ (.cons _ _ _ _ g3 (.one (.bool true)))
  ·cases hr
 ·cases hr
theorem does_lenMap (hR:Rel C) (hF:FrameOK C F a) {c:Call} {t q e:TypeId} {x:Operand} (ho:o.op=.call c) (hc:c.callee=.builtin .len) (hx':c.args.toList=[x]) (ht':c.argTypes.toList=[t]) (ht:P.underlying t=some (.map q e))
  {vx:VX} (hx:cx x=some vx) {r:AV} {S':St} (hr:sk .lenMap [vx.eval F] C.S=some (r,S')):Does P C a o r∧S'=C.S:=by
 have h1:=cx_sound hF hx
 have hat:c.argTypes=#[t]:=by apply Array.ext';simpa using ht'
 simp only [sk] at hr
 split at hr
 ·rename_i p e1
  simp only [List.cons.injEq,and_true] at e1
  rw [e1] at h1
  split at hr
  ·rename_i es hobj
   simp only [Option.some.injEq,Prod.mk.injEq] at hr
   obtain ⟨rfl,rfl⟩:=hr
   obtain ⟨l,ms,ck,k1,k2,k3⟩:=obj_map hR hobj
   generalize hv:a.eval x=v at h1
   cases h1
   rename_i l' hl'
   rw [k1] at hl';cases hl'
   refine ⟨⟨.int .i64 es.length,call_builtin c .len hc ho C.w ?_,.int _ _⟩,rfl⟩
   rw [args_one hx',hat,hv]
   have:=k3.length
   simp at this
   simp [builtin,Builtin.len_,run_underlying ht,run_getMap k2,goInt,this]
  ·cases hr
 ·cases hr
theorem does_mapUpdate (hR:Rel C) (hF:FrameOK C F a) {t q e:TypeId} {m k v:Operand} (ho:o.op=.mapUpdate t m k v) (ht:P.underlying t=some (.map q e)) {kk:KK} (hkk:keyKind P q=some kk)
  {vm vk vv:VX} (hm:cx m=some vm) (hk:cx k=some vk) (hv:cx v=some vv) {r:AV} {S':St} (hr:sk (.mapUpdate kk) [vm.eval F,vk.eval F,vv.eval F] C.S=some (r,S')):DoesM P C a o r S':=by
 have h1:=cx_sound hF hm
 have h2:=cx_sound hF hk
 have h3:=cx_sound hF hv
 obtain ⟨d,hu,hd⟩:=keyKind_some hkk
 simp only [sk] at hr
 split at hr
 ·rename_i p kx vx e1
  simp only [List.cons.injEq,and_true] at e1
  obtain ⟨e1,e2,e3⟩:=e1
  rw [e1] at h1;rw [e2] at h2;rw [e3] at h3
  split at hr
  ·rename_i es hobj
   split at hr
   ·cases hr
   ·rename_i hfit
    simp only [Bool.not_eq_true,Bool.not_eq_false] at hfit
    simp only [Option.map_eq_some_iff,Prod.mk.injEq] at hr
    obtain ⟨es',hput,rfl,rfl⟩:=hr
    obtain ⟨l,ms,ck,k1,k2,k3⟩:=obj_map hR hobj
    generalize hmv:a.eval m=mv at h1
    cases h1
    rename_i l' hl'
    rw [k1] at hl';cases hl'
    have fin:∀ob ms' ck',(Instr.mapUpdate t (.map (some l.blk)) (a.eval k) (a.eval v)).run P C.w=.ok () (putBlk C.w l.blk ob)→ob=.map ms' ck'→MapRel C ms'.toList es'→DoesM P C a o (.tuple []) (C.S.set p (.map es')):=by
     rintro ob ms' ck' hrun rfl hrel
     have hL:=le_wrote hR hobj k1 k2 (.map ms' ck') (by intro c1 e1 f1 h;cases h) (.map es')
     refine ⟨.skip,undef,C.wrote p l.blk (.map ms' ck') (.map es'),?_,.inr ⟨rfl,rfl⟩,rfl,hL,rel_wrote hR hobj k1 hL ?_,.tuple [] [] .nil⟩
     ·simp only [execOp,ho,hmv,Sem.run_bind,hrun,Result.andThen_ok,Sem.run_pure]
      rfl
     ·exact ⟨l,ms',ck',k1,putBlk_same _ (Array.getElem?_eq_some_iff.1 k2).1,hrel.mono hL.to0⟩
    rcases putV_sound hd h2 hfit k3 0 hput with ⟨f2,rfl⟩ | ⟨j,m',f2,f4,f5,rfl⟩
    ·refine fin _ (ms.push { key:=a.eval k,val:=a.eval v,born:=ck }) (ck + 1) ?_ rfl ?_
     ·simp only [Instr.mapUpdate,Sem.run_bind,run_underlying ht,Result.andThen_ok,run_getMap k2,checkKey_ok hu hd,run_findKey hu f2,run_setMap k2]
     ·rw [Array.toList_push]
      exact k3.snoc h2 h3
    ·rw [Nat.zero_add] at f2
     have hm':ms[j]?=some m':=by simpa using f4
     obtain ⟨hlen,hm2⟩:=Array.getElem?_eq_some_iff.1 hm'
     refine fin _ (ms.modify j fun e=>{ e with key:=a.eval k,val:=a.eval v }) ck ?_ rfl ?_
     ·simp only [Instr.mapUpdate,Sem.run_bind,run_underlying ht,Result.andThen_ok,run_getMap k2,checkKey_ok hu hd,run_findKey hu f2,hm',Option.map_some,Option.getD_some,Instr.keyThatStays,f5,if_true,Sem.run_pure,run_setMap k2]
     ·have:(ms.modify j fun e=>{ e with key:=a.eval k,val:=a.eval v }).toList=ms.toList.set j { m' with key:=a.eval k,val:=a.eval v }:=by
       apply List.ext_getElem?
       intro i
       simp only [Array.getElem?_toList,Array.getElem?_modify,List.getElem?_set,Array.length_toList]
       by_cases e:j=i
       ·subst e;rw [if_pos rfl,if_pos rfl,hm',if_pos hlen];rfl
       ·rw [if_neg e,if_neg e]
      rw [this]
      exact k3.set h2 h3 j
  ·cases hr
 ·cases hr
def Sub (S S':St):Prop:=∀q x,S.obj q=some x→S'.obj q=some x
def SK.isRead:SK→Bool
 | .load _ _=>true
 | .lookup _ _ _=>true
 | .lenMap=>true
 | _=>false
def SK.isMake:SK→Bool
 | .box=>true
 | .alloc _=>true
 | .buildSlice _ _ _ _=>true
 | .makeSlice _ _ _=>true
 | .makeMap=>true
 | _=>false
theorem read_sub {k:SK} (hk:k.isRead=true) {xs:List AV} {S S':St} (hS:Sub S S') {v:AV} {S1:St} (h:sk k xs S=some (v,S1)):S1=S∧sk k xs S'=some (v,S'):=by
 cases k <;> simp [SK.isRead] at hk
 case load gg sz =>
  simp only [sk] at h ⊢
  split at h
  ·split at h
   ·rename_i sz' es ho
    split at h
    ·rename_i e he
     simp only [Option.map_eq_some_iff,Prod.mk.injEq] at h
     obtain ⟨y,h1,rfl,rfl⟩:=h
     rw [hS _ _ ho];simp [he,h1]
    ·cases h
   ·cases h
  ·simp only [Option.map_eq_some_iff,Prod.mk.injEq] at h
   obtain ⟨y,h1,rfl,rfl⟩:=h
   simp [h1]
  ·cases h
 case lookup kk z ok =>
  simp only [sk] at h ⊢
  split at h
  ·split at h
   ·rename_i es ho
    split at h
    ·cases h
    ·rename_i hf
     simp only [Option.map_eq_some_iff,Prod.mk.injEq] at h
     obtain ⟨y,h1,rfl,rfl⟩:=h
     rw [hS _ _ ho];simp [hf,h1]
   ·cases h
  ·cases h
 case lenMap =>
  simp only [sk] at h ⊢
  split at h
  ·split at h
   ·rename_i es ho
    simp only [Option.some.injEq,Prod.mk.injEq] at h
    obtain ⟨rfl,rfl⟩:=h
    rw [hS _ _ ho];simp
   ·cases h
  ·cases h
def DoesK (k:SK) (P:Program) (C:Ctx) (a:Act) (o:Oper) (y:AV) (S':St) (id nx:Nat):Prop :=
 (k.isRead=true→Does P C a o y)∧(k.isMake=true→DoesAt P C a o y S' id nx)∧(id=C.S.next→nx=C.S.next + 1→Rel C→DoesM P C a o y S')
theorem DoesK.of_make {k:SK} {y:AV} {S':St} {id nx:Nat} (hk:k.isRead=false) (h:DoesAt P C a o y S' id nx):DoesK k P C a o y S' id nx :=
 ⟨(fun h'=>absurd (hk.symm.trans h') (by simp)),fun _=>h,fun e1 e2 _=>by subst e1;subst e2;exact h.m⟩
theorem DoesK.of_read {k:SK} {y:AV} {S':St} {id nx:Nat} {xs:List AV} (hk:k.isRead=true) (hy:sk k xs ⟨id,C.S.obj⟩=some (y,S')) (h:sk k xs C.S=some (y,C.S)→Does P C a o y∧C.S=C.S):DoesK k P C a o y S' id nx:=by
 obtain ⟨h1,h2⟩:=read_sub hk (S:=⟨id,C.S.obj⟩) (S':=C.S) (fun q x h=>h) hy
 obtain ⟨v,r1,r2⟩:=(h h2).1
 refine ⟨fun _=>⟨v,r1,r2⟩,fun h=>by cases k <;> simp [SK.isRead,SK.isMake] at hk h,fun e1 e2 hR=>?_⟩
 subst e1
 exact ⟨_,v,C,r1,.inl rfl,h1.symm,Le.refl C,hR,r2⟩
theorem DoesK.of_other {k:SK} {y:AV} {S':St} {id nx:Nat} (hk:k.isRead=false) (hk':k.isMake=false) (h:id=C.S.next→DoesM P C a o y S'):DoesK k P C a o y S' id nx :=
 ⟨(fun h'=>absurd (hk.symm.trans h') (by simp)),(fun h'=>absurd (hk'.symm.trans h') (by simp)),fun e _ _=>h e⟩
theorem sk_soundK {id nx:Nat} (hR:Rel C) (hf:Fits C id nx) (hF:FrameOK C F a) {k:SK} {xs:List VX} (hc:compOp P o.op=some (.sk k xs)) {y:AV} {S':St} (hy:sk k (xs.map (VX.eval F)) ⟨id,C.S.obj⟩=some (y,S')):DoesK k P C a o y S' id nx:=by
 generalize hop:o.op=op at hc
 cases op <;> simp only [compOp,Option.bind_eq_bind,Option.bind_eq_some_iff,Option.some.injEq,reduceCtorEq] at hc
 case move x=>obtain ⟨vx,hx,h⟩:=hc;cases h
 case assign x=>obtain ⟨vx,hx,h⟩:=hc;cases h
 case pick c x y'=>obtain ⟨vc,hc',vx,hx,vy,hy',h⟩:=hc;cases h
 case alloc t =>
  obtain ⟨z,hz,h⟩:=hc
  split at h
  ·rename_i hn;simp only [Option.some.injEq] at h;cases h;exact .of_make rfl (does_alloc hR hf hop hz hn hy)
  ·cases h
 case box t x =>
  obtain ⟨vx,hx,h⟩:=hc
  cases h;exact .of_make rfl (does_box hR hf hF hop hx hy)
 case build t parts=>obtain ⟨z,hz,pl,hpl,ps,hps,xs',hxs,h⟩:=hc;cases h
 case buildSlice t len parts =>
  split at hc
  ·rename_i ht
   simp only [Option.bind_eq_some_iff] at hc
   obtain ⟨z,hz,s,hs,xs',hxs,h⟩:=hc
   split at h
   ·rename_i hcond;simp only [Option.some.injEq] at h;cases h;exact .of_make rfl (does_buildSlice hR hf hF hop ht hz hs hcond.1 hcond.2.1 hcond.2.2 hxs hy)
   ·cases h
  ·cases hc
 case load t x =>
  obtain ⟨s,hs,g,hg,vx,hx,h⟩:=hc
  cases h;exact .of_read rfl hy (fun hy=>does_load hR hF hop hs hg hx hy)
 case store t x v =>
  obtain ⟨s,hs,vx,hx,vv,hv,h⟩:=hc
  cases h;exact .of_other rfl rfl (fun e=>by subst e;exact does_store hR hF hop hs hx hv hy)
 case nilCheck x=>obtain ⟨vx,hx,h⟩:=hc;cases h
 case binOp op t x y' t' =>
  unfold compBin at hc
  split at hc <;> simp only [Option.bind_eq_bind,Option.bind_eq_some_iff,Option.some.injEq,reduceCtorEq] at hc
  ·obtain ⟨vx,hx,vy,hy',h⟩:=hc;cases h
  ·obtain ⟨n,hn,vx,hx,vy,hy',h⟩:=hc;cases h
  ·obtain ⟨vx,hx,vy,hy',h⟩:=hc;cases h
  ·obtain ⟨n,hn,h⟩:=hc
   split at h
   ·simp only [Option.bind_eq_some_iff,Option.some.injEq] at h;obtain ⟨vx,hx,h⟩:=h;cases h
   ·cases h
  ·obtain ⟨n,hn,h⟩:=hc
   split at h
   ·simp only [Option.bind_eq_some_iff,Option.some.injEq] at h;obtain ⟨vx,hx,h⟩:=h;cases h
   ·cases h
  ·obtain ⟨n,hn,h⟩:=hc
   split at h
   ·simp only [Option.bind_eq_some_iff,Option.some.injEq] at h;obtain ⟨vx,hx,h⟩:=h;cases h
   ·cases h
  ·obtain ⟨n,hn,ks,hk,vx,hx,vy,hy',h⟩:=hc
   split at h <;> cases h
  ·obtain ⟨n,hn,ks,hk,vx,hx,vy,hy',h⟩:=hc
   split at h <;> cases h
 case unOp op t x=>obtain ⟨vx,hx,h⟩:=hc;cases h
 case convert s d x =>
  split at hc
  ·simp only [Option.bind_eq_some_iff,Option.some.injEq] at hc
   obtain ⟨vx,hx,h⟩:=hc;cases h
  ·cases hc
 case makeInterface t x =>
  split at hc
  ·cases hc
  ·simp only [Option.bind_eq_some_iff,Option.some.injEq] at hc
   obtain ⟨vx,hx,h⟩:=hc;cases h
  ·cases hc
 case makeFunc fn first captured=>obtain ⟨x1,hx1,x2,hx2,h⟩:=hc;cases h
 case makeMap t r =>
  cases r with
  | none=>simp only [compOp,Option.some.injEq] at hc;cases hc;exact .of_make rfl (does_makeMap hR hf hop hy)
  | some r=>simp [compOp] at hc
 case makeSlice t l c =>
  split at hc
  ·rename_i ht
   simp only [Option.bind_eq_some_iff] at hc
   obtain ⟨z,hz,i,hi,vl,hl,vc,hc',h⟩:=hc
   split at h
   ·rename_i hcond;simp only [Option.some.injEq] at h;cases h;exact .of_make rfl (does_makeSlice hR hf hF hop ht hz hi hcond.1 hcond.2.1 hcond.2.2.1 hcond.2.2.2 hl hc' hy)
   ·cases h
  ·cases hc
 case slice t x lo hi mx =>
  obtain ⟨vx,hx,bs,hb,h⟩:=hc
  split at h
  ·simp only [Option.bind_eq_some_iff] at h
   obtain ⟨s,hs,h⟩:=h
   split at h <;> simp at h
  ·split at h <;> simp at h
  ·simp only [Option.bind_eq_some_iff] at h
   obtain ⟨s,hs,h⟩:=h
   split at h <;> simp at h
  ·cases h
 case fieldAddr t x i =>
  obtain ⟨f,hf,n,hn,h⟩:=hc
  split at h
  ·simp only [Option.bind_eq_some_iff,Option.some.injEq] at h
   obtain ⟨vx,hx,h⟩:=h;cases h
  ·cases h
 case field t x i=>obtain ⟨f,hf,n,hn,g,hg,vx,hx,h⟩:=hc;cases h
 case indexAddr t x i =>
  split at hc
  ·simp only [Option.bind_eq_some_iff] at hc
   obtain ⟨s,hs,h⟩:=hc
   split at h
   ·simp only [Option.bind_eq_some_iff,Option.some.injEq] at h
    obtain ⟨vx,hx,vi,hi,h⟩:=h;cases h
   ·cases h
  ·simp only [Option.bind_eq_some_iff] at hc
   obtain ⟨s,hs,h⟩:=hc
   split at h
   ·simp only [Option.bind_eq_some_iff,Option.some.injEq] at h
    obtain ⟨vx,hx,vi,hi,h⟩:=h;cases h
   ·cases h
  ·cases hc
 case index t x i =>
  split at hc
  ·simp only [Option.bind_eq_some_iff,Option.some.injEq] at hc
   obtain ⟨vx,hx,vi,hi,h⟩:=hc;cases h
  ·cases hc
 case lookup t x i ok =>
  obtain ⟨k',hk,e,he,z,⟨zz,hz1,hz2⟩,kk,hkk,vx,hx,vi,hi,h⟩:=hc
  cases h
  have ht:P.underlying t=some (.map k' e):=by
   unfold keyT at hk;unfold elemT at he
   split at hk
   ·rename_i q1 q2 hu;rw [hu] at he;simp only [Option.some.injEq] at hk he;rw [hu,hk,he]
   ·cases hk
  exact .of_read rfl hy (fun hy=>does_lookup hR hF hop ht hkk hz1 hz2 hx hi hy)
 case mapUpdate t m k' v =>
  obtain ⟨q,hq,kk,hkk,vx,hx,vi,hi,vv,hv,h⟩:=hc
  cases h
  unfold keyT at hq
  split at hq
  ·rename_i q1 q2 hu
   simp only [Option.some.injEq] at hq;subst hq
   exact .of_other rfl rfl (fun e=>by subst e;exact does_mapUpdate hR hF hop hu hkk hx hi hv hy)
  ·cases hq
 case typeAssert x xt t ok =>
  obtain ⟨z,hz,h⟩:=hc
  split at h
  ·cases h
  ·simp only [Option.bind_eq_some_iff,Option.some.injEq] at h
   obtain ⟨vx,hx,h⟩:=h;cases h
  ·cases h
 case extract x i=>obtain ⟨vx,hx,h⟩:=hc;cases h
 case call c =>
  split at hc
  ·rename_i b hb
   unfold compBuiltin at hc
   split at hc
   ·rename_i x t hxs hts
    simp only [Option.bind_eq_bind,Option.bind_eq_some_iff] at hc
    obtain ⟨vx,hx,h⟩:=hc
    split at h
    ·simp at h
    ·simp at h
    ·simp at h
    ·rename_i ht;simp only [Option.some.injEq] at h;cases h;exact .of_read rfl hy (fun hy=>does_lenMap hR hF hop hb hxs hts ht hx hy)
    ·cases h
   ·rename_i x y' t u hxs hts
    simp only [Option.bind_eq_bind,Option.bind_eq_some_iff] at hc
    obtain ⟨vx,hx,vy,hy',h⟩:=hc
    split at h
    ·rename_i ht hu
     simp only [Option.bind_eq_some_iff] at h
     obtain ⟨i,hi,z,hz,h⟩:=h
     split at h
     ·rename_i hcond;simp only [Option.some.injEq] at h;cases h;exact .of_other rfl rfl (fun e=>by subst e;exact does_append hR hF hop hb hxs hts ht hu hi hz hcond.1 hcond.2.1 hcond.2.2.1 hcond.2.2.2 hx hy' hy)
     ·cases h
    ·cases h
   ·rename_i x y' t u hxs hts
    simp only [Option.bind_eq_bind,Option.bind_eq_some_iff] at hc
    obtain ⟨vx,hx,vy,hy',h⟩:=hc
    split at h
    ·rename_i ht hu
     simp only [Option.bind_eq_some_iff] at h
     obtain ⟨s,hs,h⟩:=h
     split at h
     ·rename_i hcond;simp only [Option.some.injEq] at h;cases h;exact .of_other rfl rfl (fun e=>by subst e;exact does_copy hR hF hop hb hxs hts ht hs hcond hx hy' hy)
     ·cases h
    ·cases h
   ·rename_i x t hxs hts
    simp only [Option.bind_eq_bind,Option.bind_eq_some_iff] at hc
    obtain ⟨vx,hx,h⟩:=hc
    split at h
    ·rename_i ht
     simp only [Option.bind_eq_some_iff] at h
     obtain ⟨s,hs,h⟩:=h
     split at h
     ·rename_i hcond;simp only [Option.some.injEq] at h;cases h;exact .of_other rfl rfl (fun e=>by subst e;exact does_clear hR hF hop hb hxs hts ht hs hcond hx hy)
     ·cases h
    ·cases h
   ·simp only [Option.bind_eq_bind,Option.bind_eq_some_iff,Option.some.injEq] at hc
    obtain ⟨vx,hx,h⟩:=hc;cases h
   ·simp only [Option.bind_eq_bind,Option.bind_eq_some_iff,Option.some.injEq] at hc
    obtain ⟨vx,hx,h⟩:=hc;cases h
   ·cases hc
  ·simp only [Option.bind_eq_some_iff,Option.some.injEq] at hc
   obtain ⟨vx,hx,h⟩:=hc;cases h
  ·simp only [Option.bind_eq_some_iff,Option.some.injEq] at hc
   obtain ⟨vx,hx,vy,hy',h⟩:=hc;cases h
  ·simp only [Option.bind_eq_some_iff,Option.some.injEq] at hc
   obtain ⟨vx,hx,vy,hy',h⟩:=hc;cases h
theorem sk_sound (hR:Rel C) (hF:FrameOK C F a) {k:SK} {xs:List VX} (hc:compOp P o.op=some (.sk k xs)) {y:AV} {S':St} (hy:sk k (xs.map (VX.eval F)) C.S=some (y,S')):DoesM P C a o y S' :=
 (sk_soundK hR hR.fits hF hc hy).2.2 rfl rfl hR
end
end Go.Proofs.YtbhkamemheaajaaGreatDoor.Vm
namespace Go.Proofs.YtbhkamemheaajaaGreatDoor.Vm
open Go Go.RowKit
inductive Res where
 | code (e:VExit) (F:AFrame) (S:St)
 | val (v:AV) (S:St)
inductive Cfg where
 | code (c:VCode) (F:AFrame) (S:St)
 | ops (l:List VOper) (F:AFrame) (S:St)
 | call (f:Nat) (args:List AV) (S:St)
mutual
def AV.shift (n:Nat):AV→AV
 | .ptr o i off=>.ptr (o + n) i off
 | .sl sz o off len=>.sl sz (o + n) off len
 | .asl sz o i off len=>.asl sz (o + n) i off len
 | .map o=>.map (o + n)
 | .yield o=>.yield (o + n)
 | .func fn a b=>.func fn (shifts n a) (shifts n b)
 | .iface t v=>.iface t (AV.shift n v)
 | .agg cs=>.agg (shifts n cs)
 | .tuple vs=>.tuple (shifts n vs)
 | .int k m=>.int k m
 | .bool b=>.bool b
 | .str s=>.str s
 | .nilptr=>.nilptr
 | .fptr cs off=>.fptr cs off
 | .nilsl=>.nilsl
 | .fsl sz es=>.fsl sz es
 | .nilmap=>.nilmap
 | .nilfunc=>.nilfunc
 | .niliface=>.niliface
 | .anyi k=>.anyi k
def shifts (n:Nat):List AV→List AV
 | []=>[]
 | x :: xs=>AV.shift n x :: shifts n xs
end
def shiftss (n:Nat):List (List AV)→List (List AV)
 | []=>[]
 | x :: xs=>shifts n x :: shiftss n xs
def shiftm (n:Nat):List (AV × AV)→List (AV × AV)
 | []=>[]
 | (k,v) :: xs=>(AV.shift n k,AV.shift n v) :: shiftm n xs
def AObj.shift (n:Nat):AObj→Option AObj
 | .row sz es=>some (.row sz (shiftss n es))
 | .map es=>some (.map (shiftm n es))
 | .loop _ _ _ _ _ _=>none
def St.add (S E:St):St:=⟨S.next + E.next,fun q=>if S.next≤q∧q < S.next + E.next then (E.obj (q - S.next)).bind (AObj.shift S.next) else S.obj q⟩
mutual
def AV.young:AV→Bool
 | .fptr _ _=>false
 | .fsl _ es=>es.isEmpty
 | .func _ a b=>youngs a && youngs b
 | .iface _ v=>v.young
 | .agg cs=>youngs cs
 | .tuple vs=>youngs vs
 | .ptr _ _ _=>true
 | .sl _ _ _ _=>true
 | .asl _ _ _ _ _=>true
 | .map _=>true
 | .yield _=>true
 | .int _ _=>true
 | .bool _=>true
 | .str _=>true
 | .nilptr=>true
 | .nilsl=>true
 | .nilmap=>true
 | .nilfunc=>true
 | .niliface=>true
 | .anyi _=>true
def youngs:List AV→Bool
 | []=>true
 | x :: xs=>x.young && youngs xs
def youngss:List (List AV)→Bool
 | []=>true
 | x :: xs=>youngs x && youngss xs
end
def youngm:List (AV × AV)→Bool
 | []=>true
 | (k,v) :: xs=>k.young && v.young && youngm xs
def AObj.young:AObj→Bool
 | .row _ es=>youngss es
 | .map es=>youngm es
 | .loop _ _ _ _ _ _=>false
def youngo (E:St):Prop:=∀o x,E.obj o=some x→x.young=true
structure RCon where
 pre:List AV→Prop
 post:List AV→AV→St→Prop
structure Glob where
 G:World→Prop
 N:Nat
 size:∀w,G w→N≤w.heap.size
 keep:∀w w',G w→Below N w w'→G w'
def ConOK (P:Program) (g:Glob) (f:Nat) (c:RCon):Prop :=
 ∀(w:World) (av:Nat→Prop) (vs:List Value) (xs:List AV),g.G w→VRs ⟨w,w.heap.size,av,fun _=>none,St.empty⟩ vs xs→c.pre xs →
  Calls P f vs.toArray w fun e w'=>∃ v res objs μ,e=.returned v∧c.post xs res objs∧Below w.heap.size w w'∧Rel ⟨w',w.heap.size,av,μ,objs⟩∧VR ⟨w',w.heap.size,av,μ,objs⟩ v res
def wantedV (F:AFrame):Option (Nat × Bool)→Bool
 | none=>true
 | some (t,b)=>match F t with
  | .bool x=>x == b
  | _=>false
def callee (o:VOp) (F:AFrame):Option (Nat × List AV) :=
 match o with
 | .callF f xs=>some (f,xs.map (VX.eval F))
 | .callV x xs=>match x.eval F with
  | .func (.func f) first captured=>some (f,first ++ xs.map (VX.eval F) ++ captured)
  | _=>none
 | _=>none
def callable (P:Program) (f:Nat):Bool :=
 match P.funcs[f]? with
 | some fn => fn.name != "runtime.NumGoroutine" && fn.body.isSome
 | none=>false
def entry (args:List AV):AFrame:=fun t=>args.getD t .none
def res1 (F:AFrame) (S:St):VRes→Option AV
 | .tmp t=>some (F t)
 | .cell t agg sz=>(sk (.load agg sz) [F t] S).map (·.1)
def resV (rs:List VRes) (F:AFrame) (S:St):Option AV :=
 match mapOpt (res1 F S) rs with
 | some [v]=>some v
 | some vs=>some (.tuple vs)
 | none=>none
structure Fun' (P:Program) (f:Nat) (n:Nat) (rs:List VRes) (c:VCode):Prop where
 call:callable P f=true
 code:(P.funcs[f]?).bind (compFunc P)=some ⟨n,rs,c⟩
def rngs:Code→List (Code × Code)
 | .seq a b=>rngs a ++ rngs b
 | .cond _ a b=>rngs a ++ rngs b
 | .block _ c=>rngs c
 | .loop c=>rngs c
 | .scope c=>rngs c
 | .rangeFunc _ _ a b=>[(a,b)]
 | _=>[]
def rngA (f:Func) (k:Nat):Code:=((rngs (f.body.getD .skip)).getD k (.skip,.skip)).1
def rngB (f:Func) (k:Nat):Code:=((rngs (f.body.getD .skip)).getD k (.skip,.skip)).2
def bs (l:List Nat):ByteArray:=⟨(l.map UInt8.ofNat).toArray⟩
end Go.Proofs.YtbhkamemheaajaaGreatDoor.Vm
