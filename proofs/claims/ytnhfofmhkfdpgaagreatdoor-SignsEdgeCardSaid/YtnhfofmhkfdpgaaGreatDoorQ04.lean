/- A part of the proof: Vk. -/
import Derived.Test.YtnhfofmhkfdpgaaGreatDoorQ03
set_option linter.unusedVariables false
set_option linter.unusedSimpArgs false
set_option linter.constructorNameAsVariable false
namespace Go.Proofs.YtnhfofmhkfdpgaaGreatDoor.Vm
open Go Go.RowKit
theorem St.set_same {S:St} {o:Nat} {x:AObj} (h:S.obj o=some x):S.set o x=S:=by
 cases S with | mk n f =>
 simp only [St.set,St.mk.injEq,true_and]
 funext q
 split
 ·rename_i e;subst e;exact h.symm
 ·rfl
section
variable {P:Program} {C:Ctx} {F:AFrame} {a:Act} {o:Oper}
theorem xG1 {id nx:Nat} (hR:Rel C) (hf:Fits C id nx) (hF:FrameOK C F a) {t e:TypeId} {l c:Operand} (ho:o.op=.makeSlice t l c) (ht:P.underlying t=some (.slice e)) {zc:List AV} (hz:zeroC P e=some zc) {i:TypeInfo} (hi:P.info? e=some i)
  (hs0:0 < i.size) (hb:0 < i.bytes) (hb2:i.bytes<=512) (hzl:zc.length=i.size) {vl vc:VX} (hl:cx l=some vl) (hc:cx c=some vc) {y:AV} {S':St}
  (hy:sk (.makeSlice zc i.size i.bytes) [vl.eval F,vc.eval F] ⟨id,C.S.obj⟩=some (y,S')):DoesAt P C a o y S' id nx:=by
 obtain ⟨z,h1,hzv⟩:=xCH hz C
 have k1:=xAf hF hl
 have k2:=xAf hF hc
 have hsz:sizeT P e=some i.size:=by simp [sizeT,hi]
 simp only [sk] at hy
 split at hy
 ·rename_i n m e'
  simp only [List.cons.injEq,and_true] at e'
  rw [e'.1] at k1;rw [e'.2] at k2
  obtain ⟨k1,k2⟩:=xQm k1 k2
  split at hy
  ·rename_i hcond
   obtain ⟨rfl,h0,hle⟩:=hcond
   simp only [xoI,Prod.mk.injEq] at hy
   obtain ⟨rfl,rfl⟩:=hy
   have hzs:z.cells.size=i.size:=by have:=hzv.length;simp at this;omega
   unfold room at hle
   have hw:IntKind.i64.wrap n=n:=IntWalk.i64_in n ⟨by omega,by omega⟩
   have hbn:(i.bytes:Int) * n<=2 ^ 48:=by
    have a1:(i.bytes:Int) * n<=512 * n:=Int.mul_le_mul_of_nonneg_right (by omega) h0
    omega
   let cells:Array Value:=(Array.range (n.toNat * i.size)).map (fun j=>z.cells[j % z.cells.size]!)
   have hcl:cells.toList=(List.replicate n.toNat z.cells.toList).flatten:=xFV z.cells n.toNat i.size hzs hs0
   have hcs:cells.size=n.toNat * i.size:=by simp [cells]
   have hrel:VRs C cells.toList (List.replicate n.toNat zc).flatten:=by rw [hcl];exact hzv.replicate _
   have hall:∀x ∈ List.replicate n.toNat zc,x.length=i.size:=fun x hx=>by rw [List.eq_of_mem_replicate hx];exact hzl
   refine ⟨_,C.madeAt id nx (.cells cells e (0,0)) (.row i.size (List.replicate n.toNat zc)) i.size,?_,rfl,xBD hR hf _ _ _,xBU hR hf _ _ _ (xCq hR hf _ _ _ _ hs0 hall (by simp [hcs]) (vs:=cells.toList) (by intro j v hj;simpa using hj) hrel),xFW _ _ cells e _ i.size n.toNat n.toNat (Nat.le_refl _) (by rw [hcs];exact Nat.le_refl _),madeAt_μ _ _ _ _ _ _,rfl⟩
   have hrun:(Instr.makeSlice t (.int .i64 n) (.int .i64 n)).run P C.w=.ok (.slice (some ⟨C.w.heap.size,0,none⟩) n.toNat n.toNat) (C.w.alloc (.cells cells e (0,0))):=by
    have n1:¬ (n < 0):=by omega
    have n2:¬ ((i.bytes:Int) * n > 2 ^ 48):=by omega
    simp only [Instr.makeSlice,Sem.run_bind,xAb ht,Result.andThen_ok,asInt,asIntOf,Sem.run_pure,xAW hi,hw]
    have n3:((decide (n < 0) || decide ((i.bytes:Int) * n > 2 ^ 48) || decide (n < 0) || decide (n > n))=true)=False:=by simp;omega
    simp only [n1,n2,decide_false,Bool.or_self,Bool.false_or,gt_iff_lt,Int.lt_irrefl,Bool.false_eq_true,if_false,false_or,or_self]
    simp only [Sem.run_bind,run_askRoom,Sem.run_pure,Result.andThen_ok,xAp hsz]
    by_cases hz0:n.toNat * i.size=0
    ·simp only [hz0,if_true,Sem.run_pure,Result.andThen_ok,xBc]
     have e0:cells=#[]:=by apply Array.eq_empty_of_size_eq_zero;rw [hcs,hz0]
     rw [e0]
     have e1:∀f:Nat->Value,(Array.range 0).map f=#[]:=fun f=>by simp
     simp [xBc,e1]
    ·simp only [hz0,if_false,Sem.run_bind,xAJ h1,Sem.run_pure,Result.andThen_ok,xBc]
     rfl
   simp only [execOp,ho,k1,k2,Sem.run_bind,hrun,Result.andThen_ok,Sem.run_pure]
   rfl
  ·cases hy
 ·cases hy
theorem xDC (hR:Rel C) {p sz off:Nat} {es ys:List (List AV)} {us:List Value} (hobj:C.S.obj p=some (.row sz es)) (hle:off + ys.length<=es.length) (hv:VRs C us ys.flatten) (hall:∀e ∈ ys,e.length=sz)
  (hone:∀x ∈ ys.flatten,x.one=true) {l:Loc} (hl:C.μ p=some l) :
  ∃ C',(storeCells ⟨l.blk,l.off + off * sz,none⟩ us).run P C.w=.ok () C'.w/\C'.S=C.S.set p (.row sz (es.take off ++ ys ++ es.drop (off + ys.length)))/\Le C C'/\Rel C':=by
 rcases hR.obj p _ hobj with ⟨_,hno⟩ | ⟨l',c,ty,vs,k1,k2,k3,k4,k5,k6,k7,k8⟩
 ·rw [hl] at hno;cases hno
 ·rw [hl] at k1;cases k1
  have hul:us.length=ys.length * sz:=by rw [hv.length,xAO hall]
  have hvl:vs.length=es.length * sz:=by rw [k8.length,xAO k6]
  have hmul:(off + ys.length) * sz<=es.length * sz:=Nat.mul_le_mul_right _ hle
  rw [Nat.add_mul] at hmul
  have hrun:=xBx (P:=P) us (l.off + off * sz) 0 C.w c k4 (by omega) (hv.oneCell hone)
  simp only [Nat.add_zero] at hrun
  have hL:=xCa hR hobj hl k4 (.cells (wr c (l.off + off * sz) us) ty (0,0)) (by intro c1 e1 f1 h;cases h;exact ⟨_,_,rfl,xC2 _ _ _⟩) (.row sz (es.take off ++ ys ++ es.drop (off + ys.length)))
  refine ⟨_,hrun,rfl,hL,xBF hR hobj hl hL ?_⟩
  have hnl:(es.take off ++ ys ++ es.drop (off + ys.length)).length=es.length:=by simp;omega
  refine .inr ⟨l,wr c (l.off + off * sz) us,ty,vs.take (off * sz) ++ us ++ vs.drop (off * sz + us.length),hl,k2,k3,xAm _ (Array.getElem?_eq_some_iff.1 k4).1,by rw [xC2,hnl];exact k5,?_,?_,?_⟩
  ·intro x hx
   simp only [List.mem_append] at hx
   rcases hx with (hx | hx) | hx
   ·exact k6 x (List.mem_of_mem_take hx)
   ·exact hall x hx
   ·exact k6 x (List.mem_of_mem_drop hx)
  ·exact xN3 k7 (by omega) (by omega)
  ·have hm:∀{vs xs},VRs C vs xs->VRs (C.wrote p l.blk (.cells (wr c (l.off + off * sz) us) ty (0,0)) (.row sz (es.take off ++ ys ++ es.drop (off + ys.length)))) vs xs:=fun h=>h.mono hL
   rw [List.flatten_append,List.flatten_append,xBi off k6,xBE (off + ys.length) k6,hul,show (off + ys.length) * sz=off * sz + ys.length * sz by rw [Nat.add_mul]]
   exact ((hm (k8.take _)).append (hm hv)).append (hm (k8.drop _))
theorem xN6 (hR:Rel C) (hF:FrameOK C F a) {c:Call} {t u e:TypeId} {sz:Nat} {x y:Operand} (ho:o.op=.call c) (hc:c.callee=.builtin .copy) (hx':c.args.toList=[x,y]) (ht':c.argTypes.toList=[t,u])
  (ht:P.underlying t=some (.slice e)) (hs:sizeT P e=some sz) (hs0:0 < sz)
  {vx vy:VX} (hx:cx x=some vx) (hy:cx y=some vy) {r:AV} {S':St} (hr:sk (.copy sz) [vx.eval F,vy.eval F] C.S=some (r,S')):DoesM P C a o r S':=by
 have h1:=xAf hF hx
 have h2:=xAf hF hy
 have hat:c.argTypes=#[t,u]:=by apply Array.ext';simpa using ht'
 simp only [sk] at hr
 split at hr
 ·rename_i sz' p off len yv e1
  simp only [List.cons.injEq,and_true] at e1
  obtain ⟨e1,e2⟩:=e1
  split at hr
  ·rename_i sz'' es ys hobj hys
   split at hr
   ·rename_i hcond
    obtain ⟨rfl,rfl,hle,hall⟩:=hcond
    simp only [xoI,Prod.mk.injEq] at hr
    obtain ⟨rfl,rfl⟩:=hr
    have hall':∀e ∈ ys,e.length=sz/\∀x ∈ e,x.one=true:=fun e he=>xD1.1 (List.all_eq_true.1 hall e he)
    rw [<- e2] at hys
    obtain ⟨ad,cp,us,k1,k2,k3⟩:=xFZ (P:=P) (sz:=sz) hR h2 hys (fun e he=>(hall' e he).1)
    have hk2:=k2 (min ys.length len) (Nat.min_le_left _ _)
    have hus:VRs C (us.take (min ys.length len * sz)) (ys.take len).flatten:=by
     rw [show ys.take len=ys.take (min ys.length len) by rw [List.take_eq_take_min (i:=len),Nat.min_comm],xBi _ (fun e he=>(hall' e he).1)]
     exact k3.take _
    have htl:(ys.take len).length=min ys.length len:=by simp [Nat.min_comm]
    rw [e1] at h1
    have fin:∀base cap' C',a.eval x=.slice base len cap'->((match base with | some ad=>storeCells ad (us.take (min ys.length len * sz)) | none=>pure ()).run P C.w=.ok () C'.w)->C'.S=C.S.set p (.row sz (es.take off ++ ys.take len ++ es.drop (off + min ys.length len)))->Le C C'->Rel C' ->
      DoesM P C a o (.int .i64 (min ys.length len:Nat)) (C.S.set p (.row sz (es.take off ++ ys.take len ++ es.drop (off + min ys.length len)))):=by
     intro base cap' C' hv hst g1 g2 g3
     refine ⟨_,.int .i64 (min ys.length len:Nat),C',xAA c .copy hc ho C.w ?_,.inl rfl,g1,g2,g3,.int _ _⟩
     rw [xLx hx',hat,hv,k1]
     rw [k1] at hk2
     cases base with
     | none =>
      simp only [Sem.run_pure] at hst
      have hw:C.w=C'.w:=by simpa using hst
      simp [builtin,Builtin.copy_,xAb ht,xB2,xAp hs,hk2,goInt,<- hw]
     | some ad' =>
      simp only at hst
      simp [builtin,Builtin.copy_,xAb ht,xB2,xAp hs,hk2,hst,goInt]
    generalize hv:a.eval x=v at h1 fin
    cases h1 with
    | sl _ _ _ _ cap l cc te ff hl hlz hh hm hcap =>
     obtain ⟨C',g1,g2,g3,g4⟩:=xDC (P:=P) hR hobj (off:=off) (ys:=ys.take len) (by rw [htl];have:=Nat.min_le_right ys.length len;omega) hus (fun e he=>(hall' e (List.mem_of_mem_take he)).1)
      (by intro x hx;obtain ⟨m,hm,hxm⟩:=List.mem_flatten.1 hx;exact (hall' m (List.mem_of_mem_take hm)).2 x hxm) hl
     rw [htl] at g2
     exact fin _ cap C' rfl g1 g2 g3 g4
    | slnil ad' _ _ _ =>
     have e0:C.S.set p (.row sz (es.take off ++ ys.take 0 ++ es.drop (off + min ys.length 0)))=C.S:=by
      simp [St.set_same hobj]
     rw [e0] at fin ⊢
     refine fin ad' 0 C rfl ?_ rfl (Le.refl C) hR
     cases ad' <;> simp [storeCells]
   ·cases hr
  ·cases hr
 ·cases hr
theorem xG2 (z:Array Value) (n sz:Nat) (hs:z.size=sz) (h0:0 < sz):(Builtin.zeroCells z n).toList=(List.replicate n z.toList).flatten:=by
 unfold Builtin.zeroCells
 rw [hs]
 have:=xFV z n sz hs h0
 rwa [hs] at this
theorem xMG (hR:Rel C) (hF:FrameOK C F a) {c:Call} {t e:TypeId} {x:Operand} (ho:o.op=.call c) (hc:c.callee=.builtin .clear) (hx':c.args.toList=[x]) (ht':c.argTypes.toList=[t])
  (ht:P.underlying t=some (.slice e)) {zc:List AV} (hz:zeroC P e=some zc) (hn:0 < zc.length)
  {vx:VX} (hx:cx x=some vx) {r:AV} {S':St} (hr:sk (.clear zc) [vx.eval F] C.S=some (r,S')):DoesM P C a o r S':=by
 have h1:=xAf hF hx
 obtain ⟨z,hz1,hzv⟩:=xCH hz C
 have hat:c.argTypes=#[t]:=by apply Array.ext';simpa using ht'
 have hzs:z.cells.size=zc.length:=by have:=hzv.length;simp at this;omega
 have fin0:∀ad cap,a.eval x=.slice ad 0 cap->DoesM P C a o (.tuple []) C.S:=by
  intro ad cap hv
  refine ⟨_,.tuple #[],C,xAA c .clear hc ho C.w ?_,.inl rfl,rfl,Le.refl C,hR,.tuple [] [] .nil⟩
  rw [xDj hx',hat,hv]
  cases ad <;> simp [builtin,Builtin.clear_,xAb ht]
 have fin:∀ad n cap C',a.eval x=.slice (some ad) (n + 1) cap->(storeCells ad (List.replicate (n + 1) z.cells.toList).flatten).run P C.w=.ok () C'.w->Le C C'->Rel C'->DoesM P C a o (.tuple []) C'.S:=by
  intro ad n cap C' hv hst g1 g2
  refine ⟨_,.tuple #[],C',xAA c .clear hc ho C.w ?_,.inl rfl,rfl,g1,g2,.tuple [] [] .nil⟩
  rw [xDj hx',hat,hv]
  rw [<- xG2 z.cells (n + 1) zc.length hzs hn] at hst
  simp [builtin,Builtin.clear_,xAb ht,xAJ hz1,hst]
 simp only [sk] at hr
 generalize hv:a.eval x=v at h1
 split at hr
 ·rename_i sz p off len e1
  simp only [List.cons.injEq,and_true] at e1
  rw [e1] at h1
  split at hr
  ·rename_i sz' es hobj
   split at hr
   ·rename_i hcond
    obtain ⟨rfl,hok,hle⟩:=hcond
    simp only [xoI,Prod.mk.injEq] at hr
    obtain ⟨rfl,rfl⟩:=hr
    rw [xD1] at hok
    have e0:len=0->C.S.set p (.row sz (es.take off ++ List.replicate len zc ++ es.drop (off + len)))=C.S:=by
     intro h;subst h;simp [St.set_same hobj]
    cases h1 with
    | sl _ _ _ _ cap l cc te ff hl hlz hh hm hcap =>
     cases len with
     | zero=>rw [e0 rfl];exact fin0 _ _ hv
     | succ n =>
      obtain ⟨C',g1,g2,g3,g4⟩:=xDC (P:=P) hR hobj (off:=off) (ys:=List.replicate (n + 1) zc) (by simpa using hle) (hzv.replicate (n + 1)) (fun e he=>by rw [List.eq_of_mem_replicate he];exact hok.1)
       (by intro x hx;obtain ⟨m,hm,hxm⟩:=List.mem_flatten.1 hx;rw [List.eq_of_mem_replicate hm] at hxm;exact hok.2 x hxm) hl
      simp only [List.length_replicate] at g2
      have:=fin _ n cap C' hv g1 g3 g4
      rwa [g2] at this
    | slnil ad' _ _ _=>rw [e0 rfl];exact fin0 _ _ hv
   ·cases hr
  ·cases hr
 ·rename_i sz p i off len e1
  simp only [List.cons.injEq,and_true] at e1
  rw [e1] at h1
  split at hr
  ·rename_i hok
   rw [xD1] at hok
   simp only [Option.map_eq_some_iff,Prod.mk.injEq] at hr
   obtain ⟨S1,hset,rfl,rfl⟩:=hr
   have e0:len=0->S1=C.S:=by
    intro h;subst h
    unfold setCells at hset
    split at hset
    ·rename_i sz' es hobj
     split at hset
     ·rename_i e hel
      split at hset
      ·simp only [xoI] at hset
       rw [<- hset]
       have:es.set i (over e off (List.replicate 0 zc).flatten)=es:=by
        simp only [List.replicate_zero,List.flatten_nil,over]
        obtain ⟨hlt,he⟩:=xgS hel
        rw [<- he];simp
       rw [this,St.set_same hobj]
      ·cases hset
     ·cases hset
    ·cases hset
   cases h1 with
   | asl _ _ _ _ _ cap l hl hcap =>
    cases len with
    | zero=>rw [e0 rfl];exact fin0 _ _ hv
    | succ n =>
     obtain ⟨C',g1,g2,g3,g4⟩:=xDB (P:=P) hR (hzv.replicate (n + 1)) (by intro x hx;obtain ⟨m,hm,hxm⟩:=List.mem_flatten.1 hx;rw [List.eq_of_mem_replicate hm] at hxm;exact hok.2 x hxm) hset hl
     have:=fin _ n cap C' hv g1 g3 g4
     rwa [g2] at this
   | aslnil ad' _ _ _ _ _=>rw [e0 rfl];exact fin0 _ _ hv
  ·cases hr
 ·rename_i e1
  simp only [List.cons.injEq,and_true] at e1
  rw [e1] at h1
  simp only [xoI,Prod.mk.injEq] at hr
  obtain ⟨rfl,rfl⟩:=hr
  cases h1
  exact fin0 _ _ hv
 ·cases hr
theorem xI2 {id nx:Nat} (hR:Rel C) (hf:Fits C id nx) {t:TypeId} (ho:o.op=.makeMap t none) {y:AV} {S':St} (hy:sk .makeMap [] ⟨id,C.S.obj⟩=some (y,S')):DoesAt P C a o y S' id nx:=by
 simp only [sk,xoI,Prod.mk.injEq] at hy
 obtain ⟨rfl,rfl⟩:=hy
 refine ⟨.map (some C.w.heap.size),C.madeAt id nx (.map #[] 0) (.map []) 0,?_,rfl,xBD hR hf _ _ _,xBU hR hf _ _ _ ?_,.map id ⟨C.w.heap.size,0,0⟩ (by simp [Ctx.madeAt]),madeAt_μ _ _ _ _ _ _,rfl⟩
 ·simp [execOp,ho,Instr.makeMap,Ctx.madeAt]
 ·exact ⟨⟨C.w.heap.size,0,0⟩,#[],0,by simp [Ctx.madeAt],by show (C.w.heap.push _)[C.w.heap.size]?=_;simp,.nil⟩
def KK.desc (P:Program):KK->TypeDesc->Prop
 | .int,d=>∃ k,d=.int k
 | .str,d=>d=.string
 | .bool,d=>d=.bool
 | .iface ts,d=>∃ ms,d=.interface ms/\ts=keyRows P ms
def KK.flat:KK->Bool
 | .iface _=>false
 | _=>true
theorem xBH {k:TypeId} {kk:KK} (h:keyKind P k=some kk):∃ d,P.underlying k=some d/\kk.desc P d:=by
 unfold keyKind at h
 split at h <;> simp only [xoI,reduceCtorEq] at h <;> subst h
 ·rename_i k' hu;exact ⟨_,hu,k',rfl⟩
 ·rename_i hu;exact ⟨_,hu,rfl⟩
 ·rename_i hu;exact ⟨_,hu,rfl⟩
 ·rename_i ms hu;exact ⟨_,hu,ms,rfl,rfl⟩
theorem xCt {kk:KK} {x y:AV} (hk:kk.flat=true) (hf:kk.fits x=true):keyEq x y=scalarEq x y:=by
 cases kk <;> simp only [KK.flat,Bool.false_eq_true] at hk <;> cases x <;> simp only [KK.fits,Bool.false_eq_true] at hf <;> cases y <;> rfl
structure KeyT (P:Program) (t:TypeId) (ks:List EK):Prop where
 inf:∃ i,P.info? t=some i/\i.comparable=true
 str:∃ fields,P.underlying t=some (.struct fields)/\P.stoodInHeld t=false/\eqFields P (eqT P 1) fields.toList 0=some ks
 eq:eqT P 2 t=some ks
theorem xDM {ms:Array (String × TypeId)} {t:TypeId} {ks:List EK} (h:(t,ks) ∈ keyRows P ms):KeyT P t ks:=by
 simp only [keyRows,List.mem_filterMap] at h
 obtain ⟨t',_,h⟩:=h
 unfold keyRow at h
 split at h
 ·rename_i i hi
  split at h
  ·rename_i hc
   simp only [Option.map_eq_some_iff,Prod.mk.injEq] at h
   obtain ⟨ks',hk,rfl,rfl⟩:=h
   refine ⟨⟨i,hi,hc.1⟩,?_,hk⟩
   have h2:=hc.2.1
   unfold isStr at h2
   split at h2
   ·rename_i fields hf
    refine ⟨fields,hf,?_⟩
    simp only [eqT,hf] at hk
    split at hk
    ·cases hk
    ·rename_i hst
     exact ⟨by simpa using hst,hk⟩
   ·cases h2
  ·cases h
 ·cases h
theorem xDl {ts:List (Nat × List EK)} {x:AV} (h:KK.fits (.iface ts) x=true):∃ t xs ks,x=.iface t (.agg xs)/\(t,ks) ∈ ts/\fitsAll ks xs=true:=by
 cases x <;> simp only [KK.fits,Bool.false_eq_true] at h
 rename_i t v
 cases v <;> simp only [KK.fits,Bool.false_eq_true] at h
 rename_i cs
 obtain ⟨p,hp,h2⟩:=List.any_eq_true.1 h
 simp only [Bool.and_eq_true,decide_eq_true_eq] at h2
 exact ⟨t,cs,p.2,rfl,by rw [<- h2.1];exact hp,h2.2⟩
theorem xDD:∀{ks:List EK} {xs ys:List AV},fitsAll ks xs=true->sameKinds xs ys=true->fitsAll ks ys=true
 | [],xs,ys,h,h2=>by
  cases xs with
  | nil=>cases ys with
   | nil=>rfl
   | cons _ _=>simp [sameKinds] at h2
  | cons _ _=>simp [fitsAll] at h
 | k :: ks,xs,ys,h,h2=>by
  obtain ⟨x,xs',rfl,h3,h4⟩:=xBb h
  cases ys with
  | nil=>simp [sameKinds] at h2
  | cons y ys =>
   simp only [sameKinds,Bool.and_eq_true] at h2
   have ih:=xDD h4 h2.2
   simp only [fitsAll,Bool.and_eq_true]
   refine ⟨?_,ih⟩
   have h5:=h2.1
   cases x <;> cases y <;> simp [kindOf] at h5 <;> cases k <;> simp [EK.fits] at h3 ⊢
   rw [<- h5];exact h3
theorem xDE {n:Nat}:∀{xs ys:List AV} {us vs:List Value},VRs C us xs->VRs C vs ys->sameKinds xs ys=true->eqCells xs ys=true->vs.length=us.length/\((vs.zip us).all fun p=>Instr.sameBits n p.1 p.2)=true
 | [],ys,us,vs,hu,hv,h1,h2=>by
  cases ys with
  | nil=>cases hu;cases hv;exact ⟨rfl,rfl⟩
  | cons _ _=>simp [sameKinds] at h1
 | x :: xs,ys,us,vs,hu,hv,h1,h2=>by
  cases ys with
  | nil=>simp [sameKinds] at h1
  | cons y ys =>
   cases hu with
   | cons u _ us' _ hu1 hu2 =>
   cases hv with
   | cons v _ vs' _ hv1 hv2 =>
   simp only [sameKinds,Bool.and_eq_true] at h1
   simp only [eqCells,Bool.and_eq_true] at h2
   obtain ⟨i1,i2⟩:=xDE hu2 hv2 h1.2 h2.2
   refine ⟨by simp [i1],?_⟩
   simp only [List.zip_cons_cons,List.all_cons,Bool.and_eq_true]
   refine ⟨?_,i2⟩
   have h3:=h1.1
   have h4:=h2.1
   cases x <;> cases y <;> simp [kindOf] at h3 <;> simp [valEq,scalarEq,h3] at h4
   ·rw [hu1.int_inv,hv1.int_inv];subst h3 h4;simp [Instr.sameBits]
   ·rw [hu1.bool_inv,hv1.bool_inv];subst h4;simp [Instr.sameBits]
   ·rw [hu1.str_inv,hv1.str_inv]
    simp only [Instr.sameBits]
    rw [beq_toListBytes] at h4 ⊢
    simp only [beq_iff_eq] at h4 ⊢
    exact h4.symm
theorem xF1 {t:Nat} {xs:List AV} {y:AV} {b:Bool} (h:keyEq (.iface t (.agg xs)) y=some b):∃ t' ys,y=.iface t' (.agg ys)/\((t ≠ t'/\b=false) \/ (t=t'/\sameKinds xs ys=true/\b=eqCells xs ys)):=by
 cases y <;> try (simp [keyEq,scalarEq] at h;done)
 rename_i t' v
 cases v <;> try (simp [keyEq,scalarEq] at h;done)
 rename_i ys
 refine ⟨t',ys,rfl,?_⟩
 simp only [keyEq] at h
 split at h
 ·rename_i e
  split at h
  ·rename_i hk
   simp only [xoI] at h
   exact .inr ⟨e,hk,h.symm⟩
  ·cases h
 ·rename_i e
  simp only [xoI] at h
  exact .inl ⟨e,h.symm⟩
theorem xAZ {kk:KK} {d:TypeDesc} (hd:kk.desc P d) (hk:kk.flat=true) {u v:Value} {x y:AV} (hx:VR C u x) (hy:VR C v y) (hf:kk.fits x=true) {b:Bool} (h:scalarEq x y=some b):Instr.sameNow d u v=some b:=by
 cases kk <;> simp only [KK.flat,Bool.false_eq_true] at hk <;> cases x <;> simp only [KK.fits,Bool.false_eq_true] at hf <;> cases y <;> simp only [scalarEq,reduceCtorEq,xoI] at h
 ·obtain ⟨k,rfl⟩:=hd
  rw [hx.int_inv,hy.int_inv]
  simp only [Instr.sameNow]
  exact h
 ·subst hd;rw [hx.str_inv,hy.str_inv];simp [Instr.sameNow,h]
 ·subst hd;rw [hx.bool_inv,hy.bool_inv];simp [Instr.sameNow,h]
theorem xBz {kk:KK} {u v:Value} {x y:AV} (hx:VR C u x) (hy:VR C v y) (hf:kk.fits x=true) (h:keyEq x y=some true):Instr.sameBits 10000 v u=true:=by
 by_cases hk:kk.flat=true
 ·rw [xCt hk hf] at h
  cases kk <;> simp only [KK.flat,Bool.false_eq_true] at hk <;> cases x <;> simp only [KK.fits,Bool.false_eq_true] at hf <;> cases y <;> simp only [scalarEq,reduceCtorEq,xoI] at h
  ·rw [hx.int_inv,hy.int_inv]
   split at h
   ·rename_i hk;subst hk;simp at h;subst h;simp [Instr.sameBits]
   ·cases h
  ·rw [hx.str_inv,hy.str_inv]
   rw [beq_toListBytes] at h
   simp only [Instr.sameBits]
   rw [beq_toListBytes]
   simp only [beq_iff_eq] at h ⊢
   exact h.symm
  ·rw [hx.bool_inv,hy.bool_inv];simp at h;subst h;simp [Instr.sameBits]
 ·cases kk <;> simp only [KK.flat,not_true_eq_false] at hk
  obtain ⟨t,xs,ks,rfl,_,_⟩:=xDl hf
  obtain ⟨t',ys,rfl,h1 | ⟨rfl,h2,h3⟩⟩:=xF1 h
  ·cases h1.2
  ·cases hx with
   | iface _ u' _ hx =>
   cases hy with
   | iface _ v' _ hy =>
   cases hx with
   | agg us _ hus =>
   cases hy with
   | agg vs _ hvs =>
   obtain ⟨i1,i2⟩:=xDE (n:=9998) hus hvs h2 h3.symm
   simp only [Instr.sameBits,beq_self_eq_true,Bool.true_and,List.size_toArray,Bool.and_eq_true,beq_iff_eq]
   exact ⟨i1,i2⟩
theorem xHf {α:Type} {w:World} {f:α->PUnit->Sem (ForInStep PUnit)}:∀{L:List α},(∀x ∈ L,∀r,(f x r).run P w=.ok (.yield PUnit.unit) w)->(forIn (m:=Sem) L PUnit.unit f).run P w=.ok PUnit.unit w
 | [],_=>by simp
 | x :: L,h=>by
  have h1:=h x (by simp) PUnit.unit
  have h2:=xHf (f:=f) (L:=L) fun y hy=>h y (by simp [hy])
  simp only [List.forIn_cons,Sem.run_bind,h1,Result.andThen_ok]
  exact h2
theorem xN7 {t:TypeId} {ks:List EK} (h:eqT P 1 t=some ks):∀{s},ks.length=s->0 < s->∃ d,P.underlying t=some d/\((∃ k,d=.int k) \/ d=.bool \/ d=.string):=by
 intro s hs h0
 simp only [eqT] at h
 cases hu:P.underlying t with
 | none=>rw [hu] at h;simp at h
 | some D =>
  rw [hu] at h
  refine ⟨D,rfl,?_⟩
  cases D <;> simp only [reduceCtorEq] at h <;> try (simp;done)
  case struct fields =>
   split at h
   ·cases h
   ·exfalso
    cases hl:fields.toList with
    | nil=>rw [hl] at h;simp only [eqFields,xoI] at h;subst h;simp at hs;omega
    | cons f fs =>
     rw [hl] at h
     simp only [eqFields] at h
     split at h
     ·simp [eqT] at h
     ·cases h
  case array n el=>simp [eqT] at h
theorem checkFields {xs:List AV} {vs:List Value} (hv:VRs C vs xs) (b:Bool) (n:Nat) (w:World):∀(fs:List Field) (off:Nat) (ls:List EK),eqFields P (eqT P 1) fs off=some ls->fitsAll ls (xs.drop off)=true ->
  ∀f ∈ fs,∃ p,(part f.type vs.toArray f.offset).run P w=.ok p w/\(Instr.checkKey b (n + 1) f.type p).run P w=.ok () w:=by
 intro fs
 induction fs with
 | nil=>intro off ls h1 h2 f hf;simp at hf
 | cons f fs ih =>
  intro off ls h1 h2 f' hf'
  simp only [eqFields,Option.bind_eq_bind] at h1
  split at h1
  ·rename_i hcond
   obtain ⟨hname,hoff⟩:=hcond
   simp only [xoB] at h1
   obtain ⟨k1,hk1,s,hs,gf,hgf,h1⟩:=h1
   split at h1
   ·rename_i hsz
    simp only [xoB,xoI] at h1
    obtain ⟨k2,hk2,rfl⟩:=h1
    obtain ⟨a1,a2⟩:=xBw h2
    rw [List.drop_drop] at a2
    rcases List.mem_cons.1 hf' with rfl | hf'
    ·obtain ⟨d,hd,hdk⟩:=xN7 hk1 hsz.1.symm hsz.2.1
     have hg0:gf=false:=by
      simp only [aggT,hd,Option.map_some,xoI] at hgf
      rw [<- hgf]
      rcases hdk with ⟨k,rfl⟩ | rfl | rfl <;> rfl
     subst hg0
     have lx:=xAt a1
     simp only [List.length_take,List.length_drop] at lx
     obtain ⟨z,hz⟩:∃ z,xs[off]?=some z:=⟨_,xgG (by omega)⟩
     obtain ⟨p,p1,p2⟩:=xBV (P:=P) (off:=f'.offset) hgf hs hv (by rw [hoff];simp [partV];exact hz) w
     refine ⟨p,p1,?_⟩
     simp only [Instr.checkKey,Sem.run_bind,xAb hd,Result.andThen_ok]
     rcases hdk with ⟨k,rfl⟩ | rfl | rfl <;> cases p <;> rfl
    ·exact ih (off + k1.length) k2 (by rw [<- hsz.1];exact hk2) a2 f' hf'
   ·cases h1
  ·cases h1
theorem checkStr {t:TypeId} {ks:List EK} (hT:KeyT P t ks) {xs:List AV} (hfit:fitsAll ks xs=true) {us:List Value} (hus:VRs C us xs) (b:Bool) (w:World) (m:Nat) (h:∀fields,P.underlying t=some (.struct fields)->∀f ∈ fields.toList,∃ p,(part f.type us.toArray f.offset).run P w=.ok p w/\(Instr.checkKey b m f.type p).run P w=.ok () w) :
  (Instr.checkKey b (m + 1) t (.agg us.toArray)).run P w=.ok () w:=by
 obtain ⟨fields,hfu,hst,hef⟩:=hT.str
 have hch:=h fields hfu
 simp only [Instr.checkKey,Sem.run_bind,xAb hfu,Result.andThen_ok]
 rw [<- Array.forIn_toList]
 refine (congrArg (fun r=>Result.andThen r _) (xHf (P:=P) (w:=w) (L:=fields.toList) fun f hf r=>?_)).trans ?_
 ·obtain ⟨p,p1,p2⟩:=hch f hf
  by_cases hn : f.name ≠ "_"
  ·simp only [if_pos hn,Sem.run_bind,p1,p2,Result.andThen_ok,Sem.run_pure]
  ·simp only [if_neg hn,Sem.run_pure]
 ·rfl
theorem xCI {kk:KK} {k:TypeId} (hkk:keyKind P k=some kk) (b:Bool) {u:Value} {x:AV} (hx:VR C u x) (hf:kk.fits x=true) (w:World):(Instr.checkKey b 10000 k u).run P w=.ok () w:=by
 obtain ⟨d,hu,hd⟩:=xBH hkk
 have:∀m,(∀t ks xs us,KeyT P t ks->fitsAll ks xs=true->VRs C us xs->(Instr.checkKey b m t (.agg us.toArray)).run P w=.ok () w)->(Instr.checkKey b (m + 1) k u).run P w=.ok () w:=by
  intro m hm
  simp only [Instr.checkKey,Sem.run_bind,xAb hu,Result.andThen_ok]
  cases kk with
  | int=>obtain ⟨k',rfl⟩:=hd;cases u <;> rfl
  | str=>cases hd;cases u <;> rfl
  | bool=>cases hd;cases u <;> rfl
  | iface ts =>
   obtain ⟨ms,rfl,rfl⟩:=hd
   obtain ⟨t,xs,ks,rfl,hmem,hfit⟩:=xDl hf
   have hT:=xDM hmem
   obtain ⟨i,hi,hc⟩:=hT.inf
   cases hx with
   | iface _ u' _ hx =>
   cases hx with
   | agg us _ hus =>
   simp only [Sem.run_bind,xAW hi,Result.andThen_ok,hc,Bool.not_true,Bool.false_eq_true,if_false]
   exact hm t ks xs us hT hfit hus
 refine this 9999 fun t ks xs us hT hfit hus=>checkStr hT hfit hus b w 9998 fun fields hfu f hf=>?_
 obtain ⟨fields',hfu',hst,hef⟩:=hT.str
 rw [hfu] at hfu'
 cases hfu'
 exact checkFields (P:=P) hus b 9997 w fields.toList 0 ks hef (by simpa using hfit) f hf
theorem xD3 {kk:KK} {d:TypeDesc} (hd:kk.desc P d) (hk:kk.flat=true) {u:Value} {x:AV} (hx:VR C u x) (hf:kk.fits x=true):∀{ms:List MapEntry} {es:List (AV × AV)},MapRel C ms es->∀(i:Nat) {r:Option AV},findV x es=some r ->
  (r=none/\Instr.findNow d u ms i=some none) \/ ∃ j v y,r=some y/\Instr.findNow d u ms i=some (some (i + j,v))/\VR C v y/\∃ m,ms[j]?=some m/\Instr.sameBits 10000 m.key u=true
 | _,_,.nil,i,r,h=>by simp [findV] at h;exact .inl ⟨h.symm,by simp [Instr.findNow]⟩
 | _,_,.cons m k v ms es hkr hv hm,i,r,h=>by
  simp only [findV] at h
  split at h
  ·rename_i he
   have he':=he
   rw [xCt hk hf] at he'
   simp only [xoI] at h;subst h
   exact .inr ⟨0,m.val,v,rfl,by simp [Instr.findNow,xAZ hd hk hx hkr hf he'],hv,m,by simp,xBz hx hkr hf he⟩
  ·rename_i he
   rw [xCt hk hf] at he
   rcases xD3 hd hk hx hf hm (i + 1) h with ⟨h1,h2⟩ | ⟨j,v',y,h1,h2,h3,m',h4,h5⟩
   ·exact .inl ⟨h1,by simp [Instr.findNow,xAZ hd hk hx hkr hf he,h2]⟩
   ·exact .inr ⟨j + 1,v',y,h1,by simp [Instr.findNow,xAZ hd hk hx hkr hf he,h2];omega,h3,m',by simpa using h4,h5⟩
  ·cases h
theorem xMH {ms:Array (String × TypeId)} {k t t':TypeId} (hu:P.underlying k=some (.interface ms)) (hne:t ≠ t') (u v:Value) (m:Nat) (w:World):(Op.equalIn (m + 1) k (.iface t u) (.iface t' v)).run P w=.ok false w:=by
 simp only [Op.equalIn,Sem.run_bind,xAb hu,Result.andThen_ok,if_pos hne,Sem.run_pure]
theorem xI3 {ms:Array (String × TypeId)} {k t:TypeId} (hu:P.underlying k=some (.interface ms)) {i:TypeInfo} (hi:P.info? t=some i) (hc:i.comparable=true) (u v:Value) (m:Nat) (w:World):(Op.equalIn (m + 1) k (.iface t u) (.iface t v)).run P w=(Op.equalIn m t u v).run P w:=by
 simp only [Op.equalIn,Sem.run_bind,xAb hu,Result.andThen_ok,xAW hi,hc,ne_eq,not_true_eq_false,if_false,Bool.not_true,Bool.false_eq_true]
theorem xBo {ms:Array (String × TypeId)} {k t:TypeId} (hu:P.underlying k=some (.interface ms)) {xs:List AV} {ks:List EK} (hT:KeyT P t ks) (hfit:fitsAll ks xs=true) {u v:Value} {y:AV} {b:Bool} (hx:VR C u (.iface t (.agg xs))) (hy:VR C v y) (h:keyEq (.iface t (.agg xs)) y=some b) (w:World) :
  (Op.equal k u v).run P w=.ok b w:=by
 obtain ⟨t',ys,rfl,⟨hne,rfl⟩ | ⟨rfl,hsk,rfl⟩⟩:=xF1 h
 ·cases hx;cases hy
  exact xMH hu hne _ _ 9999 w
 ·obtain ⟨i,hi,hc⟩:=hT.inf
  obtain ⟨fields,hfu,_,_⟩:=hT.str
  cases hx with
  | iface _ u' _ hx =>
  cases hy with
  | iface _ v' _ hy =>
  have:=xIY 2 hT.eq (g:=true) (by simp [aggT,hfu,isAggD]) (x:=.agg xs) (y:=.agg ys) ⟨_,rfl⟩ ⟨_,rfl⟩ hfit (xDD hfit hsk) hx hy 9997 w
  exact (xI3 hu hi hc u' v' 9999 w).trans this
theorem xCV {ts:List (Nat × List EK)} {msg:Array (String × TypeId)} {k t:TypeId} (hu:P.underlying k=some (.interface msg)) {xs:List AV} {ks:List EK} (hT:KeyT P t ks) (hfit:fitsAll ks xs=true) (hf:KK.fits (.iface ts) (.iface t (.agg xs))=true) {u:Value} (hx:VR C u (.iface t (.agg xs))) :
  ∀{ms:List MapEntry} {es:List (AV × AV)},MapRel C ms es->∀(i:Nat) {r:Option AV},findV (.iface t (.agg xs)) es=some r ->
  (r=none/\∀w,(Instr.findAsking k u ms i).run P w=.ok none w) \/ ∃ j v y,r=some y/\(∀w,(Instr.findAsking k u ms i).run P w=.ok (some (i + j,v)) w)/\VR C v y/\∃ m,ms[j]?=some m/\Instr.sameBits 10000 m.key u=true
 | _,_,.nil,i,r,h=>by simp [findV] at h;exact .inl ⟨h.symm,fun w=>by simp [Instr.findAsking]⟩
 | _,_,.cons m k' v ms es hkr hv hm,i,r,h=>by
  simp only [findV] at h
  split at h
  ·rename_i he
   simp only [xoI] at h;subst h
   exact .inr ⟨0,m.val,v,rfl,fun w=>by simp [Instr.findAsking,xBo hu hT hfit hx hkr he],hv,m,by simp,xBz hx hkr hf he⟩
  ·rename_i he
   rcases xCV hu hT hfit hf hx hm (i + 1) h with ⟨h1,h2⟩ | ⟨j,v',y,h1,h2,h3,m',h4,h5⟩
   ·exact .inl ⟨h1,fun w=>by simp [Instr.findAsking,xBo hu hT hfit hx hkr he,h2]⟩
   ·exact .inr ⟨j + 1,v',y,h1,fun w=>by simp [Instr.findAsking,xBo hu hT hfit hx hkr he,h2];omega,h3,m',by simpa using h4,h5⟩
  ·cases h
theorem xCJ {k:TypeId} {d:TypeDesc} (hu:P.underlying k=some d) {u:Value} {ms:List MapEntry} {r:Option (Nat × Value)} (h:Instr.findNow d u ms 0=some r) (w:World):(Instr.findKey k u ms).run P w=.ok r w:=by
 simp [Instr.findKey,xAb hu,h]
theorem xHY {msg:Array (String × TypeId)} {u v:Value}:Instr.sameNow (.interface msg) u v=none:=by
 unfold Instr.sameNow;split <;> simp_all
theorem xBR {k:TypeId} {msg:Array (String × TypeId)} (hu:P.underlying k=some (.interface msg)) {u:Value} {ms:List MapEntry} {r:Option (Nat × Value)} (h:∀w,(Instr.findAsking k u ms 0).run P w=.ok r w) (w:World):(Instr.findKey k u ms).run P w=.ok r w:=by
 cases ms with
 | nil =>
  have:=h w
  simp only [Instr.findAsking,Sem.run_pure] at this
  simp only [Instr.findKey,Sem.run_bind,xAb hu,Result.andThen_ok,Instr.findNow,Sem.run_pure]
  exact this
 | cons m ms =>
  simp only [Instr.findKey,Sem.run_bind,xAb hu,Result.andThen_ok,Instr.findNow,xHY]
  exact h w
theorem xHZ {k:TypeId} {kk:KK} (hkk:keyKind P k=some kk) {u:Value} {x:AV} (hx:VR C u x) (hf:kk.fits x=true) {ms:List MapEntry} {es:List (AV × AV)} (hm:MapRel C ms es) {r:Option AV} (h:findV x es=some r) :
  (r=none/\∀w,(Instr.findKey k u ms).run P w=.ok none w) \/ ∃ j v y,r=some y/\(∀w,(Instr.findKey k u ms).run P w=.ok (some (j,v)) w)/\VR C v y/\∃ m,ms[j]?=some m/\Instr.sameBits 10000 m.key u=true:=by
 obtain ⟨d,hu,hd⟩:=xBH hkk
 by_cases hk:kk.flat=true
 ·rcases xD3 hd hk hx hf hm 0 h with ⟨h1,h2⟩ | ⟨j,v,y,h1,h2,h3,h4⟩
  ·exact .inl ⟨h1,xCJ hu h2⟩
  ·rw [Nat.zero_add] at h2
   exact .inr ⟨j,v,y,h1,xCJ hu h2,h3,h4⟩
 ·cases kk <;> simp only [KK.flat,not_true_eq_false] at hk
  obtain ⟨msg,rfl,rfl⟩:=hd
  obtain ⟨t,xs,ks,rfl,hmem,hfit⟩:=xDl hf
  rcases xCV hu (xDM hmem) hfit hf hx hm 0 h with ⟨h1,h2⟩ | ⟨j,v,y,h1,h2,h3,h4⟩
  ·exact .inl ⟨h1,xBR hu h2⟩
  ·simp only [Nat.zero_add] at h2
   exact .inr ⟨j,v,y,h1,xBR hu h2,h3,h4⟩
theorem xHg {kk:KK} {d:TypeDesc} (hd:kk.desc P d) (hk:kk.flat=true) {u:Value} {x y:AV} (hx:VR C u x) (hf:kk.fits x=true):∀{ms:List MapEntry} {es es':List (AV × AV)},MapRel C ms es->∀(i:Nat),putV x y es=some es' ->
  (Instr.findNow d u ms i=some none/\es'=es ++ [(x,y)]) \/ ∃ j m,Instr.findNow d u ms i=some (some (i + j,m.val))/\ms[j]?=some m/\Instr.sameBits 10000 m.key u=true/\es'=es.set j (x,y)
 | _,_,_,.nil,i,h=>by simp [putV] at h;subst h;exact .inl ⟨by simp [Instr.findNow],rfl⟩
 | _,_,es',.cons m k v ms es hkr hv hm,i,h=>by
  simp only [putV] at h
  split at h
  ·rename_i he
   have he':=he
   rw [xCt hk hf] at he'
   simp only [xoI] at h;subst h
   exact .inr ⟨0,m,by simp [Instr.findNow,xAZ hd hk hx hkr hf he'],by simp,xBz hx hkr hf he,by simp⟩
  ·rename_i he
   rw [xCt hk hf] at he
   simp only [Option.map_eq_some_iff] at h
   obtain ⟨es1,h1,rfl⟩:=h
   rcases xHg hd hk hx hf hm (i + 1) h1 with ⟨g1,rfl⟩ | ⟨j,m',g1,g2,g3,rfl⟩
   ·exact .inl ⟨by simp [Instr.findNow,xAZ hd hk hx hkr hf he,g1],by simp⟩
   ·exact .inr ⟨j + 1,m',by simp [Instr.findNow,xAZ hd hk hx hkr hf he,g1];omega,by simpa using g2,g3,by simp⟩
  ·cases h
theorem xC4 {ts:List (Nat × List EK)} {msg:Array (String × TypeId)} {k t:TypeId} (hu:P.underlying k=some (.interface msg)) {xs:List AV} {ks:List EK} (hT:KeyT P t ks) (hfit:fitsAll ks xs=true) (hf:KK.fits (.iface ts) (.iface t (.agg xs))=true) {u:Value} {z:AV} (hx:VR C u (.iface t (.agg xs))) :
  ∀{ms:List MapEntry} {es es':List (AV × AV)},MapRel C ms es->∀(i:Nat),putV (.iface t (.agg xs)) z es=some es' ->
  ((∀w,(Instr.findAsking k u ms i).run P w=.ok none w)/\es'=es ++ [(.iface t (.agg xs),z)]) \/ ∃ j m,(∀w,(Instr.findAsking k u ms i).run P w=.ok (some (i + j,m.val)) w)/\ms[j]?=some m/\Instr.sameBits 10000 m.key u=true/\es'=es.set j (.iface t (.agg xs),z)
 | _,_,_,.nil,i,h=>by simp [putV] at h;subst h;exact .inl ⟨fun w=>by simp [Instr.findAsking],rfl⟩
 | _,_,es',.cons m k' v ms es hkr hv hm,i,h=>by
  simp only [putV] at h
  split at h
  ·rename_i he
   simp only [xoI] at h;subst h
   exact .inr ⟨0,m,fun w=>by simp [Instr.findAsking,xBo hu hT hfit hx hkr he],by simp,xBz hx hkr hf he,by simp⟩
  ·rename_i he
   simp only [Option.map_eq_some_iff] at h
   obtain ⟨es1,h1,rfl⟩:=h
   rcases xC4 hu hT hfit hf hx hm (i + 1) h1 with ⟨g1,rfl⟩ | ⟨j,m',g1,g2,g3,rfl⟩
   ·exact .inl ⟨fun w=>by simp [Instr.findAsking,xBo hu hT hfit hx hkr he,g1],by simp⟩
   ·exact .inr ⟨j + 1,m',fun w=>by simp [Instr.findAsking,xBo hu hT hfit hx hkr he,g1];omega,by simpa using g2,g3,by simp⟩
  ·cases h
theorem xI4 {k:TypeId} {kk:KK} (hkk:keyKind P k=some kk) {u:Value} {x y:AV} (hx:VR C u x) (hf:kk.fits x=true) {ms:List MapEntry} {es es':List (AV × AV)} (hm:MapRel C ms es) (h:putV x y es=some es') :
  ((∀w,(Instr.findKey k u ms).run P w=.ok none w)/\es'=es ++ [(x,y)]) \/ ∃ j m,(∀w,(Instr.findKey k u ms).run P w=.ok (some (j,m.val)) w)/\ms[j]?=some m/\Instr.sameBits 10000 m.key u=true/\es'=es.set j (x,y):=by
 obtain ⟨d,hu,hd⟩:=xBH hkk
 by_cases hk:kk.flat=true
 ·rcases xHg hd hk hx hf hm 0 h with ⟨h1,h2⟩ | ⟨j,m,h1,h2⟩
  ·exact .inl ⟨xCJ hu h1,h2⟩
  ·rw [Nat.zero_add] at h1
   exact .inr ⟨j,m,xCJ hu h1,h2⟩
 ·cases kk <;> simp only [KK.flat,not_true_eq_false] at hk
  obtain ⟨msg,rfl,rfl⟩:=hd
  obtain ⟨t,xs,ks,rfl,hmem,hfit⟩:=xDl hf
  rcases xC4 hu (xDM hmem) hfit hf hx hm 0 h with ⟨h1,h2⟩ | ⟨j,m,h1,h2⟩
  ·exact .inl ⟨xBR hu h1,h2⟩
  ·simp only [Nat.zero_add] at h1
   exact .inr ⟨j,m,xBR hu h1,h2⟩
theorem MapRel.length:∀{ms:List MapEntry} {es:List (AV × AV)},MapRel C ms es->ms.length=es.length
 | _,_,.nil=>rfl
 | _,_,.cons _ _ _ _ _ _ _ h=>by simp [h.length]
theorem MapRel.snoc {m:MapEntry} {k v:AV} (hk:VR C m.key k) (hv:VR C m.val v):∀{ms:List MapEntry} {es:List (AV × AV)},MapRel C ms es->MapRel C (ms ++ [m]) (es ++ [(k,v)])
 | _,_,.nil=>.cons _ _ _ _ _ hk hv .nil
 | _,_,.cons _ _ _ _ _ h1 h2 h=>.cons _ _ _ _ _ h1 h2 (h.snoc hk hv)
theorem MapRel.set {m:MapEntry} {k v:AV} (hk:VR C m.key k) (hv:VR C m.val v):∀{ms:List MapEntry} {es:List (AV × AV)},MapRel C ms es->∀j,MapRel C (ms.set j m) (es.set j (k,v))
 | _,_,.nil,j=>by simp;exact .nil
 | _,_,.cons _ _ _ _ _ h1 h2 h,0=>by simp;exact .cons _ _ _ _ _ hk hv h
 | _,_,.cons _ _ _ _ _ h1 h2 h,j + 1=>by simp;exact .cons _ _ _ _ _ h1 h2 (h.set hk hv j)
theorem xCu {w:World} {b:Nat} {ms:Array MapEntry} {ck:Nat} (h:w.heap[b]?=some (.map ms ck)):(getObj b).run P w=.ok (.map ms ck) w:=by
 simp [getObj,Sem.run,h]
theorem xHh {w:World} {b:Nat} {ms:Array MapEntry} {ck:Nat} (h:w.heap[b]?=some (.map ms ck)) (o:Obj):(setObj b o).run P w=.ok () (putBlk w b o):=by
 simp [setObj,Sem.run,h,putBlk]
theorem xKD (hR:Rel C) {p:Nat} {es:List (AV × AV)} (h:C.S.obj p=some (.map es)):∃ l ms ck,C.μ p=some l/\C.w.heap[l.blk]?=some (.map ms ck)/\MapRel C ms.toList es:=hR.obj p _ h
theorem xKE (hR:Rel C) (hF:FrameOK C F a) {t q e:TypeId} {x i:Operand} {ok:Bool} (ho:o.op=.lookup t x i ok) (ht:P.underlying t=some (.map q e)) {kk:KK} (hkk:keyKind P q=some kk) {z:Value} (hz:zeroT P e=some z) {zv:AV} (hzv:ofCell z=some zv)
  {vx vi:VX} (hx:cx x=some vx) (hi:cx i=some vi) {r:AV} {S':St} (hr:sk (.lookup kk zv ok) [vx.eval F,vi.eval F] C.S=some (r,S')):Does P C a o r/\S'=C.S:=by
 have h1:=xAf hF hx
 have h2:=xAf hF hi
 obtain ⟨d,hu,hd⟩:=xBH hkk
 simp only [sk] at hr
 split at hr
 ·rename_i p kx e1
  simp only [List.cons.injEq,and_true] at e1
  obtain ⟨e1,e2⟩:=e1
  rw [e1] at h1;rw [e2] at h2
  split at hr
  ·rename_i es hobj
   split at hr
   ·cases hr
   ·rename_i hfit
    simp only [Bool.not_eq_true,Bool.not_eq_false] at hfit
    simp only [Option.map_eq_some_iff,Prod.mk.injEq] at hr
    obtain ⟨f,hf,hr,rfl⟩:=hr
    obtain ⟨l,ms,ck,k1,k2,k3⟩:=xKD hR hobj
    generalize hv:a.eval x=v at h1
    cases h1
    rename_i l' hl'
    rw [k1] at hl';cases hl'
    have hz':=xC0 C hzv
    rcases xHZ hkk h2 hfit k3 hf with ⟨rfl,g2⟩ | ⟨j,v,y,rfl,g2,g3,_⟩
    ·have hrun:(Instr.lookup t (.map (some l.blk)) (a.eval i) ok).run P C.w=.ok (if ok then .tuple #[z,.bool false] else z) C.w:=by
      simp only [Instr.lookup,Sem.run_bind,xAb ht,Result.andThen_ok,xCu k2,Sem.run_pure,xCI hkk _ h2 hfit,g2,xAJ hz]
     refine ⟨⟨if ok then .tuple #[z,.bool false] else z,by simp only [execOp,ho,hv,Sem.run_bind,hrun,Result.andThen_ok,Sem.run_pure],?_⟩,rfl⟩
     rw [<- hr]
     cases ok
     ·exact hz'
     ·exact .tuple [z,.bool false] _ (.cons _ _ _ _ hz' (.one (.bool false)))
    ·have hrun:(Instr.lookup t (.map (some l.blk)) (a.eval i) ok).run P C.w=.ok (if ok then .tuple #[v,.bool true] else v) C.w:=by
      simp only [Instr.lookup,Sem.run_bind,xAb ht,Result.andThen_ok,xCu k2,Sem.run_pure,xCI hkk _ h2 hfit,g2]
     refine ⟨⟨if ok then .tuple #[v,.bool true] else v,by simp only [execOp,ho,hv,Sem.run_bind,hrun,Result.andThen_ok,Sem.run_pure],?_⟩,rfl⟩
     rw [<- hr]
     cases ok
     ·exact g3
     ·exact .tuple [v,.bool true] _ (.cons _ _ _ _ g3 (.one (.bool true)))
  ·cases hr
 ·cases hr
theorem xKF (hR:Rel C) (hF:FrameOK C F a) {c:Call} {t q e:TypeId} {x:Operand} (ho:o.op=.call c) (hc:c.callee=.builtin .len) (hx':c.args.toList=[x]) (ht':c.argTypes.toList=[t]) (ht:P.underlying t=some (.map q e))
  {vx:VX} (hx:cx x=some vx) {r:AV} {S':St} (hr:sk .lenMap [vx.eval F] C.S=some (r,S')):Does P C a o r/\S'=C.S:=by
 have h1:=xAf hF hx
 have hat:c.argTypes=#[t]:=by apply Array.ext';simpa using ht'
 simp only [sk] at hr
 split at hr
 ·rename_i p e1
  simp only [List.cons.injEq,and_true] at e1
  rw [e1] at h1
  split at hr
  ·rename_i es hobj
   simp only [xoI,Prod.mk.injEq] at hr
   obtain ⟨rfl,rfl⟩:=hr
   obtain ⟨l,ms,ck,k1,k2,k3⟩:=xKD hR hobj
   generalize hv:a.eval x=v at h1
   cases h1
   rename_i l' hl'
   rw [k1] at hl';cases hl'
   refine ⟨⟨.int .i64 es.length,xAA c .len hc ho C.w ?_,.int _ _⟩,rfl⟩
   rw [xDj hx',hat,hv]
   have:=k3.length
   simp at this
   simp [builtin,Builtin.len_,xAb ht,xCu k2,goInt,this]
  ·cases hr
 ·cases hr
theorem xG3 (hR:Rel C) (hF:FrameOK C F a) {t q e:TypeId} {m k v:Operand} (ho:o.op=.mapUpdate t m k v) (ht:P.underlying t=some (.map q e)) {kk:KK} (hkk:keyKind P q=some kk)
  {vm vk vv:VX} (hm:cx m=some vm) (hk:cx k=some vk) (hv:cx v=some vv) {r:AV} {S':St} (hr:sk (.mapUpdate kk) [vm.eval F,vk.eval F,vv.eval F] C.S=some (r,S')):DoesM P C a o r S':=by
 have h1:=xAf hF hm
 have h2:=xAf hF hk
 have h3:=xAf hF hv
 obtain ⟨d,hu,hd⟩:=xBH hkk
 simp only [sk] at hr
 split at hr
 ·rename_i p kx vx e1
  simp only [List.cons.injEq,and_true] at e1
  obtain ⟨e1,e2,e3⟩:=e1
  rw [e1] at h1;rw [e2] at h2;rw [e3] at h3
  split at hr
  ·rename_i es hobj
   split at hr
   ·cases hr
   ·rename_i hfit
    simp only [Bool.not_eq_true,Bool.not_eq_false] at hfit
    simp only [Option.map_eq_some_iff,Prod.mk.injEq] at hr
    obtain ⟨es',hput,rfl,rfl⟩:=hr
    obtain ⟨l,ms,ck,k1,k2,k3⟩:=xKD hR hobj
    generalize hmv:a.eval m=mv at h1
    cases h1
    rename_i l' hl'
    rw [k1] at hl';cases hl'
    have fin:∀ob ms' ck',(Instr.mapUpdate t (.map (some l.blk)) (a.eval k) (a.eval v)).run P C.w=.ok () (putBlk C.w l.blk ob)->ob=.map ms' ck'->MapRel C ms'.toList es'->DoesM P C a o (.tuple []) (C.S.set p (.map es')):=by
     rintro ob ms' ck' hrun rfl hrel
     have hL:=xCa hR hobj k1 k2 (.map ms' ck') (by intro c1 e1 f1 h;cases h) (.map es')
     refine ⟨.skip,undef,C.wrote p l.blk (.map ms' ck') (.map es'),?_,.inr ⟨rfl,rfl⟩,rfl,hL,xBF hR hobj k1 hL ?_,.tuple [] [] .nil⟩
     ·simp only [execOp,ho,hmv,Sem.run_bind,hrun,Result.andThen_ok,Sem.run_pure]
      rfl
     ·exact ⟨l,ms',ck',k1,xAm _ (Array.getElem?_eq_some_iff.1 k2).1,hrel.mono hL.to0⟩
    rcases xI4 hkk h2 hfit k3 hput with ⟨f2,rfl⟩ | ⟨j,m',f2,f4,f5,rfl⟩
    ·refine fin _ (ms.push { key:=a.eval k,val:=a.eval v,born:=ck }) (ck + 1) ?_ rfl ?_
     ·simp only [Instr.mapUpdate,Sem.run_bind,xAb ht,Result.andThen_ok,xCu k2,xCI hkk _ h2 hfit,f2,xHh k2]
     ·rw [Array.toList_push]
      exact k3.snoc h2 h3
    ·have hm':ms[j]?=some m':=by simpa using f4
     obtain ⟨hlen,hm2⟩:=Array.getElem?_eq_some_iff.1 hm'
     refine fin _ (ms.modify j fun e=>{ e with key:=a.eval k,val:=a.eval v }) ck ?_ rfl ?_
     ·simp only [Instr.mapUpdate,Sem.run_bind,xAb ht,Result.andThen_ok,xCu k2,xCI hkk _ h2 hfit,f2,hm',Option.map_some,Option.getD_some,Instr.keyThatStays,f5,if_true,Sem.run_pure,xHh k2]
     ·have:(ms.modify j fun e=>{ e with key:=a.eval k,val:=a.eval v }).toList=ms.toList.set j { m' with key:=a.eval k,val:=a.eval v }:=by
       apply List.ext_getElem?
       intro i
       simp only [Array.getElem?_toList,Array.getElem?_modify,List.getElem?_set,Array.length_toList]
       by_cases e:j=i
       ·subst e;rw [if_pos rfl,if_pos rfl,hm',if_pos hlen];rfl
       ·rw [if_neg e,if_neg e]
      rw [this]
      exact k3.set h2 h3 j
  ·cases hr
 ·cases hr
def Sub (S S':St):Prop:=∀q x,S.obj q=some x->S'.obj q=some x
def SK.isRead:SK->Bool
 | .load _ _=>true
 | .lookup _ _ _=>true
 | .lenMap=>true
 | _=>false
def SK.isMake:SK->Bool
 | .box=>true
 | .alloc _=>true
 | .buildSlice _ _ _ _=>true
 | .makeSlice _ _ _=>true
 | .makeMap=>true
 | _=>false
theorem xLC {k:SK} (hk:k.isRead=true) {xs:List AV} {S S':St} (hS:Sub S S') {v:AV} {S1:St} (h:sk k xs S=some (v,S1)):S1=S/\sk k xs S'=some (v,S'):=by
 cases k <;> simp [SK.isRead] at hk
 case load gg sz =>
  simp only [sk] at h ⊢
  split at h
  ·split at h
   ·rename_i sz' es ho
    split at h
    ·rename_i e he
     simp only [Option.map_eq_some_iff,Prod.mk.injEq] at h
     obtain ⟨y,h1,rfl,rfl⟩:=h
     rw [hS _ _ ho];simp [he,h1]
    ·cases h
   ·cases h
  ·simp only [Option.map_eq_some_iff,Prod.mk.injEq] at h
   obtain ⟨y,h1,rfl,rfl⟩:=h
   simp [h1]
  ·cases h
 case lookup kk z ok =>
  simp only [sk] at h ⊢
  split at h
  ·split at h
   ·rename_i es ho
    split at h
    ·cases h
    ·rename_i hf
     simp only [Option.map_eq_some_iff,Prod.mk.injEq] at h
     obtain ⟨y,h1,rfl,rfl⟩:=h
     rw [hS _ _ ho];simp [hf,h1]
   ·cases h
  ·cases h
 case lenMap =>
  simp only [sk] at h ⊢
  split at h
  ·split at h
   ·rename_i es ho
    simp only [xoI,Prod.mk.injEq] at h
    obtain ⟨rfl,rfl⟩:=h
    rw [hS _ _ ho];simp
   ·cases h
  ·cases h
def DoesK (k:SK) (P:Program) (C:Ctx) (a:Act) (o:Oper) (y:AV) (S':St) (id nx:Nat):Prop :=
 (k.isRead=true->Does P C a o y)/\(k.isMake=true->DoesAt P C a o y S' id nx)/\(id=C.S.next->nx=C.S.next + 1->Rel C->DoesM P C a o y S')
theorem DoesK.of_make {k:SK} {y:AV} {S':St} {id nx:Nat} (hk:k.isRead=false) (h:DoesAt P C a o y S' id nx):DoesK k P C a o y S' id nx :=
 ⟨(fun h'=>absurd (hk.symm.trans h') (by simp)),fun _=>h,fun e1 e2 _=>by subst e1;subst e2;exact h.m⟩
theorem DoesK.of_read {k:SK} {y:AV} {S':St} {id nx:Nat} {xs:List AV} (hk:k.isRead=true) (hy:sk k xs ⟨id,C.S.obj⟩=some (y,S')) (h:sk k xs C.S=some (y,C.S)->Does P C a o y/\C.S=C.S):DoesK k P C a o y S' id nx:=by
 obtain ⟨h1,h2⟩:=xLC hk (S:=⟨id,C.S.obj⟩) (S':=C.S) (fun q x h=>h) hy
 obtain ⟨v,r1,r2⟩:=(h h2).1
 refine ⟨fun _=>⟨v,r1,r2⟩,fun h=>by cases k <;> simp [SK.isRead,SK.isMake] at hk h,fun e1 e2 hR=>?_⟩
 subst e1
 exact ⟨_,v,C,r1,.inl rfl,h1.symm,Le.refl C,hR,r2⟩
theorem DoesK.of_other {k:SK} {y:AV} {S':St} {id nx:Nat} (hk:k.isRead=false) (hk':k.isMake=false) (h:id=C.S.next->DoesM P C a o y S'):DoesK k P C a o y S' id nx :=
 ⟨(fun h'=>absurd (hk.symm.trans h') (by simp)),(fun h'=>absurd (hk'.symm.trans h') (by simp)),fun e _ _=>h e⟩
theorem xF2 {id nx:Nat} (hR:Rel C) (hf:Fits C id nx) (hF:FrameOK C F a) {k:SK} {xs:List VX} (hc:compOp P o.op=some (.sk k xs)) {y:AV} {S':St} (hy:sk k (xs.map (VX.eval F)) ⟨id,C.S.obj⟩=some (y,S')):DoesK k P C a o y S' id nx:=by
 generalize hop:o.op=op at hc
 cases op <;> simp only [compOp,Option.bind_eq_bind,xoB,xoI,reduceCtorEq] at hc
 case move x=>obtain ⟨vx,hx,h⟩:=hc;cases h
 case assign x=>obtain ⟨vx,hx,h⟩:=hc;cases h
 case pick c x y'=>obtain ⟨vc,hc',vx,hx,vy,hy',h⟩:=hc;cases h
 case alloc t =>
  obtain ⟨z,hz,h⟩:=hc
  split at h
  ·rename_i hn;simp only [xoI] at h;cases h;exact .of_make rfl (xME hR hf hop hz hn hy)
  ·cases h
 case box t x =>
  obtain ⟨vx,hx,h⟩:=hc
  cases h;exact .of_make rfl (xQv hR hf hF hop hx hy)
 case build t parts=>obtain ⟨z,hz,pl,hpl,ps,hps,xs',hxs,h⟩:=hc;cases h
 case buildSlice t len parts =>
  split at hc
  ·rename_i ht
   simp only [xoB] at hc
   obtain ⟨z,hz,s,hs,xs',hxs,h⟩:=hc
   split at h
   ·rename_i hcond;simp only [xoI] at h;cases h;exact .of_make rfl (xFX hR hf hF hop ht hz hs hcond.1 hcond.2.1 hcond.2.2 hxs hy)
   ·cases h
  ·cases hc
 case load t x =>
  obtain ⟨s,hs,g,hg,vx,hx,h⟩:=hc
  cases h;exact .of_read rfl hy (fun hy=>xN5 hR hF hop hs hg hx hy)
 case store t x v =>
  obtain ⟨s,hs,vx,hx,vv,hv,h⟩:=hc
  cases h;exact .of_other rfl rfl (fun e=>by subst e;exact xMF hR hF hop hs hx hv hy)
 case nilCheck x=>obtain ⟨vx,hx,h⟩:=hc;cases h
 case binOp op t x y' t' =>
  unfold compBin at hc
  split at hc <;> simp only [Option.bind_eq_bind,xoB,xoI,reduceCtorEq] at hc
  ·obtain ⟨vx,hx,vy,hy',h⟩:=hc;cases h
  ·obtain ⟨n,hn,vx,hx,vy,hy',h⟩:=hc;cases h
  ·obtain ⟨vx,hx,vy,hy',h⟩:=hc;cases h
  ·obtain ⟨n,hn,h⟩:=hc
   split at h
   ·simp only [xoB,xoI] at h;obtain ⟨vx,hx,h⟩:=h;cases h
   ·cases h
  ·obtain ⟨n,hn,h⟩:=hc
   split at h
   ·simp only [xoB,xoI] at h;obtain ⟨vx,hx,h⟩:=h;cases h
   ·cases h
  ·obtain ⟨n,hn,h⟩:=hc
   split at h
   ·simp only [xoB,xoI] at h;obtain ⟨vx,hx,h⟩:=h;cases h
   ·cases h
  ·obtain ⟨n,hn,ks,hk,vx,hx,vy,hy',h⟩:=hc
   split at h <;> cases h
  ·obtain ⟨n,hn,ks,hk,vx,hx,vy,hy',h⟩:=hc
   split at h <;> cases h
 case unOp op t x=>obtain ⟨vx,hx,h⟩:=hc;cases h
 case convert s d x =>
  split at hc
  ·simp only [xoB,xoI] at hc
   obtain ⟨vx,hx,h⟩:=hc;cases h
  ·cases hc
 case makeInterface t x =>
  split at hc
  ·cases hc
  ·simp only [xoB,xoI] at hc
   obtain ⟨vx,hx,h⟩:=hc;cases h
  ·cases hc
 case makeFunc fn first captured=>obtain ⟨x1,hx1,x2,hx2,h⟩:=hc;cases h
 case makeMap t r =>
  cases r with
  | none=>simp only [compOp,xoI] at hc;cases hc;exact .of_make rfl (xI2 hR hf hop hy)
  | some r=>simp [compOp] at hc
 case makeSlice t l c =>
  split at hc
  ·rename_i ht
   simp only [xoB] at hc
   obtain ⟨z,hz,i,hi,vl,hl,vc,hc',h⟩:=hc
   split at h
   ·rename_i hcond;simp only [xoI] at h;cases h;exact .of_make rfl (xG1 hR hf hF hop ht hz hi hcond.1 hcond.2.1 hcond.2.2.1 hcond.2.2.2 hl hc' hy)
   ·cases h
  ·cases hc
 case slice t x lo hi mx =>
  obtain ⟨vx,hx,bs,hb,h⟩:=hc
  split at h
  ·simp only [xoB] at h
   obtain ⟨s,hs,h⟩:=h
   split at h <;> simp at h
  ·split at h <;> simp at h
  ·simp only [xoB] at h
   obtain ⟨s,hs,h⟩:=h
   split at h <;> simp at h
  ·cases h
 case fieldAddr t x i =>
  obtain ⟨f,hf,n,hn,h⟩:=hc
  split at h
  ·simp only [xoB,xoI] at h
   obtain ⟨vx,hx,h⟩:=h;cases h
  ·cases h
 case field t x i=>obtain ⟨f,hf,n,hn,g,hg,vx,hx,h⟩:=hc;cases h
 case indexAddr t x i =>
  split at hc
  ·simp only [xoB] at hc
   obtain ⟨s,hs,h⟩:=hc
   split at h
   ·simp only [xoB,xoI] at h
    obtain ⟨vx,hx,vi,hi,h⟩:=h;cases h
   ·cases h
  ·simp only [xoB] at hc
   obtain ⟨s,hs,h⟩:=hc
   split at h
   ·simp only [xoB,xoI] at h
    obtain ⟨vx,hx,vi,hi,h⟩:=h;cases h
   ·cases h
  ·cases hc
 case index t x i =>
  split at hc
  ·simp only [xoB,xoI] at hc
   obtain ⟨vx,hx,vi,hi,h⟩:=hc;cases h
  ·cases hc
 case lookup t x i ok =>
  obtain ⟨k',hk,e,he,z,⟨zz,hz1,hz2⟩,kk,hkk,vx,hx,vi,hi,h⟩:=hc
  cases h
  have ht:P.underlying t=some (.map k' e):=by
   unfold keyT at hk;unfold elemT at he
   split at hk
   ·rename_i q1 q2 hu;rw [hu] at he;simp only [xoI] at hk he;rw [hu,hk,he]
   ·cases hk
  exact .of_read rfl hy (fun hy=>xKE hR hF hop ht hkk hz1 hz2 hx hi hy)
 case mapUpdate t m k' v =>
  obtain ⟨q,hq,kk,hkk,vx,hx,vi,hi,vv,hv,h⟩:=hc
  cases h
  unfold keyT at hq
  split at hq
  ·rename_i q1 q2 hu
   simp only [xoI] at hq;subst hq
   exact .of_other rfl rfl (fun e=>by subst e;exact xG3 hR hF hop hu hkk hx hi hv hy)
  ·cases hq
 case typeAssert x xt t ok =>
  obtain ⟨z,hz,h⟩:=hc
  split at h
  ·cases h
  ·simp only [xoB,xoI] at h
   obtain ⟨vx,hx,h⟩:=h;cases h
  ·cases h
 case extract x i=>obtain ⟨vx,hx,h⟩:=hc;cases h
 case call c =>
  split at hc
  ·rename_i b hb
   unfold compBuiltin at hc
   split at hc
   ·rename_i x t hxs hts
    simp only [Option.bind_eq_bind,xoB] at hc
    obtain ⟨vx,hx,h⟩:=hc
    split at h
    ·simp at h
    ·simp at h
    ·simp at h
    ·rename_i ht;simp only [xoI] at h;cases h;exact .of_read rfl hy (fun hy=>xKF hR hF hop hb hxs hts ht hx hy)
    ·cases h
   ·rename_i x y' t u hxs hts
    simp only [Option.bind_eq_bind,xoB] at hc
    obtain ⟨vx,hx,vy,hy',h⟩:=hc
    split at h
    ·rename_i ht hu
     simp only [xoB] at h
     obtain ⟨i,hi,z,hz,h⟩:=h
     split at h
     ·rename_i hcond;simp only [xoI] at h;cases h;exact .of_other rfl rfl (fun e=>by subst e;exact xKC hR hF hop hb hxs hts ht hu hi hz hcond.1 hcond.2.1 hcond.2.2.1 hcond.2.2.2 hx hy' hy)
     ·cases h
    ·cases h
   ·rename_i x y' t u hxs hts
    simp only [Option.bind_eq_bind,xoB] at hc
    obtain ⟨vx,hx,vy,hy',h⟩:=hc
    split at h
    ·rename_i ht hu
     simp only [xoB] at h
     obtain ⟨s,hs,h⟩:=h
     split at h
     ·rename_i hcond;simp only [xoI] at h;cases h;exact .of_other rfl rfl (fun e=>by subst e;exact xN6 hR hF hop hb hxs hts ht hs hcond hx hy' hy)
     ·cases h
    ·cases h
   ·rename_i x t hxs hts
    simp only [Option.bind_eq_bind,xoB] at hc
    obtain ⟨vx,hx,h⟩:=hc
    split at h
    ·rename_i ht
     simp only [xoB] at h
     obtain ⟨s,hs,h⟩:=h
     split at h
     ·rename_i hcond;simp only [xoI] at h;cases h;exact .of_other rfl rfl (fun e=>by subst e;exact xMG hR hF hop hb hxs hts ht hs hcond hx hy)
     ·cases h
    ·cases h
   ·simp only [Option.bind_eq_bind,xoB,xoI] at hc
    obtain ⟨vx,hx,h⟩:=hc;cases h
   ·simp only [Option.bind_eq_bind,xoB,xoI] at hc
    obtain ⟨vx,hx,h⟩:=hc;cases h
   ·cases hc
  ·simp only [xoB,xoI] at hc
   obtain ⟨vx,hx,h⟩:=hc;cases h
  ·simp only [xoB,xoI] at hc
   obtain ⟨vx,hx,vy,hy',h⟩:=hc;cases h
  ·simp only [xoB,xoI] at hc
   obtain ⟨vx,hx,vy,hy',h⟩:=hc;cases h
theorem xQw (hR:Rel C) (hF:FrameOK C F a) {k:SK} {xs:List VX} (hc:compOp P o.op=some (.sk k xs)) {y:AV} {S':St} (hy:sk k (xs.map (VX.eval F)) C.S=some (y,S')):DoesM P C a o y S' :=
 (xF2 hR hR.fits hF hc hy).2.2 rfl rfl hR
end
end Go.Proofs.YtnhfofmhkfdpgaaGreatDoor.Vm
