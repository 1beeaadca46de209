/- A part of the proof: Vi Vj. -/
import Derived.Test.YtnhfofmhkfdpgaaGreatDoorQ02
set_option linter.unusedVariables false
set_option linter.unusedSimpArgs false
set_option linter.constructorNameAsVariable false
namespace Go.Proofs.YtnhfofmhkfdpgaaGreatDoor.Vm
open Go Go.RowKit
def DoesM (P:Program) (C:Ctx) (a:Act) (o:Oper) (y:AV) (S':St):Prop :=
 ∃ nx v C',(execOp a.eval o).run P C.w=.ok nx C'.w/\(nx=.value v \/ (nx=.skip/\v=undef))/\C'.S=S'/\Le C C'/\Rel C'/\VR C' v y
theorem xN2:∀(ys l:List AV) (off:Nat),off + ys.length<=l.length->over l off ys=l.take off ++ ys ++ l.drop (off + ys.length)
 | [],l,off,h=>by simp [over]
 | y :: ys,l,off,h=>by
  simp only [List.length_cons] at h
  simp only [over]
  rw [xN2 ys _ _ (by simp;omega),List.drop_set_of_lt (by omega)]
  have t1:(l.set off y).take (off + 1)=l.take off ++ [y]:=by
   rw [List.take_add_one,List.take_set_of_le (by omega)]
   simp [show off < l.length by omega]
  rw [t1,List.append_assoc,List.append_assoc,List.append_assoc]
  simp only [List.singleton_append,List.cons_append,List.nil_append]
  rw [show off + 1 + ys.length=off + (y :: ys).length by simp;omega]
theorem xLB {sz:Nat}:∀{es:List (List AV)} {i:Nat} {e e':List AV},(∀x ∈ es,x.length=sz)->es[i]?=some e->e'.length=sz->(es.set i e').flatten=es.flatten.take (i * sz) ++ e' ++ es.flatten.drop (i * sz + sz)
 | [],i,e,e',h,hi,hl=>by simp at hi
 | x :: es,0,e,e',h,hi,hl=>by
  have:=h x (by simp)
  simp [<- this]
 | x :: es,i + 1,e,e',h,hi,hl=>by
  have hx:=h x (by simp)
  have:=xLB (es:=es) (i:=i) (e:=e) (e':=e') (fun y hy=>h y (by simp [hy])) (by simpa using hi) hl
  simp only [List.set_cons_succ,List.flatten_cons,this]
  rw [List.take_append,List.drop_append,List.take_of_length_le (l:=x) (by rw [hx,Nat.add_mul];omega),List.drop_eq_nil_of_le (as:=x) (by rw [hx,Nat.add_mul];omega)]
  simp only [List.nil_append,List.append_assoc]
  rw [hx,show (i + 1) * sz - sz=i * sz by rw [Nat.add_mul];omega,show (i + 1) * sz + sz - sz=i * sz + sz by rw [Nat.add_mul];omega]
theorem xN3 {c:Array Value} {b p:Nat} {vs us:List Value} (hv:∀(j:Nat) v,vs[j]?=some v->c[b + j]?=some v) (hp:p + us.length<=vs.length) (hb:b + vs.length<=c.size) :
  ∀(j:Nat) v,(vs.take p ++ us ++ vs.drop (p + us.length))[j]?=some v->(wr c (b + p) us)[b + j]?=some v:=by
 intro j v hj
 rw [xN1 _ _ _ _ (by omega)]
 simp only [List.getElem?_append,List.length_append,List.length_take,List.getElem?_take,List.getElem?_drop] at hj
 rw [show min p vs.length=p by omega] at hj
 by_cases h1:j < p
 ·rw [if_neg (by omega)]
  rw [if_pos (by omega),if_pos h1,if_pos h1] at hj
  exact hv _ _ hj
 ·by_cases h2:j < p + us.length
  ·rw [if_pos (by omega),show b + j - (b + p)=j - p by omega]
   rw [if_pos h2,if_neg h1] at hj
   exact hj
  ·rw [if_neg (by omega)]
   rw [if_neg h2] at hj
   have:=hv _ _ hj
   rwa [show b + (p + us.length + (j - (p + us.length)))=b + j by omega] at this
theorem xFh {α:Type} (zs:List α) (hz:0 < zs.length):∀(n j:Nat),j < n * zs.length->(List.replicate n zs).flatten[j]?=zs[j % zs.length]?
 | 0,j,h=>by simp at h
 | n + 1,j,h=>by
  simp only [List.replicate_succ,List.flatten_cons,List.getElem?_append]
  split
  ·rename_i h1;rw [Nat.mod_eq_of_lt h1]
  ·rename_i h1
   rw [xFh zs hz n (j - zs.length) (by rw [Nat.add_mul] at h;omega)]
   congr 1
   rw [Nat.mod_eq_sub_mod (by omega:zs.length<=j)]
theorem xFV (z:Array Value) (n sz:Nat) (hs:z.size=sz) (h0:0 < sz):((Array.range (n * sz)).map (fun i=>z[i % z.size]!)).toList=(List.replicate n z.toList).flatten:=by
 apply List.ext_getElem?
 intro j
 have hl:z.toList.length=sz:=by simpa using hs
 by_cases h:j < n * sz
 ·rw [xFh z.toList (by omega) n j (by rw [hl];exact h)]
  have hm:j % sz < z.size:=by rw [hs];exact Nat.mod_lt _ h0
  simp only [Array.toList_map,List.getElem?_map,Array.toList_range,List.getElem?_range h,Option.map_some,hs,hl]
  rw [getElem!_pos z _ hm]
  simp [hm]
 ·rw [List.getElem?_eq_none (by simp;omega),List.getElem?_eq_none]
  have:=xAO (es:=List.replicate n z.toList) (sz:=sz) (fun e he=>by rw [List.eq_of_mem_replicate he];exact hl)
  simp at this ⊢;omega
theorem xI1 {α:Type} {n:Nat}:∀(k:Nat) (l:List α),l.length=k * n->(cutL n k l).flatten=l/\(∀e ∈ cutL n k l,e.length=n)/\(cutL n k l).length=k
 | 0,l,h=>by simp at h;subst h;simp [cutL]
 | k + 1,l,h=>by
  rw [Nat.add_mul] at h
  obtain ⟨h1,h2,h3⟩:=xI1 (n:=n) k (l.drop n) (by simp;omega)
  refine ⟨by simp [cutL,h1],?_,by simp [cutL,h3]⟩
  intro e he
  simp only [cutL,List.mem_cons] at he
  rcases he with rfl | he
  ·simp;omega
  ·exact h2 e he
theorem xD1 {sz:Nat} {e:List AV}:okEl sz e=true ↔ e.length=sz/\∀x ∈ e,x.one=true:=by simp [okEl]
section
variable {P:Program} {C:Ctx} {F:AFrame} {a:Act} {o:Oper}
theorem xBc (e:TypeId) (c:Array Value) (w:World):(newRow e c).run P w=.ok ⟨w.heap.size,0,none⟩ (w.alloc (.cells c e (0,0))):=by
 simp [newRow]
theorem xHe (C:Ctx) (id nx:Nat) (ob:Obj) (x:AObj) (sz:Nat):VR (C.madeAt id nx ob x sz) (.pointer (some ⟨C.w.heap.size,0,none⟩)) (.ptr id 0 0):=by
 have:=VR.ptr (C:=C.madeAt id nx ob x sz) id 0 0 ⟨C.w.heap.size,0,sz⟩ (by simp [Ctx.madeAt])
 simpa using this
def DoesAt (P:Program) (C:Ctx) (a:Act) (o:Oper) (y:AV) (S':St) (id nx:Nat):Prop :=
 ∃ v C',(execOp a.eval o).run P C.w=.ok (.value v) C'.w/\C'.S=⟨nx,S'.obj⟩/\Le C C'/\Rel C'/\VR C' v y/\(∀q,q ≠ id->C'.μ q=C.μ q)/\S'.next=id + 1
theorem madeAt_μ (C:Ctx) (id nx:Nat) (ob:Obj) (x:AObj) (sz:Nat):∀q,q ≠ id->(C.madeAt id nx ob x sz).μ q=C.μ q:=fun q h=>by simp [Ctx.madeAt,h]
theorem DoesAt.m {P:Program} {C:Ctx} {a:Act} {o:Oper} {y:AV} {S':St} (h:DoesAt P C a o y S' C.S.next (C.S.next + 1)):DoesM P C a o y S':=by
 obtain ⟨v,C',h1,h2,h3,h4,h5,_,h6⟩:=h
 exact ⟨_,v,C',h1,.inl rfl,by rw [h2,<- h6],h3,h4,h5⟩
theorem xQv {id nx:Nat} (hR:Rel C) (hf:Fits C id nx) (hF:FrameOK C F a) {t:TypeId} {x:Operand} (ho:o.op=.box t x) {vx:VX} (hx:cx x=some vx) {y:AV} {S':St} (hy:sk .box [vx.eval F] ⟨id,C.S.obj⟩=some (y,S')):DoesAt P C a o y S' id nx:=by
 have h1:=xAf hF hx
 simp only [sk] at hy
 split at hy
 ·rename_i hn
  simp only [xoI,Prod.mk.injEq] at hy
  obtain ⟨rfl,rfl⟩:=hy
  have hc:=h1.cells
  refine ⟨_,C.madeAt id nx (.cells (a.eval x).cells t (0,0)) (.row (vx.eval F).cells.length [(vx.eval F).cells]) (vx.eval F).cells.length,?_,rfl,xBD hR hf _ _ _,xBU hR hf _ _ _ (xCq hR hf _ _ _ _ hn (by simp) (by have:=hc.length;simp at this ⊢;omega) (vs:=(a.eval x).cells.toList) (by intro j v hj;simpa using hj) (by simpa using hc)),xHe C _ _ _ _ _,madeAt_μ _ _ _ _ _ _,rfl⟩
  simp only [execOp,ho,Instr.box,newVar,Sem.run_bind,xBc,Result.andThen_ok,Sem.run_pure]
  rfl
 ·cases hy
theorem xCH {t:TypeId} {zc:List AV} (h:zeroC P t=some zc) (C:Ctx):∃ z,zeroT P t=some z/\VRs C z.cells.toList zc:=by
 obtain ⟨z,h1,h2⟩:=xHd h
 exact ⟨z,h1,xBP C h2⟩
theorem xME {id nx:Nat} (hR:Rel C) (hf:Fits C id nx) {t:TypeId} (ho:o.op=.alloc t) {zc:List AV} (hz:zeroC P t=some zc) (hn:0 < zc.length) {y:AV} {S':St} (hy:sk (.alloc zc) [] ⟨id,C.S.obj⟩=some (y,S')):DoesAt P C a o y S' id nx:=by
 obtain ⟨z,h1,hc⟩:=xCH hz C
 simp only [sk,xoI,Prod.mk.injEq] at hy
 obtain ⟨rfl,rfl⟩:=hy
 refine ⟨_,C.madeAt id nx (.cells z.cells t (0,0)) (.row zc.length [zc]) zc.length,?_,rfl,xBD hR hf _ _ _,xBU hR hf _ _ _ (xCq hR hf _ _ _ _ hn (by simp) (by have:=hc.length;simp at this ⊢;omega) (vs:=z.cells.toList) (by intro j v hj;simpa using hj) (by simpa using hc)),xHe C _ _ _ _ _,madeAt_μ _ _ _ _ _ _,rfl⟩
 simp only [execOp,ho,Instr.alloc,newVar,Sem.run_bind,xAJ h1,xBc,Result.andThen_ok,Sem.run_pure]
 rfl
theorem xFW {C:Ctx} (id nx:Nat) (c:Array Value) (e:TypeId) (x:AObj) (sz len cap:Nat) (hcap:len<=cap) (hm:cap * sz<=c.size):VR (C.madeAt id nx (.cells c e (0,0)) x sz) (.slice (some ⟨C.w.heap.size,0,none⟩) len cap) (.sl sz id 0 len):=by
 have:=VR.sl (C:=C.madeAt id nx (.cells c e (0,0)) x sz) sz id 0 len cap ⟨C.w.heap.size,0,sz⟩ c e (0,0) (by simp [Ctx.madeAt]) rfl (by
  show (C.w.heap.push _)[C.w.heap.size]?=_
  simp) (by simpa using hm) hcap
 simpa using this
theorem xN4 {C:Ctx} (h:Rel C) (c:Array Value) (e:TypeId) (x:AObj) (sz len cap:Nat) (hcap:len<=cap) (hm:cap * sz<=c.size):VR (C.made (.cells c e (0,0)) x sz) (.slice (some ⟨C.w.heap.size,0,none⟩) len cap) (.sl sz C.S.next 0 len):=xFW _ _ c e x sz len cap hcap hm
theorem xFX {id nx:Nat} (hR:Rel C) (hf:Fits C id nx) (hF:FrameOK C F a) {t e:TypeId} {len:Nat} {parts:Array (Nat × Operand)} (ho:o.op=.buildSlice t len parts) (ht:P.underlying t=some (.slice e)) {zc:List AV} (hz:zeroC P e=some zc)
  {sz:Nat} (hs:sizeT P e=some sz) (h0:0 < sz) (hlim:len * sz<=16777216) (hzl:zc.length=sz) {xs:List VX} (hxs:mapOpt (fun p:Nat × Operand=>cx p.2) parts.toList=some xs) {y:AV} {S':St}
  (hy:sk (.buildSlice zc sz len (parts.toList.map (·.1))) (xs.map (VX.eval F)) ⟨id,C.S.obj⟩=some (y,S')):DoesAt P C a o y S' id nx:=by
 obtain ⟨z,h1,hc⟩:=xCH hz C
 simp only [sk] at hy
 split at hy
 ·rename_i hl
  simp only [Option.map_eq_some_iff,Prod.mk.injEq] at hy
  obtain ⟨cells,hfill,rfl,rfl⟩:=hy
  have hzs:z.cells.size=sz:=by have:=hc.length;simp at this;omega
  have hxs':mapOpt cx (parts.toList.map (·.2))=some xs:=by rw [xDk];exact hxs
  have hv:=xAI hF hxs'
  rw [List.map_map] at hv
  have hpl:mapOpt (fun i=>some (i * sz,sz)) (parts.toList.map (·.1))=some ((parts.toList.map (·.1)).map fun i=>(i * sz,sz)):=by
   generalize parts.toList.map (·.1)=l
   induction l with
   | nil=>rfl
   | cons i l ih=>simp [mapOpt,ih]
  have hbase:VRs C ((Array.range (len * sz)).map (fun i=>z.cells[i % z.cells.size]!)).toList (List.replicate len zc).flatten:=by
   rw [xFV z.cells len sz hzs h0]
   exact hc.replicate len
  obtain ⟨out,ho1,ho2⟩:=xED hpl hv hl hbase hfill
  have hol:cells.length=len * sz:=by
   have h1:=ho2.length
   have:∀{ps:List ((Nat × Nat) × AV)} {c c':List AV},fillV c ps=some c'->c'.length=c.length:=by
    intro ps
    induction ps with
    | nil=>intro c c' h;simp [fillV] at h;rw [<- h]
    | cons p ps ih =>
     intro c c' h
     obtain ⟨⟨p1,p2⟩,v⟩:=p
     simp only [fillV] at h
     split at h
     ·cases h
     ·rw [ih h,xDL]
   rw [this hfill,xAO (sz:=sz) (fun e he=>by rw [List.eq_of_mem_replicate he];exact hzl)]
   simp
  have hos:out.size=len * sz:=by have:=ho2.length;simp at this;omega
  obtain ⟨k1,k2,k3⟩:=xI1 (n:=sz) len cells hol
  refine ⟨_,C.madeAt id nx (.cells out e (0,0)) (.row sz (cutL sz len cells)) sz,?_,rfl,xBD hR hf _ _ _,xBU hR hf _ _ _ (xCq hR hf _ _ _ _ h0 k2 (by rw [k3,hos];exact Nat.le_refl _) (vs:=out.toList) (by intro j v hj;simpa using hj) (by rw [k1];exact ho2)),xFW _ _ out e _ sz len len (Nat.le_refl _) (by rw [hos];exact Nat.le_refl _),madeAt_μ _ _ _ _ _ _,rfl⟩
  have hnl:¬ (len * sz > 2 ^ 24):=by omega
  have hparts:(parts.map fun p=>(p.1,a.eval p.2)).toList=(parts.toList.map (·.1)).zip (parts.toList.map fun p=>a.eval p.2):=by
   simp only [Array.toList_map];exact xIZ parts.toList a.eval
  have hrun:(Instr.buildSlice t len (parts.map fun p=>(p.1,a.eval p.2))).run P C.w=.ok (.slice (some ⟨C.w.heap.size,0,none⟩) len len) (C.w.alloc (.cells out e (0,0))):=by
   simp only [Instr.buildSlice,Sem.run_bind,xAb ht,Result.andThen_ok,xAp hs,hnl,if_false,Sem.run_pure]
   have hfillrun:Instr.fill (fun i=>some (i * sz,sz)) ((Array.range (len * sz)).map (fun i=>z.cells[i % z.cells.size]!)) (parts.map fun p=>(p.1,a.eval p.2)).toList=some out:=by rw [hparts];exact ho1
   by_cases hl0:len * sz=0
   ·rw [if_pos hl0]
    simp only [hl0] at hfillrun ⊢
    have e1:∀f g:Nat->Value,(Array.range 0).map f=(Array.range 0).map g:=fun f g=>by simp
    simp only [Sem.run_bind,Sem.run_pure,Result.andThen_ok]
    rw [e1 _ (fun i=>z.cells[i % z.cells.size]!),hfillrun]
    simp [xBc]
   ·simp only [hl0,if_false,Sem.run_bind,xAJ h1,Result.andThen_ok,Sem.run_pure]
    rw [hfillrun]
    simp [xBc]
  simp only [execOp,ho,Sem.run_bind,hrun,Result.andThen_ok,Sem.run_pure]
  rfl
 ·cases hy
theorem xBQ {t:TypeId} {g:Bool} {sz b q off:Nat} {us:List Value} {cells:List AV} {y:AV} (hg:aggT P t=some g) (hs:sizeT P t=some sz) (hc:Cells C.w b q us) (hv:VRs C us cells) (hy:partV g cells off sz=some y) :
  ∃ v,(loadVar t ⟨b,q + off,none⟩).run P C.w=.ok v C.w/\VR C v y:=by
 simp only [loadVar,Sem.run_bind,xIW hg,Result.andThen_ok]
 unfold partV at hy
 cases g
 ·simp only [Bool.false_eq_true,if_false] at hy ⊢
  obtain ⟨v,h1,h2⟩:=hv.get hy
  exact ⟨v,by simp [hc off v h1],h2⟩
 ·simp only [if_true] at hy ⊢
  split at hy
  ·rename_i hle
   simp only [xoI] at hy;subst hy
   have hlen:((us.drop off).take sz).length=sz:=by have:=hv.length;simp;omega
   have hr:=run_loadCells_list (P:=P) C.w ⟨b,q + off,none⟩ ((us.drop off).take sz) (fun j v hj=>by rw [xBv];exact ((hc.drop off).take sz) j v hj)
   rw [hlen] at hr
   exact ⟨.agg ((us.drop off).take sz).toArray,by simp only [Sem.run_bind,xAp hs,Result.andThen_ok,hr,Sem.run_pure],.agg _ _ ((hv.drop off).take sz)⟩
  ·cases hy
theorem xBy (hR:Rel C) {p sz i:Nat} {es:List (List AV)} {e:List AV} (ho:C.S.obj p=some (.row sz es)) (hi:es[i]?=some e) :
  ∃ l c ty vs,C.μ p=some l/\l.sz=sz/\0 < sz/\C.w.heap[l.blk]?=some (.cells c ty (0,0))/\l.off + es.length * sz<=c.size/\(∀x ∈ es,x.length=sz)/\(∀(j:Nat) v,vs[j]?=some v->c[l.off + j]?=some v)/\VRs C vs es.flatten /\
   Cells C.w l.blk (l.off + i * sz) ((vs.drop (i * sz)).take sz)/\VRs C ((vs.drop (i * sz)).take sz) e/\e.length=sz/\i < es.length:=by
 have:=hR.obj p _ ho
 rcases this with ⟨h1,_⟩ | ⟨l,c,ty,vs,h1,h2,h3,h4,h5,h6,h7,h8⟩
 ·rw [h1] at hi;simp at hi
 ·obtain ⟨hlt,he⟩:=xgS hi
  refine ⟨l,c,ty,vs,h1,h2,h3,h4,h5,h6,h7,h8,?_,?_,h6 e (by rw [<- he];exact List.getElem_mem hlt),hlt⟩
  ·have:Cells C.w l.blk l.off vs:=by
    intro j v hj
    rw [cell_of_row C.w l.blk _ c ty (0,0) h4]
    exact h7 j v hj
   exact (this.drop _).take _
  ·have:=(h8.drop (i * sz)).take sz
   rwa [xHR h6 hi] at this
theorem xN5 (hR:Rel C) (hF:FrameOK C F a) {t:TypeId} {x:Operand} (ho:o.op=.load t x) {sz:Nat} (hs:sizeT P t=some sz) {g:Bool} (hg:aggT P t=some g) {vx:VX} (hx:cx x=some vx) {y:AV} {S':St}
  (hy:sk (.load g sz) [vx.eval F] C.S=some (y,S')):Does P C a o y/\S'=C.S:=by
 have h1:=xAf hF hx
 have fin:∀b q,a.eval x=.pointer (some ⟨b,q,none⟩)->(∃ v,(loadVar t ⟨b,q,none⟩).run P C.w=.ok v C.w/\VR C v y)->Does P C a o y/\C.S=C.S:=by
  rintro b q hq ⟨v,hv,hvy⟩
  exact ⟨⟨v,by simp only [execOp,ho,hq,Instr.loadAt,Instr.sureAddr,Sem.run_bind,Sem.run_pure,Result.andThen_ok,hv],hvy⟩,rfl⟩
 simp only [sk] at hy
 split at hy
 ·rename_i p i off e
  simp only [List.cons.injEq,and_true] at e
  rw [e] at h1
  split at hy
  ·rename_i sz' es hobj
   split at hy
   ·rename_i el hel
    simp only [Option.map_eq_some_iff,Prod.mk.injEq] at hy
    obtain ⟨y',hy',rfl,rfl⟩:=hy
    obtain ⟨l,c,ty,vs,k1,k2,k3,k4,k5,k6,k7,k8,k9,k10,k11,k12⟩:=xBy hR hobj hel
    generalize hv:a.eval x=v at h1
    cases h1
    rename_i l' hl'
    rw [k1] at hl';cases hl'
    rw [k2] at hv
    exact fin _ _ hv (xBQ hg hs k9 k10 hy')
   ·cases hy
  ·cases hy
 ·rename_i cs off e
  simp only [List.cons.injEq,and_true] at e
  rw [e] at h1
  simp only [Option.map_eq_some_iff,Prod.mk.injEq] at hy
  obtain ⟨y',hy',rfl,rfl⟩:=hy
  generalize hv:a.eval x=v at h1
  cases h1
  rename_i b q vs hc hb hl hvs hso
  exact fin _ _ hv (xBQ hg hs hc hvs hy')
 ·cases hy
theorem xDB (hR:Rel C) {p i off:Nat} {xs:List AV} {us:List Value} (hv:VRs C us xs) (hone:∀x ∈ xs,x.one=true) {S':St} (hs:setCells C.S p i off xs=some S') {l:Loc} (hl:C.μ p=some l) :
  ∃ C',(storeCells ⟨l.blk,l.off + i * l.sz + off,none⟩ us).run P C.w=.ok () C'.w/\C'.S=S'/\Le C C'/\Rel C':=by
 unfold setCells at hs
 split at hs
 ·rename_i sz es hobj
  split at hs
  ·rename_i e hel
   split at hs
   ·rename_i hle
    simp only [xoI] at hs;subst hs
    obtain ⟨l',c,ty,vs,k1,k2,k3,k4,k5,k6,k7,k8,k9,k10,k11,k12⟩:=xBy hR hobj hel
    rw [hl] at k1;cases k1
    have hfl:=xAO k6
    have hul:=hv.length
    have hvl:=k8.length
    have hmul:i * sz + sz<=es.length * sz:=by rw [<- Nat.succ_mul];exact Nat.mul_le_mul_right _ k12
    have hrun:=xBx (P:=P) us (l.off + i * l.sz + off) 0 C.w c k4 (by rw [k2];omega) (hv.oneCell hone)
    simp only [Nat.add_zero] at hrun
    have hL:=xCa hR hobj hl k4 (.cells (wr c (l.off + i * l.sz + off) us) ty (0,0)) (by intro c1 e1 f1 h;cases h;exact ⟨_,_,rfl,xC2 _ _ _⟩) (.row sz (es.set i (over e off xs)))
    refine ⟨C.wrote p l.blk (.cells (wr c (l.off + i * l.sz + off) us) ty (0,0)) (.row sz (es.set i (over e off xs))),hrun,rfl,hL,xBF hR hobj hl hL ?_⟩
    refine .inr ⟨l,wr c (l.off + i * l.sz + off) us,ty,vs.take (i * sz + off) ++ us ++ vs.drop (i * sz + off + us.length),hl,k2,k3,xAm _ (Array.getElem?_eq_some_iff.1 k4).1,by rw [xC2];simpa using k5,?_,?_,?_⟩
    ·intro x hx
     rcases List.mem_or_eq_of_mem_set hx with hx | rfl
     ·exact k6 x hx
     ·rw [xDL];exact k11
    ·rw [show l.off + i * l.sz + off=l.off + (i * sz + off) by rw [k2];omega]
     exact xN3 k7 (by omega) (by omega)
    ·have hfs:=xLB k6 hel (e':=over e off xs) (by rw [xDL];exact k11)
     have he:e=(es.flatten.drop (i * sz)).take sz:=(xHR k6 hel).symm
     have hfin:es.flatten.take (i * sz) ++ (e.take off ++ xs ++ e.drop (off + xs.length)) ++ es.flatten.drop (i * sz + sz)=es.flatten.take (i * sz + off) ++ xs ++ es.flatten.drop (i * sz + off + xs.length):=by
      have e1:es.flatten.take (i * sz) ++ e.take off=es.flatten.take (i * sz + off):=by
       rw [he,List.take_take,Nat.min_eq_left (by omega),List.take_add]
      have e2:e.drop (off + xs.length) ++ es.flatten.drop (i * sz + sz)=es.flatten.drop (i * sz + off + xs.length):=by
       rw [he]
       rw [List.drop_take,List.drop_drop]
       have:=List.take_append_drop (sz - (off + xs.length)) (es.flatten.drop (i * sz + (off + xs.length)))
       rw [List.drop_drop] at this
       rw [show i * sz + off + xs.length=i * sz + (off + xs.length) by omega,<- this]
       congr 2
       omega
      rw [<- e1,<- e2]
      simp [List.append_assoc]
     have hflat:(es.set i (over e off xs)).flatten=es.flatten.take (i * sz + off) ++ xs ++ es.flatten.drop (i * sz + off + us.length):=by
      rw [hfs,xN2 xs e off hle,hul];exact hfin
     rw [hflat]
     have hm:∀{vs xs},VRs C vs xs->VRs _ vs xs:=fun h=>h.mono hL
     exact ((hm (k8.take _)).append (hm hv)).append (hm (k8.drop _))
   ·cases hs
  ·cases hs
 ·cases hs
theorem xMF (hR:Rel C) (hF:FrameOK C F a) {t:TypeId} {x y:Operand} (ho:o.op=.store t x y) {sz:Nat} (hs:sizeT P t=some sz) {vx vy:VX} (hx:cx x=some vx) (hy:cx y=some vy) {z:AV} {S':St}
  (hz:sk (.store sz) [vx.eval F,vy.eval F] C.S=some (z,S')):DoesM P C a o z S':=by
 have h1:=xAf hF hx
 have h2:=xAf hF hy
 simp only [sk] at hz
 split at hz
 ·rename_i p i off xv e
  simp only [List.cons.injEq,and_true] at e
  obtain ⟨e1,e2⟩:=e
  rw [e1] at h1;rw [e2] at h2
  split at hz
  ·rename_i hok
   rw [xD1] at hok
   simp only [Option.map_eq_some_iff,Prod.mk.injEq] at hz
   obtain ⟨S1,hset,rfl,rfl⟩:=hz
   generalize hv:a.eval x=v at h1
   cases h1
   rename_i l hl
   have hc:=h2.cells
   obtain ⟨C',k1,k2,k3,k4⟩:=xDB (P:=P) hR hc hok.2 hset hl
   refine ⟨.skip,undef,C',?_,.inr ⟨rfl,rfl⟩,k2,k3,k4,.tuple [] [] .nil⟩
   have hsz:(a.eval y).cells.size=sz:=by have:=hc.length;simp at this;omega
   simp only [execOp,ho,hv,Instr.storeAt,Instr.sureAddr,storeVar,Sem.run_bind,Sem.run_pure,Result.andThen_ok,xAp hs,hsz,ne_eq,not_true_eq_false,if_false,k1]
  ·cases hz
 ·cases hz
end
theorem xCb {S:St} {sz o off len:Nat} {ys:List (List AV)} (h:elems S (.sl sz o off len)=some ys):(∃ es,S.obj o=some (.row sz es)/\off + len<=es.length/\ys=(es.drop off).take len) \/ (len=0/\ys=[]):=by
 simp only [elems] at h
 split at h
 ·rename_i h0;simp only [xoI] at h;exact .inr ⟨h0,h.symm⟩
 ·split at h
  ·rename_i sz' es ho
   split at h
   ·rename_i hc;simp only [xoI] at h;obtain ⟨rfl,hc⟩:=hc;exact .inl ⟨es,ho,hc,h.symm⟩
   ·cases h
  ·cases h
section
variable {P:Program} {C:Ctx} {F:AFrame} {a:Act} {o:Oper}
theorem xC3 (sz:Nat) (ad:Option Addr) (n c:Nat) (w:World):(Builtin.firstCells sz 0 (.slice ad n c)).run P w=.ok #[] w:=by
 cases ad <;> simp [Builtin.firstCells,loadCells,loadCellsFrom]
theorem xFY {sz b q n c:Nat} {w:World} {vs:List Value} (hc:Cells w b q vs) (hl:vs.length=n * sz) (m:Nat):(Builtin.firstCells sz n (.slice (some ⟨b,q,none⟩) m c)).run P w=.ok vs.toArray w:=by
 simp only [Builtin.firstCells,<- hl]
 exact run_loadCells_list w _ vs (fun j v hj=>by rw [xBv];exact hc j v hj)
theorem xB1 {sz b q n c:Nat} {w:World} {vs:List Value} (hc:Cells w b q vs) (hl:n * sz<=vs.length) (m:Nat):(Builtin.firstCells sz n (.slice (some ⟨b,q,none⟩) m c)).run P w=.ok (vs.take (n * sz)).toArray w :=
 xFY (hc.take (n * sz)) (by simp;omega) m
theorem xFZ (hR:Rel C) {v:Value} {x:AV} {ys:List (List AV)} {sz:Nat} (hv:VR C v x) (he:elems C.S x=some ys) (hsz:∀e ∈ ys,e.length=sz) :
  ∃ ad cap us,v=.slice ad ys.length cap/\(∀n≤ys.length,(Builtin.firstCells sz n v).run P C.w=.ok ((us:List Value).take (n * sz)).toArray C.w)/\VRs C us ys.flatten:=by
 have zero:∀ad cap,v=.slice ad 0 cap->ys=[]->∃ ad cap us,v=.slice ad ys.length cap/\(∀n≤ys.length,(Builtin.firstCells sz n v).run P C.w=.ok ((us:List Value).take (n * sz)).toArray C.w)/\VRs C us ys.flatten:=by
  rintro ad cap rfl rfl
  refine ⟨ad,cap,[],rfl,fun n hn=>?_,.nil⟩
  have:n=0:=by simpa using hn
  subst this
  simpa using xC3 (P:=P) sz ad 0 cap C.w
 cases hv with
 | nilsl ad=>simp [elems] at he;exact zero _ _ rfl he
 | fsl b q cap sz' vs es hc hes hvs hso hb hl hcap =>
  simp only [elems,xoI] at he;subst he
  exact ⟨_,_,vs,rfl,fun n hn=>xB1 hc (by rw [hvs.length,xAO hsz];exact Nat.mul_le_mul_right _ hn) _,hvs⟩
 | fnil ad cap sz'=>simp [elems] at he;exact zero _ _ rfl he
 | sl sz' p off len cap l c e f hl hz hh hm hcap =>
  rcases xCb he with ⟨es,h1,h2,rfl⟩ | ⟨rfl,rfl⟩
  ·by_cases hlen:len=0
   ·subst hlen;exact zero _ _ rfl (by simp)
   ·have hlt:off < es.length:=by omega
    obtain ⟨l',c',ty,vs,k1,k2,k3,k4,k5,k6,k7,k8,_⟩:=xBy hR h1 (xgG hlt)
    rw [hl] at k1;cases k1
    have hlen':((es.drop off).take len).length=len:=by simp;omega
    have hss:sz'=sz:=by
     have h0:0 < ((es.drop off).take len).length:=by omega
     have m:=List.getElem_mem h0
     rw [<- hsz _ m,k6 _ (List.mem_of_mem_drop (List.mem_of_mem_take m))]
    subst hss
    have hall:Cells C.w l.blk l.off vs:=by
     intro j v hj
     rw [cell_of_row C.w l.blk _ c' ty (0,0) k4]
     exact k7 j v hj
    have hrel:VRs C ((vs.drop (off * sz')).take (len * sz')) ((es.drop off).take len).flatten:=by
     rw [xBi _ (fun x hx=>k6 x (List.mem_of_mem_drop hx)),xBE _ k6]
     exact (k8.drop _).take _
    refine ⟨_,cap,(vs.drop (off * sz')).take (len * sz'),by rw [hlen'],fun n hn=>?_,hrel⟩
    refine xB1 ((hall.drop _).take _) ?_ _
    rw [hrel.length,xAO hsz];exact Nat.mul_le_mul_right _ hn
  ·exact zero _ _ rfl rfl
 | slnil ad sz' p off =>
  rcases xCb he with ⟨es,h1,h2,rfl⟩ | ⟨_,rfl⟩
  ·exact zero _ _ rfl (by simp)
  ·exact zero _ _ rfl rfl
 | asl sz' p i off len cap l hl hcap =>
  simp only [elems] at he
  split at he
  ·rename_i sz'' es hobj
   split at he
   ·rename_i e hel
    split at he
    ·rename_i hle
     simp only [xoI] at he;subst he
     obtain ⟨l',c',ty,vs,k1,k2,k3,k4,k5,k6,k7,k8,k9,k10,k11,k12⟩:=xBy hR hobj hel
     rw [hl] at k1;cases k1
     subst k2
     by_cases hlen:len=0
     ·subst hlen;exact zero _ _ rfl (by simp [cutL])
     ·have hflat:∀(k:Nat) (m:List AV),k * sz'<=m.length->(cutL sz' k m).flatten=m.take (k * sz')/\(cutL sz' k m).length=k/\∀e ∈ cutL sz' k m,e.length=sz':=by
       intro k
       induction k with
       | zero=>intro m _;simp [cutL]
       | succ k ih =>
        intro m hm
        rw [Nat.add_mul] at hm
        obtain ⟨i1,i2,i3⟩:=ih (m.drop sz') (by simp;omega)
        refine ⟨?_,by simp [cutL,i2],?_⟩
        ·simp only [cutL,List.flatten_cons,i1]
         rw [Nat.add_mul,Nat.one_mul,Nat.add_comm (k * sz') sz',List.take_add]
        ·intro e he
         simp only [cutL,List.mem_cons] at he
         rcases he with rfl | he
         ·simp;omega
         ·exact i3 e he
      obtain ⟨f1,f2,f3⟩:=hflat len (e.drop off) (by simp;omega)
      have hss:sz'=sz:=by
       have h0:0 < (cutL sz' len (e.drop off)).length:=by omega
       have m:=List.getElem_mem h0
       rw [<- hsz _ m,f3 _ m]
      subst hss
      have hrel:=(k10.drop off).take (len * sz')
      rw [<- f1] at hrel
      refine ⟨_,cap,_,by rw [f2],fun n hn=>?_,hrel⟩
      refine xB1 ((k9.drop off).take (len * sz')) ?_ _
      rw [hrel.length,xAO hsz];exact Nat.mul_le_mul_right _ hn
    ·cases he
   ·cases he
  ·cases he
 | aslnil ad cap sz' p i off =>
  simp only [elems] at he
  split at he
  ·split at he
   ·split at he
    ·simp only [xoI,Nat.zero_mul] at he;exact zero _ _ rfl (by rw [<- he];rfl)
    ·cases he
   ·cases he
  ·cases he
 | _=>simp [elems] at he
theorem xD2 (hR:Rel C) {v:Value} {x:AV} {ys:List (List AV)} {sz:Nat} (hv:VR C v x) (he:elems C.S x=some ys) (hsz:∀e ∈ ys,e.length=sz) :
  ∃ ad cap us,v=.slice ad ys.length cap/\(Builtin.firstCells sz ys.length v).run P C.w=.ok (us:List Value).toArray C.w/\VRs C us ys.flatten:=by
 obtain ⟨ad,cap,us,h1,h2,h3⟩:=xFZ (P:=P) hR hv he hsz
 have:=h2 ys.length (Nat.le_refl _)
 rw [List.take_of_length_le (by rw [h3.length,xAO hsz];exact Nat.le_refl _)] at this
 exact ⟨ad,cap,us,h1,this,h3⟩
theorem xB2 (ad:Option Addr) (n c:Nat) (w:World):(Builtin.lenOf (.slice ad n c)).run P w=.ok n w:=by simp [Builtin.lenOf]
theorem xF0 {t u e e':TypeId} {i:TypeInfo} (ht:P.underlying t=some (.slice e)) (hu:P.underlying u=some (.slice e')) (hi:P.info? e=some i)
  {n sCap:Nat} {ad:Option Addr} {m c:Nat} {us:List Value} {w w':World} (ty:TypeId) (hus:(Builtin.firstCells i.size m (.slice ad m c)).run P w=.ok us.toArray w)
  (hfit:n + m<=sCap) {b q:Nat} (hst:(storeCells ⟨b,q + n * i.size,none⟩ us).run P w=.ok () w'):(Builtin.append_ #[t,u] ty #[.slice (some ⟨b,q,none⟩) n sCap,.slice ad m c]).run P w=.ok (.slice (some ⟨b,q,none⟩) (n + m) sCap) w':=by
 have hsz:sizeT P e=some i.size:=by simp [sizeT,hi]
 simp [Builtin.append_,xAb ht,xAb hu,xAp hsz,xB2,hfit,hus,xBv,hst]
theorem xCU {t u e e':TypeId} {i:TypeInfo} {z:Value} (ht:P.underlying t=some (.slice e)) (hu:P.underlying u=some (.slice e')) (hi:P.info? e=some i) (hz:i.zero=some z) (hb:0 < i.bytes) (hb2:i.bytes<=512)
  {base:Option Addr} {n sCap:Nat} {ad:Option Addr} {m c:Nat} {us olds:List Value} {w:World} (ty:TypeId) (hcap:n<=sCap) (hroom:n + m<=room) (hfit:¬ n + m<=sCap)
  (hus:(Builtin.firstCells i.size m (.slice ad m c)).run P w.drew=.ok us.toArray w.drew) (hold:(Builtin.firstCells i.size n (.slice base n sCap)).run P w.drew=.ok olds.toArray w.drew) :
   ∃ (rest:Array Value) (k:Nat),n + m<=k/\rest.size=(k - (n + m)) * z.cells.size/\(Builtin.append_ #[t,u] ty #[.slice base n sCap,.slice ad m c]).run P w=.ok (.slice (some ⟨w.heap.size,0,none⟩) (n + m) k) (w.drew.alloc (.cells (olds.toArray ++ us.toArray ++ rest) e (0,0))):=by
 have hsz:sizeT P e=some i.size:=by simp [sizeT,hi]
 have hzt:zeroT P e=some z:=by simp [zeroT,hi,hz]
 have hcap':Builtin.nextslicecap (n + m) sCap<=2 * (n + m):=nextslicecap_le (by omega)
 have hnot:¬ (Builtin.nextslicecap (n + m) sCap * i.bytes > 2 ^ 48):=by
  have h1:Builtin.nextslicecap (n + m) sCap * i.bytes<=2 * (n + m) * 512:=Nat.mul_le_mul hcap' hb2
  unfold room at hroom;omega
 have hne:¬ (i.bytes=0):=by omega
 refine ⟨Builtin.zeroCells z.cells ((Question.cut (.appendCap (n + m) sCap e) (w.tape w.drawn (.appendCap (n + m) sCap e))) - (n + m)),Question.cut (.appendCap (n + m) sCap e) (w.tape w.drawn (.appendCap (n + m) sCap e)),by simp [Question.cut],by simp [Builtin.zeroCells],?_⟩
 simp [Builtin.append_,xAb ht,xAb hu,xAp hsz,xB2,hfit,xAW hi,hne,hnot,Question.forced,xAJ hzt,xBc,hold,hus]
 congr 2
 apply Array.ext'
 simp
theorem xFi {v:Value} {x:AV} (h:VR C v x) (hl:(lenV x).isSome=true):∃ base n cap,v=.slice base n cap/\n<=cap:=by
 cases h <;> simp [lenV] at hl <;> first | exact ⟨_,_,_,rfl,by assumption⟩ | exact ⟨_,_,_,rfl,Nat.zero_le _⟩
theorem xKC (hR:Rel C) (hF:FrameOK C F a) {c:Call} {t u e e':TypeId} {i:TypeInfo} {z:Value} {x y:Operand} (ho:o.op=.call c) (hc:c.callee=.builtin .append) (hx':c.args.toList=[x,y]) (ht':c.argTypes.toList=[t,u])
  (ht:P.underlying t=some (.slice e)) (hu:P.underlying u=some (.slice e')) (hi:P.info? e=some i) (hz:i.zero=some z) (hs0:0 < i.size) (hb:0 < i.bytes) (hb2:i.bytes<=512) (hzc:z.cells.size=i.size)
  {vx vy:VX} (hx:cx x=some vx) (hy:cx y=some vy) {r:AV} {S':St} (hr:sk (.append i.size i.bytes) [vx.eval F,vy.eval F] C.S=some (r,S')):DoesM P C a o r S':=by
 have h1:=xAf hF hx
 have h2:=xAf hF hy
 have hat:c.argTypes=#[t,u]:=by apply Array.ext';simpa using ht'
 have fin:∀v C',(Builtin.append_ #[t,u] o.type #[a.eval x,a.eval y]).run P C.w=.ok v C'.w->C'.S=S'->Le C C'->Rel C'->VR C' v r->DoesM P C a o r S':=by
  intro v C' hrun k1 k2 k3 k4
  refine ⟨_,v,C',xAA c .append hc ho C.w ?_,.inl rfl,k1,k2,k3,k4⟩
  rw [xLx hx',hat]
  simp [builtin,hrun]
 have hsz:sizeT P e=some i.size:=by simp [sizeT,hi]
 simp only [sk] at hr
 split at hr
 ·rename_i ys hys
  split at hr
  ·rename_i h0
   split at hr
   ·rename_i hlen
    simp only [xoI,Prod.mk.injEq] at hr
    obtain ⟨rfl,rfl⟩:=hr
    have hy0:ys=[]:=List.length_eq_zero_iff.1 h0
    subst hy0
    obtain ⟨ad,cp,us,k1,k2,k3⟩:=xD2 (P:=P) (sz:=i.size) hR h2 hys (by simp)
    cases k3
    obtain ⟨base,n,cp',hv,hle⟩:=xFi h1 hlen
    refine fin (a.eval x) C ?_ rfl (Le.refl C) hR h1
    rw [hv,k1]
    rw [k1] at k2
    simp only [List.length_nil] at k2 ⊢
    cases base <;> simp [Builtin.append_,xAb ht,xAb hu,xAp hsz,xB2,hle,k2,storeCells]
   ·cases hr
  ·split at hr
   ·cases hr
   ·rename_i h0 hcond
    simp only [not_or,Decidable.not_not,gt_iff_lt,Nat.not_lt] at hcond
    obtain ⟨hroom1,hall⟩:=hcond
    have hall':∀e ∈ ys,e.length=i.size/\∀x ∈ e,x.one=true:=fun e he=>xD1.1 (List.all_eq_true.1 hall e he)
    have hall1:∀e ∈ ys,e.length=i.size:=fun e he=>(hall' e he).1
    have hone:∀x ∈ ys.flatten,x.one=true:=by
     intro x hx
     obtain ⟨l,hl,hxl⟩:=List.mem_flatten.1 hx
     exact (hall' l hl).2 x hxl
    have hRd:=xLA hR
    have hLd:=xNZ C
    obtain ⟨ad,cp,us,k1,k2,k3⟩:=xD2 (P:=P) (sz:=i.size) hR h2 hys hall1
    obtain ⟨ad',cp',us',k1',k2',k3'⟩:=xD2 (P:=P) (sz:=i.size) hRd (h2.mono hLd) hys hall1
    rw [k1] at k1';cases k1'
    rw [k1] at k2 k2'
    split at hr
    ·
     rename_i hX
     simp only [xoI,Prod.mk.injEq] at hr
     obtain ⟨rfl,rfl⟩:=hr
     rw [hX] at h1
     generalize hv:a.eval x=v at h1
     cases h1
     rename_i base
     obtain ⟨rest,k,g1,g2,g3⟩:=xCU (n:=0) (sCap:=0) (base:=base) (olds:=[]) ht hu hi hz hb hb2 (w:=C.w) o.type (Nat.le_refl 0) (by omega) (by omega) k2' (xC3 _ _ _ _ _)
     rw [Nat.zero_add] at g1 g2 g3
     have hsl:=xN4 hRd (#[] ++ us'.toArray ++ rest) e (.row i.size ys) i.size ys.length k g1 (by
      have:=k3'.length
      rw [xAO hall1] at this
      simp [g2,this,hzc,<- Nat.add_mul];rw [show ys.length + (k - ys.length)=k by omega];exact Nat.le_refl _)
     refine fin _ (C.drew.made (.cells (#[] ++ us'.toArray ++ rest) e (0,0)) (.row i.size ys) i.size) ?_ rfl (hLd.trans (xKs hRd _ _ _)) (xFF hRd _ _ _ (xHQ hRd _ _ _ _ hs0 hall1 ?_ (vs:=us') ?_ k3')) hsl
     ·rw [hv,k1];exact g3
     ·have:=k3'.length
      rw [xAO hall1] at this
      simp [this]
     ·intro j v hj
      obtain ⟨hlt,_⟩:=xgS hj
      rw [Array.getElem?_append_left (by simpa using hlt),Array.getElem?_append_right (by simp)]
      simpa using hj
    ·
     rename_i sz' p off len hX
     split at hr
     ·rename_i sz'' es hobj
      split at hr
      ·rename_i hcond
       obtain ⟨rfl,rfl,hle,hroom⟩:=hcond
       simp only [xoI,Prod.mk.injEq] at hr
       obtain ⟨rfl,rfl⟩:=hr
       have hxe:elems C.S (.sl i.size p off len)=some ((es.drop off).take len):=by by_cases h0:len=0 <;> simp [elems,hobj,hle,h0]
       have hlen':((es.drop off).take len).length=len:=by simp;omega
       have hes:∀x ∈ es,x.length=i.size:=by
        rcases hR.obj p _ hobj with ⟨rfl,_⟩ | ⟨_,_,_,_,_,_,_,_,_,h6,_,_⟩
        ·simp
        ·exact h6
       have hes':∀x ∈ (es.drop off).take len,x.length=i.size:=fun x hx=>hes x (List.mem_of_mem_drop (List.mem_of_mem_take hx))
       have hnew:∀x ∈ (es.drop off).take len ++ ys,x.length=i.size:=by
        intro x hx
        rcases List.mem_append.1 hx with hx | hx
        ·exact hes' x hx
        ·exact hall1 x hx
       have hnl:((es.drop off).take len ++ ys).length=len + ys.length:=by rw [List.length_append,hlen']
       rw [hX] at h1
       obtain ⟨bx,cx',olds,o1,o2,o3⟩:=xD2 (P:=P) (sz:=i.size) hRd (h1.mono hLd) hxe hes'
       rw [hlen'] at o1 o2
       have hov:olds.length=len * i.size:=by rw [o3.length,xAO hes',hlen']
       have huv:us'.length=ys.length * i.size:=by rw [k3'.length,xAO hall1]
       have hcapx:len<=cx':=by
        rw [o1] at h1
        obtain ⟨b1,n1,c1,e1,e2⟩:=xFi h1 (by simp [lenV])
        cases e1;exact e2
       by_cases hfit:len + ys.length<=cx'
       ·
        have h1':=h1
        rw [o1] at h1'
        cases h1' with
        | slnil _ _ _ _=>omega
        | sl _ _ _ _ _ l cc te ff hl hlz hh hm hcap =>
         have hblk:=hR.obj p _ hobj
         rcases hblk with ⟨_,hno⟩ | ⟨l',c',ty,vs,q1,q2,q3,q4,q5,q6,q7,q8⟩
         ·rw [hl] at hno;cases hno
         ·rw [hl] at q1;cases q1
          rw [q4] at hh;cases hh
          have hmm:l.off + off * i.size + (len * i.size + ys.length * i.size)<=cc.size:=by
           have:(off + (len + ys.length)) * i.size<=(off + cx') * i.size:=Nat.mul_le_mul_right _ (by omega)
           simp only [Nat.add_mul] at this hm;omega
          have hul:us.length=ys.length * i.size:=by rw [k3.length,xAO hall1]
          have hrun:=xBx (P:=P) us (l.off + off * i.size + len * i.size) 0 C.w cc q4 (by omega) (k3.oneCell hone)
          simp only [Nat.add_zero] at hrun
          have hvl:=q8.length
          rw [xAO hes] at hvl
          have hmul2:(off + len) * i.size<=es.length * i.size:=Nat.mul_le_mul_right _ hle
          rw [Nat.add_mul] at hmul2
          let l2:Loc:=⟨l.blk,l.off + off * i.size,i.size⟩
          have hL:=xQu hR hobj hl q4 (.cells (wr cc (l.off + off * i.size + len * i.size) us) te (0,0)) (by intro c1 e1 f1 h;cases h;exact ⟨_,_,rfl,xC2 _ _ _⟩) l2 rfl (.row i.size ((es.drop off).take len ++ ys))
          have hvs2:VRs C ((vs.drop (off * i.size)).take (len * i.size) ++ us) ((es.drop off).take len ++ ys).flatten:=by
           rw [List.flatten_append,xBi _ (fun x hx=>hes x (List.mem_of_mem_drop hx)),xBE _ hes]
           exact ((q8.drop _).take _).append k3
          have hvt:((vs.drop (off * i.size)).take (len * i.size)).length=len * i.size:=by simp;omega
          have hcells:∀(j:Nat) v,((vs.drop (off * i.size)).take (len * i.size) ++ us)[j]?=some v->(wr cc (l.off + off * i.size + len * i.size) us)[l.off + off * i.size + j]?=some v:=by
           intro j v hj
           have hq:∀(j:Nat) v,(vs.drop (off * i.size))[j]?=some v->cc[l.off + off * i.size + j]?=some v:=by
            intro j v hj
            rw [List.getElem?_drop] at hj
            have:=q7 _ _ hj
            rwa [show l.off + (off * i.size + j)=l.off + off * i.size + j by omega] at this
           rw [xN1 _ _ _ _ (by omega)]
           rw [List.getElem?_append,hvt] at hj
           split at hj
           ·rename_i h1
            rw [if_neg (by omega)]
            rw [List.getElem?_take,if_pos h1] at hj
            exact hq _ _ hj
           ·rename_i h1
            obtain ⟨hlt,_⟩:=xgS hj
            rw [if_pos (by omega)]
            rwa [show l.off + off * i.size + j - (l.off + off * i.size + len * i.size)=j - len * i.size by omega]
          have hobjok:ObjOK (C.moved p l.blk (.cells (wr cc (l.off + off * i.size + len * i.size) us) te (0,0)) l2 (.row i.size ((es.drop off).take len ++ ys))) C.S.next (.row i.size ((es.drop off).take len ++ ys)):=by
           refine .inr ⟨l2,_,te,_,by simp [Ctx.moved],rfl,hs0,xAm _ (Array.getElem?_eq_some_iff.1 q4).1,?_,hnew,hcells,hvs2.mono hL⟩
           rw [xC2,hnl,Nat.add_mul];simpa using hmm
          have hvr:=VR.sl (C:=C.moved p l.blk (.cells (wr cc (l.off + off * i.size + len * i.size) us) te (0,0)) l2 (.row i.size ((es.drop off).take len ++ ys))) i.size C.S.next 0 (len + ys.length) cx' l2 (wr cc (l.off + off * i.size + len * i.size) us) te (0,0) (by simp [Ctx.moved]) rfl (xAm _ (Array.getElem?_eq_some_iff.1 q4).1) (by rw [xC2];simp only [l2];simp only [Nat.add_mul] at hm ⊢;omega) hfit
          refine fin _ _ ?_ rfl hL (xN0 (l':=l2) hR hobj hl rfl hL hobjok) (by simpa [l2] using hvr)
          rw [o1,k1]
          exact xF0 ht hu hi o.type k2 hfit hrun
       ·
        rw [o1] at o2
        obtain ⟨rest,k,g1,g2,g3⟩:=xCU (n:=len) (sCap:=cx') (base:=bx) (olds:=olds) ht hu hi hz hb hb2 (w:=C.w) o.type hcapx hroom hfit k2' o2
        have hRx:=xFU hRd p
        have hLx:=hLd.trans (xCs C.drew p)
        have hsize:(olds.toArray ++ us'.toArray ++ rest).size=k * i.size:=by
         simp only [Array.size_append,List.size_toArray,hov,huv,g2,hzc,<- Nat.add_mul]
         congr 1;omega
        have hvs2:VRs (C.drew.dropped p) (olds ++ us') ((es.drop off).take len ++ ys).flatten:=by
         rw [List.flatten_append]
         exact (o3.append k3').mono (xCs _ _)
        have hobjok:=xHQ hRx (olds.toArray ++ us'.toArray ++ rest) e i.size ((es.drop off).take len ++ ys) hs0 hnew (by rw [hnl,hsize];exact Nat.mul_le_mul_right _ g1) (vs:=olds ++ us') (by
         intro j v hj
         obtain ⟨hlt,_⟩:=xgS hj
         rw [Array.getElem?_append_left (by simpa using hlt)]
         simpa using hj) hvs2
        have hsl:=xN4 hRx (olds.toArray ++ us'.toArray ++ rest) e (.row i.size ((es.drop off).take len ++ ys)) i.size (len + ys.length) k g1 (by rw [hsize];exact Nat.le_refl _)
        refine fin _ ((C.drew.dropped p).made (.cells (olds.toArray ++ us'.toArray ++ rest) e (0,0)) (.row i.size ((es.drop off).take len ++ ys)) i.size) ?_ rfl (hLx.trans (xKs hRx _ _ _)) (xFF hRx _ _ _ hobjok) hsl
        rw [o1,k1];exact g3
      ·cases hr
     ·cases hr
    ·cases hr
 ·cases hr
end
end Go.Proofs.YtnhfofmhkfdpgaaGreatDoor.Vm
