/- A part of the proof: Fq Fr Ft Fv Fw Fx Fy Fz La Gb Gc. -/
import Derived.KernelRfl
import Derived.Test.YtnhfofmhkfdpgaaGreatDoorQ20
set_option linter.unusedVariables false
set_option linter.unusedSimpArgs false
set_option linter.constructorNameAsVariable false
namespace Go.Proofs.YtnhfofmhkfdpgaaGreatDoor.Vm
set_option maxRecDepth 100000
open Go Go.RowKit
variable {N:Nat} {g:Glob}
theorem xIi {x:AV} {S:St} {K:AV->St->Prop} (hk:K (.bool false) S):Cal P g 39 [.niliface,x] S K:=by
 refine c39.in (by simp) ?_
 simp [k39]
 exact hk
theorem xIj {oe ot:Nat} {x:AV} {S:St} {K:AV->St->Prop} (hot:S.obj ot=some (.row 1 [[x]])) (hk:K (.bool true) (S.set ot (.row 1 [[.ptr oe 0 0]]))) :
  Cal P (gl N) 39 [.iface 86 (.ptr oe 0 0),.iface 91 (.ptr ot 0 0)] S K:=by
 refine ⟨c39.call,?_⟩
 intro vs C hS hR hvs hN hG
 subst hS
 cases hvs with
 | cons v1 x1 us xs hv1 hvs =>
 cases hvs with
 | cons v2 x2 us xs hv2 hvs =>
 cases hvs
 cases hv1 with
 | iface t1 u1 y1 h1 =>
 cases hv2 with
 | iface t2 u2 y2 h2 =>
 cases h1 with
 | ptr _ _ _ le hle =>
 cases h2 with
 | ptr _ _ _ lt hlt =>
 obtain ⟨loc,c,ty,vs,k1,k2,k3,k4,k5,k6,k7,k8,_⟩:=xBy hR hot (i:=0) rfl
 rw [k1] at hlt
 have hlt:=Option.some.inj hlt
 subst hlt
 have hblk:=(Array.getElem?_eq_some_iff.1 k4).1
 obtain ⟨old,hold⟩:∃ o,vs=[o]:=by
  cases k8 with
  | cons v y us ys hv hus=>cases hus;exact ⟨v,rfl⟩
 subst hold
 have hcell:C.w.cell? ⟨loc.blk,loc.off,none⟩=some old:=by
  rw [cell_of_row C.w loc.blk _ c ty (0,0) k4]
  exact k7 0 old rfl
 have hfr:=frozen_of_row C.w loc.blk loc.off c ty k4
 simp only [Nat.zero_mul,Nat.add_zero]
 refine Calls.mono (xVp ⟨le.blk,le.off,none⟩ ⟨loc.blk,loc.off,none⟩ old C.w hG.2.2 hcell hfr) ?_
 rintro e w' ⟨rfl,rfl⟩
 let ob:Obj:=.cells (c.setIfInBounds loc.off (.pointer (some ⟨le.blk,le.off,none⟩))) ty (0,0)
 have hL1:Le C (C.wrote ot loc.blk ob (.row 1 [[.ptr oe 0 0]])):=xCa hR hot k1 k4 ob (fun c' e f h=>by cases h;exact ⟨_,_,rfl,by simp⟩) _
 have hR1:Rel (C.wrote ot loc.blk ob (.row 1 [[.ptr oe 0 0]])):=by
  refine xBF hR hot k1 hL1 (.inr ⟨loc,_,ty,[.pointer (some ⟨le.blk,le.off,none⟩)],k1,k2,k3,xAm _ hblk,?_,?_,?_,?_⟩)
  ·simpa using k5
  ·simp
  ·intro j v hj
   match j,hj with
   | 0,hj =>
    simp at hj
    subst hj
    rw [Nat.add_zero,Array.getElem?_setIfInBounds_self_of_lt (by simp at k5;omega)]
  ·refine .cons _ _ _ _ ?_ .nil
   have:=VR.ptr (C:=C.wrote ot loc.blk ob (.row 1 [[.ptr oe 0 0]])) oe 0 0 le hle
   simpa using this
 have hB:Below (putBlk C.w loc.blk ob).heap.size (putBlk C.w loc.blk ob) (((((C.w.alloc (.cells #[.pointer (some ⟨loc.blk,loc.off,none⟩)] 91)).alloc (.cells #[.pointer (some ⟨5,91,none⟩),.pointer (some ⟨C.w.heap.size,0,none⟩),.int .u64 150] 138)).alloc (.cells #[.pointer (some ⟨5,91,none⟩),.pointer (some ⟨C.w.heap.size,0,none⟩),.int .u64 150] 138)).alloc (.cells #[.pointer (some ⟨le.blk,le.off,none⟩)] 86)).setCell ⟨loc.blk,loc.off,none⟩ (.pointer (some ⟨le.blk,le.off,none⟩))):=by
  refine ⟨rfl,rfl,rfl,by rw [xAR];simp [World.setCell];omega,fun k hk=>?_⟩
  rw [xAR] at hk
  simp only [World.setCell,Array.getElem?_modify]
  have hb:=((((Below.refl C.w.heap.size C.w).alloc (Nat.le_refl _) (.cells #[.pointer (some ⟨loc.blk,loc.off,none⟩)] 91)).alloc (by simp) (.cells #[.pointer (some ⟨5,91,none⟩),.pointer (some ⟨C.w.heap.size,0,none⟩),.int .u64 150] 138)).alloc (by simp;omega) (.cells #[.pointer (some ⟨5,91,none⟩),.pointer (some ⟨C.w.heap.size,0,none⟩),.int .u64 150] 138)).alloc (by simp;omega) (.cells #[.pointer (some ⟨le.blk,le.off,none⟩)] 86)
  rw [hb.block k hk]
  by_cases e:loc.blk=k
  ·subst e;rw [if_pos rfl,xAm _ hk,k4];rfl
  ·rw [if_neg e,xAB _ (fun h=>e h.symm)]
 have h2:=xMI hR1 hB
 have h3:=xI6 hR1 hB
 refine ⟨_,.bool true,_,rfl,?_,?_,hL1.trans h2,h3,.bool _⟩
 ·exact hk
 ·rfl
theorem xB7 (p:Prg) (hp:p.Fit):Ret P (gl N) false 10 [encP p] (.bool p.sane):=by
 refine Ret.inF (by kernel_rfl) ?_
 conv=>arg 3;reduce
 simp
 refine xMY p hp _ _ ?_
 intro v S' hup hok hbad
 simp
 cases hs:p.sane
 ·obtain ⟨o,s,n,rfl,h1,h2,h3⟩:=hbad hs
  refine xIj (x:=.nilptr) ?_ ?_
  ·rw [hup.2 1 (by simp)];simp
  ·simp
   exact RK.stab rfl
 ·obtain rfl:=hok hs
  refine xIi ?_
  simp
  exact RK.stab rfl
def Fun.none:Fun:=⟨0,0,[],true⟩
def Blk.none:Blk:=⟨false,[],true,[],true⟩
@[simp] theorem Fun.none_blksV:Fun.none.blksV=.nilsl:=by simp [Fun.none,Fun.blksV,encN]
@[simp] theorem Fun.none_par:Fun.none.par=0:=rfl
@[simp] theorem Fun.none_vars:Fun.none.vars=0:=rfl
@[simp] theorem Fun.none_blks:Fun.none.blks=[]:=rfl
@[simp] theorem Blk.none_on:Blk.none.on=false:=rfl
@[simp] theorem Blk.none_ins:Blk.none.ins=[]:=rfl
@[simp] theorem Blk.none_out:Blk.none.out=[]:=rfl
@[simp] theorem Blk.none_insV:Blk.none.insV=.nilsl:=by simp [Blk.none,Blk.insV,encN]
@[simp] theorem Blk.none_outV:Blk.none.outV=.nilsl:=by simp [Blk.none,Blk.outV,encN]
noncomputable def Prg.fn (p:Prg) (i:Int):Option Fun:=if 0<=i/\p.sane=true then p.funs[i.toNat]? else none
theorem xEf (p:Prg) (i:Int) (hp:p.Fit):Ret P (gl N) false 50 [encP p,.int .i64 i] (.tuple [encFun ((p.fn i).getD Fun.none),.bool (p.fn i).isSome]):=by
 refine Ret.inF (by kernel_rfl) ?_
 have hfl:=hp.funs
 conv=>arg 3;reduce
 simp
 refine xAP (fun h1=>?_) (fun h1=>?_) <;> simp [h1]
 ·obtain ⟨k,rfl⟩:=Int.eq_ofNat_of_zero_le (show 0<=i by omega)
  refine xAP (fun h2=>?_) (fun h2=>?_) <;> simp [h2]
  ·obtain ⟨f,hf⟩:∃ b,p.funs[k]?=some b:=⟨_,xgG (by omega)⟩
   refine (xB7 p hp).use (n:=9) ?_ rfl ?_ <;> simp
   cases hs:p.sane
   ·simp
    exact ⟨3,by simp [Prg.fn,hs]⟩
   ·simp [p.funsS.idx hf]
    exact ⟨3,by simp [Prg.fn,hs,hf]⟩
  ·have hn:p.funs[k]?=none:=List.getElem?_eq_none (by omega)
   exact ⟨3,by simp [Prg.fn,hn]⟩
 ·exact ⟨3,by simp [Prg.fn,show ¬ 0<=i by omega]⟩
def Fun.blk (f:Fun) (i:Int):Option Blk:=if f.live i=true then f.blks[i.toNat]? else Option.none
noncomputable def Prg.blk (p:Prg) (i j:Int):Option Blk:=(p.fn i).bind fun f=>f.blk j
theorem xJr {p:Prg} (hp:p.Fit) {i:Int} {f:Fun} (h:p.fn i=some f):f.Small:=by
 unfold Prg.fn at h
 split at h
 ·exact hp.each f (xmG h)
 ·cases h
theorem xCx (p:Prg) (i j:Int) (hp:p.Fit):Ret P (gl N) false 34 [encP p,.int .i64 i,.int .i64 j] (.tuple [encBlk ((p.blk i j).getD Blk.none),.bool (p.blk i j).isSome]):=by
 refine Ret.inF (by kernel_rfl) ?_
 conv=>arg 3;reduce
 simp
 refine (xEf p i hp).use (n:=9) ?_ (by simp [solids,AV.solid,p.funsS.solid]) ?_ <;> simp
 have hlen:((p.fn i).getD Fun.none).blks.length < 2 ^ 40:=by
  cases h:p.fn i with
  | none=>simp [Fun.none]
  | some f=>have:=(xJr hp h).blks;simp;omega
 refine (xJn ((p.fn i).getD Fun.none) j hlen).use (n:=9) ?_ rfl ?_ <;> simp
 cases hl:((p.fn i).getD Fun.none).live j
 ·simp
  have:p.blk i j=none:=by
   unfold Prg.blk
   cases h:p.fn i with
   | none=>rfl
   | some f=>rw [h] at hl;simp at hl;simp [Fun.blk,hl]
  exact ⟨3,by simp [this]⟩
 ·cases h:p.fn i with
  | none=>rw [h] at hl;simp [Fun.live,Fun.none] at hl
  | some f =>
   rw [h] at hl;simp at hl
   have hl':=hl
   unfold Fun.live at hl'
   simp only [Bool.and_eq_true,decide_eq_true_eq] at hl'
   obtain ⟨k,rfl⟩:=Int.eq_ofNat_of_zero_le hl'.1
   obtain ⟨b,hb⟩:∃ b,f.blks[k]?=some b:=by
    cases hb:f.blks[k]? with
    | none=>rw [Int.toNat_natCast,hb] at hl';simp at hl'
    | some b=>exact ⟨b,rfl⟩
   have hblk:p.blk i k=some b:=by simp [Prg.blk,h,Fun.blk,hl,hb]
   simp [f.blksS.idx hb]
   exact ⟨3,by simp [hblk]⟩
end Go.Proofs.YtnhfofmhkfdpgaaGreatDoor.Vm
namespace Go.Proofs.YtnhfofmhkfdpgaaGreatDoor.Vm
open Go Go.RowKit
variable {N:Nat} {g:Glob}
section
variable {P:Program}
theorem W.rangeC {n:Nat} {x:VX} {ps:Array Nat} {asg body:Code} {F:AFrame} {S:St} {f:Nat} {captured:List AV} {Q:Res->Prop} (hx:x.eval F=.func (.func f) [] captured)
  (h:Cal P g f (.yield S.next :: captured) (S.new (.loop n ps F asg body .ready)) fun _ S'=>S'.obj S.next=some (.loop n ps F asg body .ready)/\Q (.code .normal F (S'.drop S.next))):W P g (.code (.rangeFunc n x ps asg body) F S) Q:=by
 refine W.rangeFunc hx h.1 (W.mono h.2 fun r hr=>?_)
 cases r with
 | val v S'=>exact ⟨_,hr.1,hr.2⟩
 | code e F' S'=>exact hr.elim
def KAsg (P:Program) (g:Glob) (R:AV->St->Prop) (q n:Nat) (ps:Array Nat) (LF:AFrame) (asg body:Code) (cb:VCode):Res->Prop
 | .code .normal F S=>S.obj q=some (.loop n ps LF asg body .ready)/\vc P g cb F (S.set q (.loop n ps LF asg body .busy)) (roundQ R q n ps LF asg body)
 | _=>False
@[simp] theorem xSH {R q n ps LF asg body cb F S}:KAsg P g R q n ps LF asg body cb (.code .normal F S)=(S.obj q=some (.loop n ps LF asg body .ready)/\vc P g cb F (S.set q (.loop n ps LF asg body .busy)) (roundQ R q n ps LF asg body)):=_root_.id rfl
@[simp] theorem xQQ {R q n ps LF asg body F S}:roundQ R q n ps LF asg body (.code .normal F S)=(S.obj q=some (.loop n ps LF asg body .busy)/\R (.bool true) (S.set q (.loop n ps LF asg body .ready))):=_root_.id rfl
theorem Yie.in {q n:Nat} {ps:Array Nat} {LF:AFrame} {asg body:Code} {ca cb:VCode} {xs:List AV} {S:St} {K:AV->St->Prop} (hq:S.obj q=some (.loop n ps LF asg body .ready)) (hl:xs.length=ps.size) (hps:ps.all (· < n)=true)
  (hca:compCode P n asg=some ca) (hcb:compCode P n body=some cb) (h:vc P g ca (puts LF ps.toList xs) S (KAsg P g K q n ps LF asg body cb)):Yie P g q xs S K:=by
 refine ⟨n,ps,LF,asg,body,ca,cb,hq,hl,hps,hca,hcb,W.mono (xA1 h) fun r hr=>?_⟩
 cases r with
 | val v S'=>exact hr.elim
 | code e F S' =>
  cases e with
  | normal=>exact ⟨hr.1,xA1 hr.2⟩
  | exit id=>exact hr.elim
  | ret=>exact hr.elim
end
def IsRow (S:St) (v:AV) (s:BSet):Prop:=v=.fsl 1 (els u64c s.ws) \/ ∃ o,o < S.next/\v=.sl 1 o 0 (nw s.n)/\S.obj o=some (.row 1 (els u64c s.ws))
theorem IsRow.pict {S:St} {v:AV} {s:BSet} {n:Nat} (hs:s.OK) (h:IsRow S v s):pict S [] (n + 2) v=some (.fsl 1 (els u64c s.ws)):=by
 rcases h with rfl | ⟨o,_,rfl,ho⟩
 ·simp
 ·have hr:=readAll (e:=u64c) (l:=s.ws) (k:=nw s.n) hs.len
  simp [ho,hr]
theorem IsRow.one {S:St} {v:AV} {s:BSet} (h:IsRow S v s):v.one=true:=by
 rcases h with rfl | ⟨o,_,rfl,ho⟩ <;> simp
def Keeps (M:Nat->Prop) (S S':St):Prop:=S.next<=S'.next/\∀o,o < S.next->¬ M o->S'.obj o=S.obj o
theorem IsRow.keep {M:Nat->Prop} {S S':St} {v:AV} {s:BSet} (h:IsRow S v s) (hk:Keeps M S S') (hM:∀o,v=.sl 1 o 0 (nw s.n)->¬ M o):IsRow S' v s:=by
 rcases h with rfl | ⟨o,h1,rfl,ho⟩
 ·exact .inl rfl
 ·exact .inr ⟨o,Nat.lt_of_lt_of_le h1 hk.1,rfl,by rw [hk.2 o h1 (hM o rfl)];exact ho⟩
def liveTo (l:List Ins) (s:BSet) (k:Nat):BSet:=(l.drop (l.length - k)).foldr Ins.live s
theorem xHv (l:List Ins) (s:BSet):liveTo l s l.length=l.foldr Ins.live s:=by simp [liveTo]
theorem xJs (l:List Ins) {s:BSet} (hs:s.OK) (k:Nat):(liveTo l s k).OK/\(liveTo l s k).n=s.n:=by
 unfold liveTo
 generalize l.drop (l.length - k)=m
 induction m with
 | nil=>exact ⟨hs,rfl⟩
 | cons x m ih=>exact ⟨Ins.live_ok x ih.1,(Ins.live_n x _).trans ih.2⟩
@[simp] def setc (s:BSet):List AV:=[.int .i64 (s.n:Int),.fsl 1 (els u64c s.ws)]
end Go.Proofs.YtnhfofmhkfdpgaaGreatDoor.Vm
namespace Go.Proofs.YtnhfofmhkfdpgaaGreatDoor.Vm
set_option maxRecDepth 100000
open Go Go.RowKit
variable {N:Nat} {g:Glob}
def Blk.few (b:Blk):Bool:=decide (b.ins.length<=30) && decide (b.out.length<=30)
def Fun.few (f:Fun):Bool:=decide (f.blks.length<=20) && f.blks.all Blk.few
def Prg.few (p:Prg):Bool:=decide (p.funs.length<=10) && p.funs.all Fun.few
theorem Prg.few_fit {p:Prg} (h:p.few=true):p.Fit:=by
 simp only [Prg.few,Bool.and_eq_true,decide_eq_true_eq,List.all_eq_true] at h
 refine ⟨by omega,fun f hf=>?_⟩
 have:=h.2 f hf
 simp only [Fun.few,Bool.and_eq_true,decide_eq_true_eq,List.all_eq_true] at this
 refine ⟨by omega,fun b hb=>?_,fun b hb=>?_⟩ <;>
 ·have:=this.2 b hb
  simp only [Blk.few,Bool.and_eq_true,decide_eq_true_eq] at this
  omega
theorem xKQ {p:Prg} {f:Fun} (hf:f ∈ p.funs) (h:f.few=false):p.few=false:=by
 cases hp:p.few
 ·rfl
 ·simp only [Prg.few,Bool.and_eq_true,List.all_eq_true] at hp
  rw [hp.2 f hf] at h;cases h
theorem xLT {f:Fun} {b:Blk} (hb:b ∈ f.blks) (h:b.few=false):f.few=false:=by
 cases hp:f.few
 ·rfl
 ·simp only [Fun.few,Bool.and_eq_true,List.all_eq_true] at hp
  rw [hp.2 b hb] at h;cases h
theorem xGo (p:Prg):Ret P g false 9 [encP p] (.bool p.few):=by
 refine Ret.inF (by kernel_rfl) ?_
 conv=>arg 3;reduce
 simp
 refine xAj (fun h10=>?_) (fun h10=>?_) <;> simp [h10]
 ·exact RK.eq (by simp only [Prg.few];rw [decide_eq_false (by omega)];rfl) rfl
 have h10':p.funs.length<=10:=by omega
 refine W.whileI (fun (k:Nat) F S=>k<=p.funs.length/\(∀(j:Nat) (f:Fun),j < k->p.funs[j]?=some f->f.few=true)/\F 1=.ptr 0 0 0/\F 3=.int .i64 k/\S.obj 0=some (.row 1 [[p.funsV]])/\1<=S.next) (fun k=>p.funs.length - k) ?_ 0 _ _ ?_
 ·rintro k F S ⟨hk,hall,f1,f3,s0,sn⟩
  by_cases hlt:k < p.funs.length
  ·obtain ⟨f,hf⟩:∃ x,p.funs[k]?=some x:=⟨_,xgG hlt⟩
   have hmem:=xmG hf
   have e4:=wrapS k (by omega)
   simp [f1,f3,s0,hlt]
   simp [f1,f3,s0,p.funsS.idx hf]
   refine xAj (fun h20=>?_) (fun h20=>?_) <;> simp [h20]
   ·exact RK.eq (by rw [xKQ hmem (by simp only [Fun.few];rw [decide_eq_false (by omega)];rfl)]) rfl
   have h20':f.blks.length<=20:=by omega
   refine W.whileI (fun (j:Nat) F S=>j<=f.blks.length/\(∀(i:Nat) (b:Blk),i < j->f.blks[i]?=some b->b.few=true)/\F 1=.ptr 0 0 0/\F 3=.int .i64 k/\F 4=.int .i64 j/\S.obj 0=some (.row 1 [[p.funsV]])/\1<=S.next) (fun j=>f.blks.length - j) ?_ 0 _ _ ?_
   ·clear f1 f3 s0 sn
    clear S F
    rintro j F S ⟨hj,hallb,f1,f3,f4,s0,sn⟩
    have m0:¬ 0=S.next:=by omega
    have m1:¬ S.next=0:=by omega
    by_cases hlj:j < f.blks.length
    ·obtain ⟨b,hb⟩:∃ x,f.blks[j]?=some x:=⟨_,xgG hlj⟩
     have hmb:=xmG hb
     have e5:=wrapS j (by omega)
     simp [f1,f3,f4,s0,p.funsS.idx hf,hlj]
     simp [f1,f3,f4,s0,p.funsS.idx hf,f.blksS.idx hb,m0,m1]
     refine xAP (fun h30=>?_) (fun h30=>?_) <;> simp [h30]
     ·refine xAj (fun h31=>?_) (fun h31=>?_) <;> simp [h31]
      ·exact RK.eq (by rw [xKQ hmem (xLT hmb (by simp only [Blk.few];rw [decide_eq_false (show ¬ b.out.length<=30 by omega)];simp))]) rfl
      ·simp [f4,e5,f1,f3,s0,m0,m1]
       refine ⟨j + 1,by omega,by omega,?_,by omega⟩
       intro i c hi hc
       by_cases hij:i=j
       ·subst hij;rw [hb] at hc;cases hc
        simp only [Blk.few,Bool.and_eq_true,decide_eq_true_eq];omega
       ·exact hallb i c (by omega) hc
     ·exact RK.eq (by rw [xKQ hmem (xLT hmb (by simp only [Blk.few];rw [decide_eq_false (show ¬ b.ins.length<=30 by omega)];rfl))]) rfl
    ·have:j=f.blks.length:=by omega
     subst this
     simp [f1,f3,f4,s0,p.funsS.idx hf,e4]
     refine ⟨k + 1,by omega,by omega,?_,by omega,sn⟩
     intro q h hq hh
     by_cases hqk:q=k
     ·subst hqk;rw [hf] at hh;cases hh
      simp only [Fun.few,Bool.and_eq_true,decide_eq_true_eq,List.all_eq_true]
      refine ⟨h20',fun b hb=>?_⟩
      obtain ⟨i,hi,rfl⟩:=List.mem_iff_getElem.1 hb
      exact hallb i _ hi (xgG hi)
     ·exact hall q h (by omega) hh
   ·simp [f1,f3,s0,sn]
  ·have:k=p.funs.length:=by omega
   subst this
   simp [f1,f3,s0]
   refine RK.eq ?_ rfl
   congr 1
   symm
   simp only [Prg.few,Bool.and_eq_true,decide_eq_true_eq,List.all_eq_true]
   refine ⟨h10',fun f hf=>?_⟩
   obtain ⟨j,hj,rfl⟩:=List.mem_iff_getElem.1 hf
   exact hall j _ hj (xgG hj)
 ·simp
end Go.Proofs.YtnhfofmhkfdpgaaGreatDoor.Vm
namespace Go.Proofs.YtnhfofmhkfdpgaaGreatDoor.Vm
open Go Go.RowKit
variable {N:Nat} {g:Glob}
def killTo (l:List Ins) (s:BSet) (k:Nat):BSet:=(l.drop (l.length - k)).foldr (fun i s=>s.with i.def) s
theorem xHw (l:List Ins) (s:BSet):killTo l s l.length=l.foldr (fun i s=>s.with i.def) s:=by simp [killTo]
theorem xJt (l:List Ins) {s:BSet} (hs:s.OK) (k:Nat):(killTo l s k).OK/\(killTo l s k).n=s.n:=by
 unfold killTo
 generalize l.drop (l.length - k)=m
 induction m with
 | nil=>exact ⟨hs,rfl⟩
 | cons x m ih=>exact ⟨BSet.with_ok ih.1 _,(BSet.with_n _ _).trans ih.2⟩
def Blk.gen (b:Blk):BSet:=b.ins.foldr Ins.live (BSet.new 6)
def Blk.kill (b:Blk):BSet:=b.ins.foldr (fun i s=>s.with i.def) (BSet.new 6)
theorem Blk.gen_ok (b:Blk):b.gen.OK/\b.gen.n=6:=by
 have:=xJs b.ins (BSet.new_ok (show 6<=1024 by omega)) b.ins.length
 rw [xHv] at this
 exact this
theorem Blk.kill_ok (b:Blk):b.kill.OK/\b.kill.n=6:=by
 have:=xJt b.ins (BSet.new_ok (show 6<=1024 by omega)) b.ins.length
 rw [xHw] at this
 exact this
def SetsRow (S:St) (v:AV) (l:List BSet):Prop:=(v=.nilsl/\l=[]) \/ ∃ o es,v=.sl 2 o 0 l.length/\o < S.next/\S.obj o=some (.row 2 es)/\es.length=l.length/\l ≠ [] /\
 ∀(i:Nat) (s:BSet),l[i]?=some s->∃ w,es[i]?=some [.int .i64 s.n,w]/\IsRow S w s
theorem IsRow.grown {S S':St} {w:AV} {s:BSet} (h:IsRow S w s) (hn:S.next<=S'.next) (hk:∀q ws,q < S.next->S.obj q=some (.row 1 (els u64c ws))->S'.obj q=S.obj q):IsRow S' w s:=by
 rcases h with rfl | ⟨o,h1,rfl,ho⟩
 ·exact .inl rfl
 ·exact .inr ⟨o,Nat.lt_of_lt_of_le h1 hn,rfl,by rw [hk o _ h1 ho];exact ho⟩
end Go.Proofs.YtnhfofmhkfdpgaaGreatDoor.Vm
namespace Go.Proofs.YtnhfofmhkfdpgaaGreatDoor.Vm
open Go Go.RowKit
def bigOr (x:List BSet) (js:List Int):BSet:=js.foldl (fun s j=>s.or (x.getD j.toNat (BSet.new 6))) (BSet.new 6)
def Good (x:List BSet):Prop:=∀s ∈ x,s.OK/\s.n=6
theorem Good.at {x:List BSet} (h:Good x) (i:Nat):(x.getD i (BSet.new 6)).OK/\(x.getD i (BSet.new 6)).n=6:=by
 rw [List.getD_eq_getElem?_getD]
 cases hx:x[i]? with
 | none=>exact ⟨BSet.new_ok (by omega),rfl⟩
 | some s=>exact h s (xmG hx)
theorem xHx {x:List BSet} (h:Good x) (js:List Int):∀s:BSet,s.OK->s.n=6->((js.foldl (fun s j=>s.or (x.getD j.toNat (BSet.new 6))) s).OK/\(js.foldl (fun s j=>s.or (x.getD j.toNat (BSet.new 6))) s).n=6 /\
  ∀v,(js.foldl (fun s j=>s.or (x.getD j.toNat (BSet.new 6))) s).mem v=(s.mem v || js.any fun j=>(x.getD j.toNat (BSet.new 6)).mem v)):=by
 induction js with
 | nil=>intro s hs hn;exact ⟨hs,hn,fun v=>by simp⟩
 | cons j js ih =>
  intro s hs hn
  have hj:=h.at j.toNat
  obtain ⟨h1,h2,h3⟩:=ih (s.or (x.getD j.toNat (BSet.new 6))) (BSet.or_ok hs hj.1) (by rw [BSet.or_n,hn,hj.2];rfl)
  refine ⟨h1,h2,fun v=>?_⟩
  rw [List.foldl_cons,h3 v,BSet.or_mem hs hj.1,List.any_cons,Bool.or_assoc]
theorem xEg {x:List BSet} (h:Good x) (js:List Int):(bigOr x js).OK/\(bigOr x js).n=6:=by
 obtain ⟨h1,h2,_⟩:=xHx h js (BSet.new 6) (BSet.new_ok (by omega)) rfl
 exact ⟨h1,h2⟩
theorem xJu {x:List BSet} (h:Good x) (js:List Int) (v:Nat):(bigOr x js).mem v=js.any fun j=>(x.getD j.toNat (BSet.new 6)).mem v:=by
 rw [bigOr,(xHx h js (BSet.new 6) (BSet.new_ok (by omega)) rfl).2.2 v,BSet.new_mem,Bool.false_or]
def Blk.eval (b:Blk) (x:List BSet):BSet:=b.gen.or ((bigOr x b.out).minus b.kill)
theorem Blk.eval_ok (b:Blk) {x:List BSet} (h:Good x):(b.eval x).OK/\(b.eval x).n=6:=by
 have h1:=xEg h b.out
 refine ⟨BSet.or_ok b.gen_ok.1 (BSet.minus_ok h1.1 b.kill_ok.1),?_⟩
 show max b.gen.n (max (bigOr x b.out).n b.kill.n)=6
 rw [b.gen_ok.2,h1.2,b.kill_ok.2];rfl
theorem Blk.eval_mem (b:Blk) {x:List BSet} (h:Good x) (v:Nat):(b.eval x).mem v=(b.gen.mem v || ((b.out.any fun j=>(x.getD j.toNat (BSet.new 6)).mem v) && !b.kill.mem v)):=by
 have h1:=xEg h b.out
 rw [Blk.eval,BSet.or_mem b.gen_ok.1 (BSet.minus_ok h1.1 b.kill_ok.1),BSet.minus_mem h1.1 b.kill_ok.1,xJu h]
inductive Lv (l:List Blk):Nat->Nat->Prop
 | gen (i:Nat) (b:Blk) (v:Nat) (hb:l[i]?=some b) (hv:b.gen.mem v=true):Lv l i v
 | step (i:Nat) (b:Blk) (v:Nat) (j:Int) (hb:l[i]?=some b) (hj:j ∈ b.out) (h:Lv l j.toNat v) (hk:b.kill.mem v=false):Lv l i v
theorem Lv.lt {l:List Blk} {i v:Nat} (h:Lv l i v):v < 6:=by
 induction h with
 | gen i b v hb hv =>
  apply Classical.byContradiction
  intro hn
  rw [BSet.mem_top b.gen_ok.1 (by rw [b.gen_ok.2];omega)] at hv;cases hv
 | step i b v j hb hj h hk ih=>exact ih
theorem Lv.at {l:List Blk} {i v:Nat} (h:Lv l i v):∃ b,l[i]?=some b:=by
 cases h with
 | gen _ b _ hb hv=>exact ⟨b,hb⟩
 | step _ b _ j hb hj h hk=>exact ⟨b,hb⟩
noncomputable def solAt (l:List Blk) (i:Nat):BSet:=open Classical in BSet.ofL 6 (((List.range 6).filter fun v=>decide (Lv l i v)).map fun v:Nat=>(v:Int))
noncomputable def sol (l:List Blk):List BSet:=(List.range l.length).map (solAt l)
structure Mid (l:List Blk) (x:List BSet) (T:Nat->Prop):Prop where
 len:x.length=l.length
 good:Good x
 below:∀(i v:Nat) (s:BSet),x[i]?=some s->s.mem v=true->Lv l i v
 pre:∀(i v:Nat) (b:Blk) (s:BSet),l[i]?=some b->x[i]?=some s->s.mem v=true->(b.eval x).mem v=true
 fix:∀(i:Nat) (b:Blk) (s:BSet),l[i]?=some b->x[i]?=some s->¬ T i->s=b.eval x
theorem Mid.start (l:List Blk):Mid l (List.replicate l.length (BSet.new 6)) (fun i=>i < l.length):=by
 have hno:∀(i v:Nat) (s:BSet),(List.replicate l.length (BSet.new 6))[i]?=some s->s.mem v=true->False:=by
  intro i v s hs hv
  have:=xmG hs
  rw [List.mem_replicate] at this
  rw [this.2,BSet.new_mem] at hv;cases hv
 refine ⟨by simp,?_,fun i v s hs hv=>(hno i v s hs hv).elim,fun i v b s _ hs hv=>(hno i v s hs hv).elim,?_⟩
 ·intro s hs
  rw [List.mem_replicate] at hs
  rw [hs.2];exact ⟨BSet.new_ok (by omega),rfl⟩
 ·intro i b s hb _ hT
  exact absurd (xgS hb).1 hT
theorem Good.set {x:List BSet} (h:Good x) {s:BSet} (hs:s.OK/\s.n=6) (i:Nat):Good (x.set i s):=by
 intro t ht
 rcases List.mem_or_eq_of_mem_set ht with h1 | h1
 ·exact h t h1
 ·rw [h1];exact hs
theorem xJv {b:Blk} {x y:List BSet} (hx:Good x) (hy:Good y) (h:∀i v,(x.getD i (BSet.new 6)).mem v=true->(y.getD i (BSet.new 6)).mem v=true) {v:Nat} (hv:(b.eval x).mem v=true):(b.eval y).mem v=true:=by
 rw [b.eval_mem hx] at hv
 rw [b.eval_mem hy]
 simp only [Bool.or_eq_true,Bool.and_eq_true,List.any_eq_true] at hv ⊢
 rcases hv with hv | ⟨⟨j,hj,hv⟩,hk⟩
 ·exact .inl hv
 ·exact .inr ⟨⟨j,hj,h _ _ hv⟩,hk⟩
theorem xOM {b:Blk} {x:List BSet} {i:Nat} {s:BSet} (hi:∀j ∈ b.out,j.toNat ≠ i):b.eval (x.set i s)=b.eval x:=by
 unfold Blk.eval bigOr
 congr 2
 have:∀(js:List Int) (t:BSet),(∀j ∈ js,j.toNat ≠ i)->js.foldl (fun s' j=>s'.or ((x.set i s).getD j.toNat (BSet.new 6))) t=js.foldl (fun s' j=>s'.or (x.getD j.toNat (BSet.new 6))) t:=by
  intro js
  induction js with
  | nil=>intro t _;rfl
  | cons j js ih =>
   intro t h
   rw [List.foldl_cons,List.foldl_cons,ih _ (fun k hk=>h k (by simp [hk]))]
   have:(x.set i s).getD j.toNat (BSet.new 6)=x.getD j.toNat (BSet.new 6):=by
    rw [List.getD_eq_getElem?_getD,List.getD_eq_getElem?_getD,List.getElem?_set_ne (Ne.symm (h j (by simp)))]
   rw [this]
 exact this b.out _ hi
theorem Mid.step {l:List Blk} {x:List BSet} {T T':Nat->Prop} (h:Mid l x T) {i:Nat} {b:Blk} {s:BSet} (hb:l[i]?=some b) (hs:x[i]?=some s)
  (hT:∀k,¬ T' k->k=i \/ ¬ T k) (hr:s ≠ b.eval x->∀k c,l[k]?=some c->(i:Int) ∈ c.out->T' k) (hnn:∀c ∈ l,∀j ∈ c.out,0<=j):Mid l (x.set i (b.eval x)) T':=by
 have hok:=b.eval_ok h.good
 have hilt:i < x.length:=(xgS hs).1
 have hgood:=h.good.set hok i
 have hge:∀k v,(x.getD k (BSet.new 6)).mem v=true->((x.set i (b.eval x)).getD k (BSet.new 6)).mem v=true:=by
  intro k v hv
  rw [List.getD_eq_getElem?_getD] at hv ⊢
  by_cases hk:k=i
  ·subst hk
   rw [List.getElem?_set_self hilt]
   rw [hs] at hv
   exact h.pre k v b s hb hs hv
  ·rw [List.getElem?_set_ne (Ne.symm hk)];exact hv
 refine ⟨by simp [h.len],hgood,?_,?_,?_⟩
 ·intro k v t ht hv
  by_cases hk:k=i
  ·subst hk
   rw [List.getElem?_set_self hilt] at ht
   cases ht
   rw [b.eval_mem h.good] at hv
   simp only [Bool.or_eq_true,Bool.and_eq_true,List.any_eq_true,Bool.not_eq_true'] at hv
   rcases hv with hv | ⟨⟨j,hj,hv⟩,hk⟩
   ·exact .gen k b v hb hv
   ·refine .step k b v j hb hj ?_ hk
    rw [List.getD_eq_getElem?_getD] at hv
    cases hx:x[j.toNat]? with
    | none=>rw [hx] at hv;simp only [Option.getD_none,BSet.new_mem] at hv;cases hv
    | some t=>rw [hx] at hv;exact h.below _ v t hx hv
  ·rw [List.getElem?_set_ne (Ne.symm hk)] at ht
   exact h.below k v t ht hv
 ·intro k v c t hc ht hv
  by_cases hk:k=i
  ·subst hk
   rw [hb] at hc;cases hc
   rw [List.getElem?_set_self hilt] at ht
   cases ht
   exact xJv h.good hgood hge hv
  ·rw [List.getElem?_set_ne (Ne.symm hk)] at ht
   exact xJv h.good hgood hge (h.pre k v c t hc ht hv)
 ·intro k c t hc ht hnT
  have hself:(s=b.eval x)->x.set i (b.eval x)=x:=by
   intro e
   rw [<- e]
   apply List.ext_getElem?
   intro m
   by_cases hm:m=i
   ·subst hm;rw [List.getElem?_set_self hilt,hs]
   ·rw [List.getElem?_set_ne (Ne.symm hm)]
  by_cases he:s=b.eval x
  ·rw [hself he] at ht ⊢
   by_cases hk:k=i
   ·subst hk
    rw [hb] at hc;cases hc
    rw [hs] at ht;cases ht
    exact he
   ·exact h.fix k c t hc ht ((hT k hnT).resolve_left hk)
  ·have hno:∀j ∈ c.out,j.toNat ≠ i:=by
    intro j hj e
    have:=hnn c (xmG hc) j hj
    exact hnT (hr he k c hc (by rw [<- e,Int.toNat_of_nonneg this];exact hj))
   rw [xOM hno]
   by_cases hk:k=i
   ·subst hk
    rw [hb] at hc;cases hc
    rw [List.getElem?_set_self hilt] at ht
    cases ht;rfl
   ·rw [List.getElem?_set_ne (Ne.symm hk)] at ht
    exact h.fix k c t hc ht ((hT k hnT).resolve_left hk)
end Go.Proofs.YtnhfofmhkfdpgaaGreatDoor.Vm
namespace Go.Proofs.YtnhfofmhkfdpgaaGreatDoor.Vm
set_option maxRecDepth 100000
open Go Go.RowKit
variable {N:Nat} {g:Glob}
def Nw (S0 S:St) (w:AV) (l:List Int):Prop:=Rw intc 1 S w l/\Up S0 S/\∀q c,w=.sl 1 q 0 c->S0.next<=q
theorem xCZ {v:AV} {l:List Int} {S0 S:St} {K:AV->St->Prop} (hv:FSl intc 1 v l) (hl:l.length < 2 ^ 30) (h0:Up S0 S) (hk:∀w S',Nw S0 S' w l->K w S'):Cal P g 94 [v] S K:=by
 refine Cal.inF (by kernel_rfl) ?_
 have hroom:l.length<=room:=by simp [room];omega
 have hr0:¬ room=0:=by simp [room]
 conv=>arg 3;reduce
 simp [hv.len]
 refine ⟨?_,?_⟩
 ·rw [hv.elems]
  by_cases hnil:l=[]
  ·subst hnil
   simp [els]
   refine hk _ _ ⟨.inr ⟨S.next,rfl,by simp,by simp [els]⟩,h0.trans (Up.new _ _),?_⟩
   intro q c e;cases e;exact h0.1
  ·have hlen:¬ l.length=0:=fun h=>hnil (List.length_eq_zero_iff.1 h)
   have hok:okAll 1 (els intc l):=xIa
   simp [hnil,hlen,hroom,hr0,hok,show ¬ room < l.length by omega]
   refine hk _ _ ⟨.inr ⟨S.next + 1,rfl,by simp,by simp⟩,⟨by have:=h0.1;simp;omega,?_⟩,?_⟩
   ·intro o ho
    have:=h0.1
    simp [show ¬ o=S.next + 1 by omega,show ¬ o=S.next by omega]
    exact h0.2 o ho
   ·intro q c e;cases e;have:=h0.1;omega
 ·intro hnil
  exact hk _ _ ⟨.inl ⟨rfl,hnil⟩,h0,fun q c e=>by cases e⟩
theorem xEi {fv:AV} {l:List Int} {o:Nat} {S:St} {K:AV->St->Prop} (ho:S.obj o=some (.row 1 (els intc l))) (hol:o < S.next) (hl:l.length < 2 ^ 40) (q:Int->Bool)
  (hq:∀x ∈ l,∀S',Up S S'->∀K':AV->St->Prop,(∀S'',Up S S''->K' (.bool (q x)) S'')->CalV P g fv [.int .i64 x] S' K') (hk:∀S',Up S S'->K (.int .i64 (indexF q l)) S'):Cal P g 137 [.sl 1 o 0 l.length,fv] S K:=by
 refine Cal.inF (by kernel_rfl) ?_
 conv=>arg 3;reduce
 simp
 refine W.whileI (fun (k:Nat) F S'=>k<=l.length/\(∀j x,j < k->l[j]?=some x->q x=false)/\F 0=.sl 1 o 0 l.length/\F 1=fv/\F 7=.int .i64 l.length/\F 8=.int .i64 k/\Up S S') (fun k=>l.length - k) ?_ 0 _ _ ?_
 ·rintro k F S' ⟨hk',hno,h0,h1,h7,h8,hup⟩
  by_cases hlt:k < l.length
  ·obtain ⟨x,hx⟩:∃ x,l[k]?=some x:=⟨_,xgG hlt⟩
   have e4:=wrapS k (by omega)
   have hob:S'.obj o=some (.row 1 (els intc l)):=by rw [hup.2 o hol];exact ho
   simp [h7,h8,hlt]
   simp [h8,h0,h1,xAd hlt,hob,hx,intc]
   refine hq x (xmG hx) S' hup _ ?_
   intro S'' hup'
   simp
   cases hqx:q x
   ·simp [h8,e4,h7,h0,h1]
    refine ⟨k + 1,by omega,by omega,?_,by omega,hup'⟩
    intro j y hj hy
    by_cases hjk:j=k
    ·subst hjk;rw [hx] at hy;cases hy;exact hqx
    ·exact hno j y (by omega) hy
   ·simp
    have:=hk S'' hup'
    rw [xDS hx hqx hno] at this
    simpa [h8] using this
  ·have:k=l.length:=by omega
   subst this
   simp [h7,h8]
   have:=hk S' hup
   rw [xDR (fun j x _ hx=>hno j x (xgS hx).1 hx)] at this
   exact this
 ·simp
  exact Up.refl S
theorem xGq {l:List Int} {p:Int->Bool} {k:Nat} {x:Int} (hx:l[k]?=some x):(l.take (k + 1)).filter p=(l.take k).filter p ++ (if p x then [x] else []):=by
 rw [xAe hx,List.filter_append]
 congr 1
 cases h:p x <;> simp [h]
theorem xG4 {fv:AV} {l:List Int} {o:Nat} {S:St} {K:AV->St->Prop} (ho:S.obj o=some (.row 1 (els intc l))) (hol:o < S.next) (hl:l.length < 2 ^ 40) (q:Int->Bool)
  (hq:∀x ∈ l,∀S',Keeps (·=o) S S'->∀K':AV->St->Prop,(∀S'',Up S' S''->K' (.bool (q x)) S'')->CalV P g fv [.int .i64 x] S' K')
  (hk:∀S',Keeps (·=o) S S'->S'.obj o=some (.row 1 (els intc (l.filter fun x=>!q x)))->K (.sl 1 o 0 (l.filter fun x=>!q x).length) S'):Cal P g 93 [.sl 1 o 0 l.length,fv] S K:=by
 refine Cal.less ?_
 refine Cal.inF (by kernel_rfl) ?_
 conv=>arg 3;reduce
 simp
 refine xEi ho hol hl q (fun x hx S' hup K' hK'=>hq x hx S' ⟨hup.1,fun a b _=>hup.2 a b⟩ K' fun S'' h=>hK' S'' (hup.trans h)) fun S1 hup1=>?_
 have hob1:S1.obj o=some (.row 1 (els intc l)):=by rw [hup1.2 o hol];exact ho
 have hol1:o < S1.next:=Nat.lt_of_lt_of_le hol hup1.1
 have hk1:Keeps (·=o) S S1:=⟨hup1.1,fun a b _=>hup1.2 a b⟩
 simp
 cases hi:l.findIdx? q with
 | none =>
  have e:indexF q l=-1:=by simp only [indexF,hi]
  have hf:l.filter (fun x=>!q x)=l:=by
   rw [List.filter_eq_self]
   intro x hx
   rw [List.findIdx?_eq_none_iff] at hi
   simp [hi x hx]
  simp [e]
  rw [hf] at hk
  exact ⟨S1,Wk.refl _,hk S1 hk1 hob1⟩
 | some i =>
  have e:indexF q l=i:=by simp only [indexF,hi]
  rw [List.findIdx?_eq_some_iff_getElem] at hi
  obtain ⟨hi1,hi2,hi3⟩:=hi
  have e1:¬ (i:Int)=-1:=by omega
  have e2:=wrapS i (by omega)
  simp [e,e1,e2]
  refine W.whileI (fun (j:Nat) F S'=>∃ (i:Nat) (c:List Int),i < j/\j<=l.length/\c.length=l.length/\c.take i=(l.take j).filter (fun x=>!q x)/\c.drop j=l.drop j/\F 0=.sl 1 o 0 l.length/\F 1=fv/\F 5=.int .i64 i/\F 6=.int .i64 j /\
   Keeps (·=o) S S'/\S'.obj o=some (.row 1 (els intc c))) (fun j=>l.length - j) ?_ (i + 1) _ _ ?_
  ·rintro j F S' ⟨i,c,hij,hjl,hcl,hct,hcd,h0,h1,h5,h6,hke,hob⟩
   by_cases hlt:j < l.length
   ·obtain ⟨x,hx⟩:∃ x,l[j]?=some x:=⟨_,xgG hlt⟩
    have hcx:c[j]?=some x:=by
     have:=congrArg (fun d=>d[0]?) hcd
     simp only [List.getElem?_drop,Nat.add_zero] at this
     rw [this,hx]
    have e4:=wrapS j (by omega)
    have e5:=wrapS i (by omega)
    have hst:=xGq (p:=fun x=>!q x) hx
    have hdr:∀d:List Int,d.drop j=l.drop j->d.drop (j + 1)=l.drop (j + 1):=by
     intro d hd
     have:=congrArg (fun d=>d.drop 1) hd
     simpa only [List.drop_drop] using this
    simp [h0,h6,hlt]
    simp [h0,h1,h6,xAd hlt,hob,hcx,intc]
    refine hq x (xmG hx) S' hke _ ?_
    intro S'' hup
    have hob2:S''.obj o=some (.row 1 (els intc c)):=by rw [hup.2 o (Nat.lt_of_lt_of_le hol hke.1)];exact hob
    have hke2:Keeps (·=o) S S'':=⟨Nat.le_trans hke.1 hup.1,fun a b hM=>by rw [hup.2 a (Nat.lt_of_lt_of_le b hke.1)];exact hke.2 a b hM⟩
    cases hqx:q x
    ·have hil:i < l.length:=by omega
     obtain ⟨y,hy⟩:∃ y,c[i]?=some y:=⟨_,xgG (by omega)⟩
     simp [h0,h1,h5,h6,xAd hil,hob2,hy,intc,e4,e5]
     refine ⟨j + 1,by omega,i + 1,by omega,by omega,c.set i x,by simpa using hcl,?_,?_,rfl,by omega,⟨hke2.1,fun a b hM=>?_⟩,?_⟩
     ·rw [hst,xAe (x:=x) (by rw [List.getElem?_set_self (by omega)]),List.take_set_of_le (by omega),hct]
      simp [hqx]
     ·rw [List.drop_set_of_lt (by omega)]
      exact hdr c hcd
     ·simp [hM]
      exact hke2.2 a b hM
     ·rw [<- xAg];rfl
    ·simp [h0,h1,h5,h6,e4]
     refine ⟨j + 1,by omega,i,by omega,by omega,c,hcl,?_,hdr c hcd,rfl,by omega,hke2,hob2⟩
     rw [hst,hct];simp [hqx]
   ·have hj:j=l.length:=by omega
    subst hj
    rw [List.take_length] at hct
    have hil:i<=l.length:=by omega
    have hlen:(l.filter fun x=>!q x).length=i:=by rw [<- hct];simp;omega
    simp [h0,h5,h6,xEN hil,xJl hil,hob,hcl,hil]
    rw [hlen] at hk
    have hX:(List.take i (els intc c) ++ (List.replicate (l.length - i) [AV.int IntKind.i64 0] ++ List.drop l.length (els intc c))).take i=els intc (l.filter fun x=>!q x):=by
     rw [List.take_append_of_le_length (by simp;omega),List.take_take,Nat.min_self,xAu,hct]
    refine ⟨_,Wk.cut (o:=o) (sz:=1) i (by simp;rfl),hk _ ⟨hke.1,fun a ha hM=>?_⟩ ?_⟩
    ·simp [hM];exact hke.2 a ha hM
    ·simp only [xKK,if_pos];rw [hX]
  ·have hx:l[i]?=some l[i]:=xgG hi1
   refine ⟨i,l,by omega,by omega,rfl,?_,rfl,by simp,by simp,by simp,by simp,hk1,hob1⟩
   rw [xGq hx,hi2]
   simp
   symm
   rw [List.filter_eq_self]
   intro y hy
   obtain ⟨j,hj,rfl⟩:=List.mem_iff_getElem.1 hy
   rw [List.length_take] at hj
   rw [List.getElem_take]
   have:=hi3 j (by omega)
   simpa using this
theorem xIk {fv:AV} {w:AV} {l:List Int} {S0 S:St} {K:AV->St->Prop} (h:Nw S0 S w l) (hl:l.length < 2 ^ 40) (q:Int->Bool)
  (hq:∀x ∈ l,∀S',Up S0 S'->∀K':AV->St->Prop,(∀S'',Up S' S''->K' (.bool (q x)) S'')->CalV P g fv [.int .i64 x] S' K')
  (hk:∀w' S',Nw S0 S' w' (l.filter fun x=>!q x)->K w' S'):Cal P g 93 [w,fv] S K:=by
 obtain ⟨h1,h2,h3⟩:=h
 rcases h1 with ⟨rfl,rfl⟩ | ⟨o,rfl,ho,hob⟩
 ·refine Cal.inF (by kernel_rfl) ?_
  conv=>arg 3;reduce
  simp
  refine xEd (FSl.nil (e:=intc) (sz:=1)) (by simp) q (fun x hx=>by simp at hx) fun S' hup=>?_
  simp [indexF]
  exact hk _ _ ⟨.inl ⟨rfl,rfl⟩,h2.trans hup,fun q c e=>by cases e⟩
 ·have hoo:=h3 o _ rfl
  have up:∀S',Keeps (·=o) S S'->Up S0 S':=fun S' hke=>⟨Nat.le_trans h2.1 hke.1,fun a ha=>by rw [hke.2 a (Nat.lt_of_lt_of_le ha h2.1) (by omega)];exact h2.2 a ha⟩
  refine xG4 hob ho hl q (fun x hx S' hke K' hK'=>hq x hx S' (up S' hke) K' hK') fun S' hke hob'=>?_
  refine hk _ _ ⟨.inr ⟨o,rfl,Nat.lt_of_lt_of_le ho hke.1,hob'⟩,up S' hke,fun q c e=>by cases e;exact hoo⟩
theorem xCy {w:AV} {S:St} {K:AV->St->Prop} (hw:lenV w=some 0) (hk:K (.tuple []) S):Cal P g 96 [w] S K:=by
 refine Cal.inF (by kernel_rfl) ?_
 conv=>arg 3;reduce
 simp [hw]
 have e0:IntKind.u64.wrap 0=((0:Nat):Int):=rfl
 rw [e0]
 refine (bits_Len 0 (by omega)).use (n:=9) ?_ rfl ?_ <;> simp
 have e1:Lib.bitLen 0=0:=rfl
 rw [e1]
 refine xOF _ _ _ ?_
 simp
 exact hk
theorem xSN {w:AV} {l:List Int} {S0 S:St} {K:AV->St->Prop} (h:Nw S0 S w l) (hl:l.length < 2 ^ 40) (hk:∀S',Nw S0 S' w (sorted l)->K (.tuple []) S'):Cal P g 96 [w] S K:=by
 obtain ⟨h1,h2,h3⟩:=h
 rcases h1 with ⟨rfl,rfl⟩ | ⟨o,rfl,ho,hob⟩
 ·exact xCy rfl (hk S ⟨.inl ⟨rfl,by simp [sorted]⟩,h2,fun q c e=>by cases e⟩)
 ·have hoo:=h3 o _ rfl
  by_cases hne:l=[]
  ·subst hne
   exact xCy rfl (hk S ⟨.inr ⟨o,by simp [sorted],ho,by simpa [sorted] using hob⟩,h2,h3⟩)
  ·refine xBm hob hne hl (hk _ ⟨.inr ⟨o,by rw [xAH],ho,by simp⟩,h2.put hoo _,h3⟩)
def Dn (S0 S:St) (w:AV) (l:List Int):Prop:=(w=.fsl 1 []/\l=[]) \/ ∃ o,w=.sl 1 o 0 l.length/\S0.next<=o/\o < S.next/\S.obj o=some (.row 1 (els intc l))
theorem xMZ {w:AV} {l:List Int} {S0 S:St} {K:AV->St->Prop} (h:Nw S0 S w l) (hl:l.length < 2 ^ 40) (hk:∀w' S',Dn S0 S' w' (compactL l)->Up S0 S'->K w' S'):Cal P g 97 [w] S K:=by
 obtain ⟨h1,h2,h3⟩:=h
 refine Cal.post ?_
 rcases h1 with ⟨rfl,rfl⟩ | ⟨o,rfl,ho,hob⟩
 ·refine xCi ⟨.fsl 1 [],S,.inr (.inr ⟨rfl,1,rfl⟩),Wk.refl _,hk _ _ (.inl ⟨rfl,rfl⟩) h2⟩
 ·have hoo:=h3 o _ rfl
  refine xCh hob hl ?_
  have hcut:=Wk.cut (S:=S.set o (.row 1 (els intc (compactL l ++ List.replicate (l.length - (compactL l).length) 0)))) (o:=o) (sz:=1) (compactL l).length (by simp;rfl)
  rw [xAu,List.take_left',xAk] at hcut
  ·by_cases hne:compactL l=[]
   ·refine ⟨.fsl 1 [],_,.inr (.inr ⟨by simp [hne],1,rfl⟩),hcut,hk _ _ (.inl ⟨rfl,hne⟩) (h2.put hoo _)⟩
   ·exact ⟨_,_,.inl rfl,hcut,hk _ _ (.inr ⟨o,rfl,hoo,ho,by simp⟩) (h2.put hoo _)⟩
  ·rfl
def GrV (v:AV) (G:List (List Int)):Prop:=(v=.nilsl/\G=[]) \/ ∃ ws:List AV,v=.fsl 1 (ws.map fun w=>[w])/\ws.length=G.length/\∀(k:Nat) (w:AV) (l:List Int),ws[k]?=some w->G[k]?=some l->FSl intc 1 w l
theorem GrV.len {v:AV} {G:List (List Int)} (h:GrV v G):lenV v=some G.length:=by
 rcases h with ⟨rfl,rfl⟩ | ⟨ws,rfl,h,_⟩
 ·rfl
 ·simp [h]
theorem GrV.stab {v:AV} {G:List (List Int)} (h:GrV v G):v.stab=true:=by
 rcases h with ⟨rfl,rfl⟩ | ⟨ws,rfl,h,_⟩ <;> rfl
theorem GrV.cells {v:AV} {G:List (List Int)} (h:GrV v G):v.cells=[v]:=by
 rcases h with ⟨rfl,rfl⟩ | ⟨ws,rfl,h,_⟩ <;> rfl
theorem GrV.one {v:AV} {G:List (List Int)} (h:GrV v G):v.one=true:=by
 rcases h with ⟨rfl,rfl⟩ | ⟨ws,rfl,h,_⟩ <;> rfl
theorem GrV.solid {v:AV} {G:List (List Int)} (h:GrV v G):v.solid=true:=by
 rcases h with ⟨rfl,rfl⟩ | ⟨ws,rfl,h,_⟩ <;> rfl
theorem GrV.idx {v:AV} {G:List (List Int)} (h:GrV v G) {k:Nat} {l:List Int} (hl:G[k]?=some l):∃ w,FSl intc 1 w l/\pk (.indexAddr 1) [v,.int .i64 (k:Int)]=some (.fptr [w] 0):=by
 rcases h with ⟨rfl,rfl⟩ | ⟨ws,rfl,h1,h2⟩
 ·simp at hl
 ·have hlt:=(xgS hl).1
  have hw:ws[k]?=some (ws[k]'(by omega)):=xgG _
  refine ⟨_,h2 k _ l hw hl,?_⟩
  rw [xAL,if_pos (by omega)]
  simp [hw]
def inGr (n:Nat) (x:Int):Bool:=decide (0<=x) && decide (x < n)
theorem xIl {v:AV} {n:Nat} (hv:lenV v=some n) (hs:v.stab=true) (x:Int):Ret P g false 92 [v,.int .i64 x] (.bool (inGr n x)):=by
 refine Ret.inF (by kernel_rfl) ?_
 conv=>arg 3;reduce
 simp [inGr]
 by_cases hx:(0:Int)<=x
 ·simp [hx,hv]
  exact RK.stab rfl
 ·simp [hx]
  exact RK.stab rfl
theorem xJw {x:Int} {p n:Nat} {v:AV} {S:St} {K:AV->St->Prop} (hp:S.obj p=some (.row 1 [[v]])) (hv:lenV v=some n) (hs:v.stab=true) (hk:K (.bool (!inGr n x)) S):Cal P g 95 [.int .i64 x,.ptr p 0 0] S K:=by
 refine Cal.inF (by kernel_rfl) ?_
 conv=>arg 3;reduce
 simp [hp]
 refine (xIl hv hs x).use (n:=9) ?_ rfl ?_ <;> simp [xAc hs]
 exact hk
def cleanL (n:Nat) (l:List Int):List Int:=compactL (sorted (l.filter (inGr n)))
def cleanG (G:List (List Int)):List (List Int):=G.map (cleanL G.length)
def encG (G:List (List Int)):AV:=.fsl 1 (els (fun l=>[.fsl 1 (els intc l)]) G)
theorem xAq {n:Nat} {l:List Int} {x:Int}:x ∈ cleanL n l ↔ x ∈ l/\0<=x/\x < n:=by
 rw [cleanL,xDQ,sorted,List.mem_mergeSort,List.mem_filter]
 simp [inGr]
theorem xCo (G:List (List Int)):GrV (encG G) G:=by
 refine .inr ⟨G.map fun l=>.fsl 1 (els intc l),by simp [encG,els],by simp,fun k w l hw hl=>?_⟩
 rw [List.getElem?_map,hl] at hw
 cases hw
 exact FSl.mk
theorem xJx {α β:Type} {f:α->Option β}:∀{l:List α} {m:List β},l.length=m.length->(∀(k:Nat) (x:α),l[k]?=some x->f x=m[k]?)->mapOpt f l=some m
 | [],[],_,_=>rfl
 | [],_ :: _,h,_=>by simp at h
 | _ :: _,[],h,_=>by simp at h
 | x :: l,y :: m,h,hf=>by
  have h0:=hf 0 x rfl
  have:=xJx (f:=f) (l:=l) (m:=m) (by simpa using h) fun k z hz=>by simpa using hf (k + 1) z (by simpa using hz)
  simp at h0
  simp [mapOpt,h0,this]
theorem xAr {S:St} {o n sz m:Nat} {es ys:List (List AV)} (ho:S.obj o=some (.row sz es)) (hl:es.length=n) (hy:ys.length=n) (hp:∀(k:Nat) (e:List AV),es[k]?=some e->mapOpt (pict S [] m) e=ys[k]?):pict S [] (m + 1) (.sl sz o 0 n)=some (.fsl sz ys):=by
 have hel:elems S (.sl sz o 0 n)=some es:=by
  rw [xCN ho (by omega),List.drop_zero,List.take_of_length_le (by omega)]
 rw [xEJ,hel]
 simp only [Option.bind_some]
 rw [xJx (by omega) hp];rfl
theorem xCz {S:St} {o:Nat} {l:List Int} (h:S.obj o=some (.row 1 (els intc l))):S.news.obj o=some (.row 1 (els intc l)):=by
 rw [xBS,h]
 have:(AObj.row 1 (els intc l)).young=true:=by
  show youngss _=true
  rw [xAM,xEc]
  intro x hx
  rw [List.mem_map] at hx
  obtain ⟨y,_,rfl⟩:=hx
  rfl
 simp [Option.filter,this]
theorem Dn.pict {S0 S:St} {w:AV} {l:List Int} {n:Nat} (h:Dn S0 S w l):Vm.pict S.news [] (n + 2) w=some (.fsl 1 (els intc l)):=by
 rcases h with ⟨rfl,rfl⟩ | ⟨o,rfl,_,_,ho⟩
 ·rfl
 ·refine xAr (xCz ho) (by simp) (by simp) fun k e he=>?_
  rw [he]
  simp only [els,List.getElem?_map] at he
  cases hx:l[k]? with
  | none=>rw [hx] at he;cases he
  | some x=>rw [hx] at he;cases he;simp [intc]
theorem Dn.young {S0 S:St} {w:AV} {l:List Int} (h:Dn S0 S w l):w.young=true:=by
 rcases h with ⟨rfl,rfl⟩ | ⟨o,rfl,_⟩ <;> rfl
theorem Dn.one {S0 S:St} {w:AV} {l:List Int} (h:Dn S0 S w l):w.one=true:=by
 rcases h with ⟨rfl,rfl⟩ | ⟨o,rfl,_⟩ <;> rfl
theorem Dn.keep {S0 S S':St} {w:AV} {l:List Int} {oo:Nat} (h:Dn S0 S w l) (hu:∀q,q < S.next->q ≠ oo->S'.obj q=S.obj q) (hn:S.next<=S'.next) (ho:oo < S0.next):Dn S0 S' w l:=by
 rcases h with h | ⟨o,rfl,h1,h2,h3⟩
 ·exact .inl h
 ·exact .inr ⟨o,rfl,h1,by omega,by rw [hu o h2 (by omega)];exact h3⟩
theorem xDb {x:AV} (h:x.one=true):x.cells=[x]:=by
 cases x <;> first | rfl | (simp at h)
theorem xAE {v:AV} {G:List (List Int)} (hv:GrV v G) (hG:G.length < 2 ^ 30) (hl:∀l ∈ G,l.length < 2 ^ 30):Ret P g true 55 [v] (encG (cleanG G)):=by
 refine Ret.inP (cF0 (by kernel_rfl)) (nF (by kernel_rfl)) (vO ?_)
 have hroom:G.length<=room:=by simp [room];omega
 conv=>arg 3;reduce
 simp [hv.cells,hv.len,hroom,hv.one]
 refine W.whileI (fun (k:Nat) F S=>k<=G.length/\F 1=.ptr 0 0 0/\F 3=.sl 1 1 0 G.length/\F 10=v/\F 11=.int .i64 G.length/\F 12=.int .i64 k/\2<=S.next/\S.obj 0=some (.row 1 [[v]]) /\
  ∃ es,S.obj 1=some (.row 1 es)/\es.length=G.length/\(∀e ∈ es,e.length=1)/\∀(j:Nat) (l:List Int),j < k->G[j]?=some l->∃ w,es[j]?=some [w]/\Dn ⟨2,fun _=>none⟩ S w (cleanL G.length l)) (fun k=>G.length - k) ?_ 0 _ _ ?_
 ·rintro k F S ⟨hkn,h1,h3,h10,h11,h12,hn,hb,es,he,hel,hel1,hes⟩
  by_cases hlt:k < G.length
  ·obtain ⟨l,hx⟩:∃ l,G[k]?=some l:=⟨_,xgG hlt⟩
   obtain ⟨w,hw,hix⟩:=hv.idx hx
   have hll:=hl l (xmG hx)
   have e4:=wrapS k (by omega)
   simp [h11,h12,hlt]
   simp [h10,h12,hix]
   refine xCZ hw hll (Up.refl S) fun w1 S1 hw1=>?_
   simp [h1]
   refine xIk hw1 (by omega) (fun x=>!inGr G.length x) ?_ fun w2 S2 hw2=>?_
   ·intro x hx S' hup K' hK'
    simp
    exact xJw (by rw [hup.2 0 (by omega)];exact hb) hv.len hv.stab (hK' _ (Up.refl _))
   simp
   have hfl:(l.filter (inGr G.length)).length < 2 ^ 40:=Nat.lt_of_le_of_lt (List.length_filter_le _ _) (by omega)
   simp at hw2
   refine xSN hw2 hfl fun S3 hw3=>?_
   simp
   refine xMZ hw3 (by rw [xAH];exact hfl) fun w4 S4 hw4 hup4=>?_
   have hup4':=hup4.2
   have he4:S4.obj 1=some (.row 1 es):=by rw [hup4' 1 (by omega)];exact he
   obtain ⟨e0,he0⟩:∃ e0,es[k]?=some e0:=⟨_,xgG (by omega)⟩
   obtain ⟨u0,rfl⟩:∃ u,e0=[u]:=List.length_eq_one_iff.1 (hel1 e0 (xmG he0))
   simp [h3,xAd hlt,he4,he0,hw4.one,h1,h10,h11,h12,e4,xDb hw4.one]
   refine ⟨k + 1,by omega,by omega,by omega,by have:=hup4.1;omega,by rw [hup4' 0 (by omega)];exact hb,hel,?_,?_⟩
   ·intro e he
    rcases List.mem_or_eq_of_mem_set he with h | rfl
    ·exact hel1 e h
    ·rfl
   ·intro j m hj hm
    by_cases hjk:j=k
    ·subst hjk
     rw [hx] at hm;cases hm
     refine ⟨w4,by rw [List.getElem?_set_self (by omega)],?_⟩
     rcases hw4 with h | ⟨o,rfl,a1,a2,a3⟩
     ·exact .inl h
     ·exact .inr ⟨o,rfl,by show 2<=o;omega,by simpa using a2,by simp [show ¬ o=1 by omega];exact a3⟩
    ·obtain ⟨w',b1,b2⟩:=hes j m (by omega) hm
     refine ⟨w',by rw [List.getElem?_set_ne (Ne.symm hjk)];exact b1,?_⟩
     refine b2.keep (oo:=1) (fun q hq hq1=>?_) hup4.1 (by show 1 < 2;omega)
     simp [hq1]
     exact hup4' q hq
  ·have:k=G.length:=by omega
   subst this
   simp [h11,h12,h3]
   have hyo:(AObj.row 1 es).young=true:=by
    show youngss es=true
    rw [xAM]
    intro x hx
    rw [List.mem_flatten] at hx
    obtain ⟨e,he',hx⟩:=hx
    obtain ⟨j,hj,rfl⟩:=List.mem_iff_getElem.1 he'
    obtain ⟨l,hl'⟩:∃ l,G[j]?=some l:=⟨_,xgG (by omega)⟩
    obtain ⟨w,a1,a2⟩:=hes j l (by omega) hl'
    rw [xgG hj] at a1
    simp at a1
    rw [a1] at hx
    simp at hx
    rw [hx];exact a2.young
   refine ⟨rfl,3,xAr (es:=es) ?_ hel (by simp [cleanG]) fun j e hj=>?_⟩
   ·rw [xBS,he]
    simp [Option.filter,hyo]
   ·have hjl:=(xgS hj).1
    obtain ⟨l,hl'⟩:∃ l,G[j]?=some l:=⟨_,xgG (by omega)⟩
    obtain ⟨w,a1,a2⟩:=hes j l (by omega) hl'
    rw [hj] at a1;cases a1
    simp [mapOpt,a2.pict,els,cleanG,hl']
 ·simp
end Go.Proofs.YtnhfofmhkfdpgaaGreatDoor.Vm
