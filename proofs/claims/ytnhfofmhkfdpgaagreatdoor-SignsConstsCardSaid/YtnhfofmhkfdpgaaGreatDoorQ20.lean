/- A part of the proof: Fq Fr Ft Fv Fw Fy La Gb Gc Gd Ge Gf Gg. -/
import Derived.Test.YtnhfofmhkfdpgaaGreatDoorQ19
set_option linter.unusedVariables false
set_option linter.unusedSimpArgs false
set_option linter.constructorNameAsVariable false
namespace Go.Proofs.YtnhfofmhkfdpgaaGreatDoor.Vm
open Go Go.RowKit
variable {N:Nat} {g:Glob}
theorem xHG {x:AV} {S:St} {K:AV→St→Prop} (hk:K (.bool false) S):Cal P g 39 [.niliface,x] S K:=by
 refine c39.in (by simp) ?_
 simp [k39]
 exact hk
theorem xHH {oe ot:Nat} {x:AV} {S:St} {K:AV→St→Prop} (hot:S.obj ot=some (.row 1 [[x]])) (hk:K (.bool true) (S.set ot (.row 1 [[.ptr oe 0 0]]))) :
  Cal P (gl N) 39 [.iface 86 (.ptr oe 0 0),.iface 91 (.ptr ot 0 0)] S K:=by
 refine ⟨c39.call,?_⟩
 intro vs C hS hR hvs hN hG
 subst hS
 cases hvs with
 | cons v1 x1 us xs hv1 hvs =>
 cases hvs with
 | cons v2 x2 us xs hv2 hvs =>
 cases hvs
 cases hv1 with
 | iface t1 u1 y1 h1 =>
 cases hv2 with
 | iface t2 u2 y2 h2 =>
 cases h1 with
 | ptr _ _ _ le hle =>
 cases h2 with
 | ptr _ _ _ lt hlt =>
 obtain ⟨loc,c,ty,vs,k1,k2,k3,k4,k5,k6,k7,k8,_⟩:=xBv hR hot (i:=0) rfl
 rw [k1] at hlt
 have hlt:=yBH hlt
 subst hlt
 have hblk:=(yAD.1 k4).1
 obtain ⟨old,hold⟩:∃ o,vs=[o]:=by
  cases k8 with
  | cons v y us ys hv hus=>cases hus;exact ⟨v,rfl⟩
 subst hold
 have hcell:C.w.cell? ⟨loc.blk,loc.off,none⟩=some old:=by
  rw [cell_of_row C.w loc.blk _ c ty (0,0) k4]
  exact k7 0 old rfl
 have hfr:=frozen_of_row C.w loc.blk loc.off c ty k4
 simp only [Nat.zero_mul,yBG]
 refine Calls.mono (xTK ⟨le.blk,le.off,none⟩ ⟨loc.blk,loc.off,none⟩ old C.w hG.2.2 hcell hfr) ?_
 rintro e w' ⟨rfl,rfl⟩
 let ob:Obj:=.cells (c.setIfInBounds loc.off (.pointer (some ⟨le.blk,le.off,none⟩))) ty (0,0)
 have hL1:Le C (C.wrote ot loc.blk ob (.row 1 [[.ptr oe 0 0]])):=xB6 hR hot k1 k4 ob (fun c' e f h=>by cases h;exact ⟨_,_,rfl,by simp⟩) _
 have hR1:Rel (C.wrote ot loc.blk ob (.row 1 [[.ptr oe 0 0]])):=by
  refine xBC hR hot k1 hL1 (.inr ⟨loc,_,ty,[.pointer (some ⟨le.blk,le.off,none⟩)],k1,k2,k3,xAl _ hblk,?_,?_,?_,?_⟩)
  ·simpa using k5
  ·simp
  ·intro j v hj
   match j,hj with
   | 0,hj =>
    simp at hj
    subst hj
    rw [yBG,Array.getElem?_setIfInBounds_self_of_lt (by simp at k5;omega)]
  ·refine .cons _ _ _ _ ?_ .nil
   have:=VR.ptr (C:=C.wrote ot loc.blk ob (.row 1 [[.ptr oe 0 0]])) oe 0 0 le hle
   simpa using this
 have hB:Below (putBlk C.w loc.blk ob).heap.size (putBlk C.w loc.blk ob) (((((C.w.alloc (.cells #[.pointer (some ⟨loc.blk,loc.off,none⟩)] 91)).alloc (.cells #[.pointer (some ⟨5,91,none⟩),.pointer (some ⟨C.w.heap.size,0,none⟩),.int .u64 150] 138)).alloc (.cells #[.pointer (some ⟨5,91,none⟩),.pointer (some ⟨C.w.heap.size,0,none⟩),.int .u64 150] 138)).alloc (.cells #[.pointer (some ⟨le.blk,le.off,none⟩)] 86)).setCell ⟨loc.blk,loc.off,none⟩ (.pointer (some ⟨le.blk,le.off,none⟩))):=by
  refine ⟨rfl,rfl,rfl,by rw [xAO];simp [World.setCell];omega,fun k hk=>?_⟩
  rw [xAO] at hk
  simp only [World.setCell,Array.getElem?_modify]
  have hb:=((((Below.refl C.w.heap.size C.w).alloc (yAC _) (.cells #[.pointer (some ⟨loc.blk,loc.off,none⟩)] 91)).alloc (by simp) (.cells #[.pointer (some ⟨5,91,none⟩),.pointer (some ⟨C.w.heap.size,0,none⟩),.int .u64 150] 138)).alloc (by simp;omega) (.cells #[.pointer (some ⟨5,91,none⟩),.pointer (some ⟨C.w.heap.size,0,none⟩),.int .u64 150] 138)).alloc (by simp;omega) (.cells #[.pointer (some ⟨le.blk,le.off,none⟩)] 86)
  rw [hb.block k hk]
  by_cases e:loc.blk=k
  ·subst e;rw [if_pos rfl,xAl _ hk,k4];rfl
  ·rw [if_neg e,xAB _ (fun h=>e h.symm)]
 have h2:=xLJ hR1 hB
 have h3:=xIt hR1 hB
 refine ⟨_,.bool true,_,rfl,?_,?_,hL1.trans h2,h3,.bool _⟩
 ·exact hk
 ·rfl
theorem xD1 (p:Prg) (hp:p.Fit):Ret P (gl N) false 10 [encP p] (.bool p.sane):=by
 refine Ret.in c10 (by simp) ?_
 simp [k10]
 refine xL0 p hp _ _ ?_
 intro v S' hup hok hbad
 simp
 cases hs:p.sane
 ·obtain ⟨o,s,n,rfl,h1,h2,h3⟩:=hbad hs
  refine xHH (x:=.nilptr) ?_ ?_
  ·rw [hup.2 1 (by simp)];simp
  ·simp
   exact RK.stab rfl
 ·obtain rfl:=hok hs
  refine xHG ?_
  simp
  exact RK.stab rfl
def Fun.none:Fun:=⟨0,0,[],true⟩
def Blk.none:Blk:=⟨false,[],true,[],true⟩
@[simp] theorem Fun.none_blksV:Fun.none.blksV=.nilsl:=by simp [Fun.none,Fun.blksV,encN]
@[simp] theorem Fun.none_par:Fun.none.par=0:=rfl
@[simp] theorem Fun.none_vars:Fun.none.vars=0:=rfl
@[simp] theorem Fun.none_blks:Fun.none.blks=[]:=rfl
@[simp] theorem Blk.none_on:Blk.none.on=false:=rfl
@[simp] theorem Blk.none_ins:Blk.none.ins=[]:=rfl
@[simp] theorem Blk.none_out:Blk.none.out=[]:=rfl
@[simp] theorem Blk.none_insV:Blk.none.insV=.nilsl:=by simp [Blk.none,Blk.insV,encN]
@[simp] theorem Blk.none_outV:Blk.none.outV=.nilsl:=by simp [Blk.none,Blk.outV,encN]
noncomputable def Prg.fn (p:Prg) (i:Int):Option Fun:=if 0≤i∧p.sane=true then p.funs[i.toNat]? else none
theorem xD2 (p:Prg) (i:Int) (hp:p.Fit):Ret P (gl N) false 50 [encP p,.int .i64 i] (.tuple [encFun ((p.fn i).getD Fun.none),.bool (p.fn i).isSome]):=by
 refine Ret.in c50 (by simp) ?_
 have hfl:=hp.funs
 simp [k50]
 refine xAM (fun h1=>?_) (fun h1=>?_) <;> simp [h1]
 ·obtain ⟨k,rfl⟩:=Int.eq_ofNat_of_zero_le (show 0≤i by omega)
  refine xAM (fun h2=>?_) (fun h2=>?_) <;> simp [h2]
  ·obtain ⟨f,hf⟩:∃ b,p.funs[k]?=some b:=⟨_,xgG (by omega)⟩
   refine (xD1 p hp).use (n:=9) ?_ rfl ?_ <;> simp
   cases hs:p.sane
   ·simp
    exact ⟨3,by simp [Prg.fn,hs]⟩
   ·simp [p.funsS.idx hf]
    exact ⟨3,by simp [Prg.fn,hs,hf]⟩
  ·have hn:p.funs[k]?=none:=yAG (by omega)
   exact ⟨3,by simp [Prg.fn,hn]⟩
 ·exact ⟨3,by simp [Prg.fn,show ¬ 0≤i by omega]⟩
def Fun.blk (f:Fun) (i:Int):Option Blk:=if f.live i=true then f.blks[i.toNat]? else Option.none
noncomputable def Prg.blk (p:Prg) (i j:Int):Option Blk:=(p.fn i).bind fun f=>f.blk j
theorem xK2 {p:Prg} (hp:p.Fit) {i:Int} {f:Fun} (h:p.fn i=some f):f.Small:=by
 unfold Prg.fn at h
 split at h
 ·exact hp.each f (xmG h)
 ·cases h
theorem xEz (p:Prg) (i j:Int) (hp:p.Fit):Ret P (gl N) false 34 [encP p,.int .i64 i,.int .i64 j] (.tuple [encBlk ((p.blk i j).getD Blk.none),.bool (p.blk i j).isSome]):=by
 refine Ret.in c34 (by simp) ?_
 simp [k34]
 refine (xD2 p i hp).use (n:=9) ?_ (by simp [solids,AV.solid,p.funsS.solid]) ?_ <;> simp
 have hlen:((p.fn i).getD Fun.none).blks.length < 2 ^ 40:=by
  cases h:p.fn i with
  | none=>simp [Fun.none]
  | some f=>have:=(xK2 hp h).blks;simp;omega
 refine (xIK ((p.fn i).getD Fun.none) j hlen).use (n:=9) ?_ rfl ?_ <;> simp
 cases hl:((p.fn i).getD Fun.none).live j
 ·simp
  have:p.blk i j=none:=by
   unfold Prg.blk
   cases h:p.fn i with
   | none=>rfl
   | some f=>rw [h] at hl;simp at hl;simp [Fun.blk,hl]
  exact ⟨3,by simp [this]⟩
 ·cases h:p.fn i with
  | none=>rw [h] at hl;simp [Fun.live,Fun.none] at hl
  | some f =>
   rw [h] at hl;simp at hl
   have hl':=hl
   unfold Fun.live at hl'
   simp only [yAJ,decide_eq_true_eq] at hl'
   obtain ⟨k,rfl⟩:=Int.eq_ofNat_of_zero_le hl'.1
   obtain ⟨b,hb⟩:∃ b,f.blks[k]?=some b:=by
    cases hb:f.blks[k]? with
    | none=>rw [yAs,hb] at hl';simp at hl'
    | some b=>exact ⟨b,rfl⟩
   have hblk:p.blk i k=some b:=by simp [Prg.blk,h,Fun.blk,hl,hb]
   simp [f.blksS.idx hb]
   exact ⟨3,by simp [hblk]⟩
section
variable {P:Program}
theorem W.rangeC {n:Nat} {x:VX} {ps:Array Nat} {asg body:Code} {F:AFrame} {S:St} {f:Nat} {captured:List AV} {Q:Res→Prop} (hx:x.eval F=.func (.func f) [] captured)
  (h:Cal P g f (.yield S.next :: captured) (S.new (.loop n ps F asg body .ready)) fun _ S'=>S'.obj S.next=some (.loop n ps F asg body .ready)∧Q (.code .normal F (S'.drop S.next))):W P g (.code (.rangeFunc n x ps asg body) F S) Q:=by
 refine W.rangeFunc hx h.1 (W.mono h.2 fun r hr=>?_)
 cases r with
 | val v S'=>exact ⟨_,hr.1,hr.2⟩
 | code e F' S'=>exact hr.elim
def KAsg (P:Program) (g:Glob) (R:AV→St→Prop) (q n:Nat) (ps:Array Nat) (LF:AFrame) (asg body:Code) (cb:VCode):Res→Prop
 | .code .normal F S=>S.obj q=some (.loop n ps LF asg body .ready)∧vc P g cb F (S.set q (.loop n ps LF asg body .busy)) (roundQ R q n ps LF asg body)
 | _=>False
@[simp] theorem xQ6 {R q n ps LF asg body cb F S}:KAsg P g R q n ps LF asg body cb (.code .normal F S)=(S.obj q=some (.loop n ps LF asg body .ready)∧vc P g cb F (S.set q (.loop n ps LF asg body .busy)) (roundQ R q n ps LF asg body)):=_root_.id rfl
@[simp] theorem xPs {R q n ps LF asg body F S}:roundQ R q n ps LF asg body (.code .normal F S)=(S.obj q=some (.loop n ps LF asg body .busy)∧R (.bool true) (S.set q (.loop n ps LF asg body .ready))):=_root_.id rfl
theorem Yie.in {q n:Nat} {ps:Array Nat} {LF:AFrame} {asg body:Code} {ca cb:VCode} {xs:List AV} {S:St} {K:AV→St→Prop} (hq:S.obj q=some (.loop n ps LF asg body .ready)) (hl:xs.length=ps.size) (hps:ps.all (· < n)=true)
  (hca:compCode P n asg=some ca) (hcb:compCode P n body=some cb) (h:vc P g ca (puts LF ps.toList xs) S (KAsg P g K q n ps LF asg body cb)):Yie P g q xs S K:=by
 refine ⟨n,ps,LF,asg,body,ca,cb,hq,hl,hps,hca,hcb,W.mono (xA0 h) fun r hr=>?_⟩
 cases r with
 | val v S'=>exact hr.elim
 | code e F S' =>
  cases e with
  | normal=>exact ⟨hr.1,xA0 hr.2⟩
  | exit id=>exact hr.elim
  | ret=>exact hr.elim
end
def Keeps (M:Nat→Prop) (S S':St):Prop:=S.next≤S'.next∧∀o,o < S.next→¬ M o→S'.obj o=S.obj o
@[simp] def setc (s:BSet):List AV:=[.int .i64 (s.n:Int),.fsl 1 (els u64c s.ws)]
def Blk.few (b:Blk):Bool:=decide (b.ins.length≤30) && decide (b.out.length≤30)
def Fun.few (f:Fun):Bool:=decide (f.blks.length≤20) && f.blks.all Blk.few
def Prg.few (p:Prg):Bool:=decide (p.funs.length≤10) && p.funs.all Fun.few
theorem Prg.few_fit {p:Prg} (h:p.few=true):p.Fit:=by
 simp only [Prg.few,yAJ,decide_eq_true_eq,yAa] at h
 refine ⟨by omega,fun f hf=>?_⟩
 have:=h.2 f hf
 simp only [Fun.few,yAJ,decide_eq_true_eq,yAa] at this
 refine ⟨by omega,fun b hb=>?_,fun b hb=>?_⟩ <;>
 ·have:=this.2 b hb
  simp only [Blk.few,yAJ,decide_eq_true_eq] at this
  omega
theorem xJ4 {p:Prg} {f:Fun} (hf:f ∈ p.funs) (h:f.few=false):p.few=false:=by
 cases hp:p.few
 ·rfl
 ·simp only [Prg.few,yAJ,yAa] at hp
  rw [hp.2 f hf] at h;cases h
theorem xK3 {f:Fun} {b:Blk} (hb:b ∈ f.blks) (h:b.few=false):f.few=false:=by
 cases hp:f.few
 ·rfl
 ·simp only [Fun.few,yAJ,yAa] at hp
  rw [hp.2 b hb] at h;cases h
theorem xIO (p:Prg):Ret P g false 9 [encP p] (.bool p.few):=by
 refine Ret.in c9 (by simp) ?_
 simp [k9]
 refine xAj (fun h10=>?_) (fun h10=>?_) <;> simp [h10]
 ·exact RK.eq (by simp only [Prg.few];rw [decide_eq_false (by omega)];rfl) rfl
 have h10':p.funs.length≤10:=by omega
 refine W.whileI (fun (k:Nat) F S=>k≤p.funs.length∧(∀(j:Nat) (f:Fun),j < k→p.funs[j]?=some f→f.few=true)∧F 1=.ptr 0 0 0∧F 3=.int .i64 k∧S.obj 0=some (.row 1 [[p.funsV]])∧1≤S.next) (fun k=>p.funs.length - k) ?_ 0 _ _ ?_
 ·rintro k F S ⟨hk,hall,f1,f3,s0,sn⟩
  by_cases hlt:k < p.funs.length
  ·obtain ⟨f,hf⟩:∃ x,p.funs[k]?=some x:=⟨_,xgG hlt⟩
   have hmem:=xmG hf
   have e4:=wrapS k (by omega)
   simp [f1,f3,s0,hlt]
   simp [f1,f3,s0,p.funsS.idx hf]
   refine xAj (fun h20=>?_) (fun h20=>?_) <;> simp [h20]
   ·exact RK.eq (by rw [xJ4 hmem (by simp only [Fun.few];rw [decide_eq_false (by omega)];rfl)]) rfl
   have h20':f.blks.length≤20:=by omega
   refine W.whileI (fun (j:Nat) F S=>j≤f.blks.length∧(∀(i:Nat) (b:Blk),i < j→f.blks[i]?=some b→b.few=true)∧F 1=.ptr 0 0 0∧F 3=.int .i64 k∧F 4=.int .i64 j∧S.obj 0=some (.row 1 [[p.funsV]])∧1≤S.next) (fun j=>f.blks.length - j) ?_ 0 _ _ ?_
   ·clear f1 f3 s0 sn
    clear S F
    rintro j F S ⟨hj,hallb,f1,f3,f4,s0,sn⟩
    have m0:¬ 0=S.next:=by omega
    have m1:¬ S.next=0:=by omega
    by_cases hlj:j < f.blks.length
    ·obtain ⟨b,hb⟩:∃ x,f.blks[j]?=some x:=⟨_,xgG hlj⟩
     have hmb:=xmG hb
     have e5:=wrapS j (by omega)
     simp [f1,f3,f4,s0,p.funsS.idx hf,hlj]
     simp [f1,f3,f4,s0,p.funsS.idx hf,f.blksS.idx hb,m0,m1]
     refine xAM (fun h30=>?_) (fun h30=>?_) <;> simp [h30]
     ·refine xAj (fun h31=>?_) (fun h31=>?_) <;> simp [h31]
      ·exact RK.eq (by rw [xJ4 hmem (xK3 hmb (by simp only [Blk.few];rw [decide_eq_false (show ¬ b.out.length≤30 by omega)];simp))]) rfl
      ·simp [f4,e5,f1,f3,s0,m0,m1]
       refine ⟨j + 1,by omega,by omega,?_,by omega⟩
       intro i c hi hc
       by_cases hij:i=j
       ·subst hij;rw [hb] at hc;cases hc
        simp only [Blk.few,yAJ,decide_eq_true_eq];omega
       ·exact hallb i c (by omega) hc
     ·exact RK.eq (by rw [xJ4 hmem (xK3 hmb (by simp only [Blk.few];rw [decide_eq_false (show ¬ b.ins.length≤30 by omega)];rfl))]) rfl
    ·have:j=f.blks.length:=by omega
     subst this
     simp [f1,f3,f4,s0,p.funsS.idx hf,e4]
     refine ⟨k + 1,by omega,by omega,?_,by omega,sn⟩
     intro q h hq hh
     by_cases hqk:q=k
     ·subst hqk;rw [hf] at hh;cases hh
      simp only [Fun.few,yAJ,decide_eq_true_eq,yAa]
      refine ⟨h20',fun b hb=>?_⟩
      obtain ⟨i,hi,rfl⟩:=yAx.1 hb
      exact hallb i _ hi (xgG hi)
     ·exact hall q h (by omega) hh
   ·simp [f1,f3,s0,sn]
  ·have:k=p.funs.length:=by omega
   subst this
   simp [f1,f3,s0]
   refine RK.eq ?_ rfl
   congr 1
   symm
   simp only [Prg.few,yAJ,decide_eq_true_eq,yAa]
   refine ⟨h10',fun f hf=>?_⟩
   obtain ⟨j,hj,rfl⟩:=yAx.1 hf
   exact hall j _ hj (xgG hj)
 ·simp
def Blk.gen (b:Blk):BSet:=b.ins.foldr Ins.live (BSet.new 6)
def Blk.kill (b:Blk):BSet:=b.ins.foldr (fun i s=>s.with i.def) (BSet.new 6)
end Go.Proofs.YtnhfofmhkfdpgaaGreatDoor.Vm
namespace Go.Proofs.YtnhfofmhkfdpgaaGreatDoor.Vm
open Go Go.RowKit
inductive Lv (l:List Blk):Nat→Nat→Prop
 | gen (i:Nat) (b:Blk) (v:Nat) (hb:l[i]?=some b) (hv:b.gen.mem v=true):Lv l i v
 | step (i:Nat) (b:Blk) (v:Nat) (j:Int) (hb:l[i]?=some b) (hj:j ∈ b.out) (h:Lv l j.toNat v) (hk:b.kill.mem v=false):Lv l i v
noncomputable def solAt (l:List Blk) (i:Nat):BSet:=open Classical in BSet.ofL 6 (((List.range 6).filter fun v=>decide (Lv l i v)).map fun v:Nat=>(v:Int))
noncomputable def sol (l:List Blk):List BSet:=(List.range l.length).map (solAt l)
end Go.Proofs.YtnhfofmhkfdpgaaGreatDoor.Vm
namespace Go.Proofs.YtnhfofmhkfdpgaaGreatDoor.Vm
open Go Go.RowKit
variable {N:Nat} {g:Glob}
def Nw (S0 S:St) (w:AV) (l:List Int):Prop:=Rw intc 1 S w l∧Up S0 S∧∀q c,w=.sl 1 q 0 c→S0.next≤q
theorem xCQ {v:AV} {l:List Int} {S0 S:St} {K:AV→St→Prop} (hv:FSl intc 1 v l) (hl:l.length < 2 ^ 30) (h0:Up S0 S) (hk:∀w S',Nw S0 S' w l→K w S'):Cal P g 94 [v] S K:=by
 refine c94.in (by simp) ?_
 have hroom:l.length≤room:=by simp [room];omega
 have hr0:¬ room=0:=by simp [room]
 simp [k94,hv.len]
 refine ⟨?_,?_⟩
 ·rw [hv.elems]
  by_cases hnil:l=[]
  ·subst hnil
   simp [els]
   refine hk _ _ ⟨.inr ⟨S.next,rfl,by simp,by simp [els]⟩,h0.trans (Up.new _ _),?_⟩
   intro q c e;cases e;exact h0.1
  ·have hlen:¬ l.length=0:=fun h=>hnil (yAm.1 h)
   have hok:okAll 1 (els intc l):=xHz
   simp [hnil,hlen,hroom,hr0,hok,show ¬ room < l.length by omega]
   refine hk _ _ ⟨.inr ⟨S.next + 1,rfl,by simp,by simp⟩,⟨by have:=h0.1;simp;omega,?_⟩,?_⟩
   ·intro o ho
    have:=h0.1
    simp [show ¬ o=S.next + 1 by omega,show ¬ o=S.next by omega]
    exact h0.2 o ho
   ·intro q c e;cases e;have:=h0.1;omega
 ·intro hnil
  exact hk _ _ ⟨.inl ⟨rfl,hnil⟩,h0,fun q c e=>by cases e⟩
theorem xHI {fv:AV} {l:List Int} {o:Nat} {S:St} {K:AV→St→Prop} (ho:S.obj o=some (.row 1 (els intc l))) (hol:o < S.next) (hl:l.length < 2 ^ 40) (q:Int→Bool)
  (hq:∀x ∈ l,∀S',Up S S'→∀K':AV→St→Prop,(∀S'',Up S S''→K' (.bool (q x)) S'')→CalV P g fv [.int .i64 x] S' K') (hk:∀S',Up S S'→K (.int .i64 (indexF q l)) S'):Cal P g 137 [.sl 1 o 0 l.length,fv] S K:=by
 refine c137.in (by simp) ?_
 simp [k137]
 refine W.whileI (fun (k:Nat) F S'=>k≤l.length∧(∀j x,j < k→l[j]?=some x→q x=false)∧F 0=.sl 1 o 0 l.length∧F 1=fv∧F 7=.int .i64 l.length∧F 8=.int .i64 k∧Up S S') (fun k=>l.length - k) ?_ 0 _ _ ?_
 ·rintro k F S' ⟨hk',hno,h0,h1,h7,h8,hup⟩
  by_cases hlt:k < l.length
  ·obtain ⟨x,hx⟩:∃ x,l[k]?=some x:=⟨_,xgG hlt⟩
   have e4:=wrapS k (by omega)
   have hob:S'.obj o=some (.row 1 (els intc l)):=by rw [hup.2 o hol];exact ho
   simp [h7,h8,hlt]
   simp [h8,h0,h1,xAd hlt,hob,hx,intc]
   refine hq x (xmG hx) S' hup _ ?_
   intro S'' hup'
   simp
   cases hqx:q x
   ·simp [h8,e4,h7,h0,h1]
    refine ⟨k + 1,by omega,by omega,?_,by omega,hup'⟩
    intro j y hj hy
    by_cases hjk:j=k
    ·subst hjk;rw [hx] at hy;cases hy;exact hqx
    ·exact hno j y (by omega) hy
   ·simp
    have:=hk S'' hup'
    rw [xDF hx hqx hno] at this
    simpa [h8] using this
  ·have:k=l.length:=by omega
   subst this
   simp [h7,h8]
   have:=hk S' hup
   rw [xDE (fun j x _ hx=>hno j x (xgS hx).1 hx)] at this
   exact this
 ·simp
  exact Up.refl S
theorem xFY {l:List Int} {p:Int→Bool} {k:Nat} {x:Int} (hx:l[k]?=some x):(l.take (k + 1)).filter p=(l.take k).filter p ++ (if p x then [x] else []):=by
 rw [xAe hx,List.filter_append]
 congr 1
 cases h:p x <;> simp [h]
theorem xGu {fv:AV} {l:List Int} {o:Nat} {S:St} {K:AV→St→Prop} (ho:S.obj o=some (.row 1 (els intc l))) (hol:o < S.next) (hl:l.length < 2 ^ 40) (q:Int→Bool)
  (hq:∀x ∈ l,∀S',Keeps (·=o) S S'→∀K':AV→St→Prop,(∀S'',Up S' S''→K' (.bool (q x)) S'')→CalV P g fv [.int .i64 x] S' K')
  (hk:∀S',Keeps (·=o) S S'→S'.obj o=some (.row 1 (els intc (l.filter fun x=>!q x)))→K (.sl 1 o 0 (l.filter fun x=>!q x).length) S'):Cal P g 93 [.sl 1 o 0 l.length,fv] S K:=by
 refine Cal.less ?_
 refine c93.in (by simp) ?_
 simp [k93]
 refine xHI ho hol hl q (fun x hx S' hup K' hK'=>hq x hx S' ⟨hup.1,fun a b _=>hup.2 a b⟩ K' fun S'' h=>hK' S'' (hup.trans h)) fun S1 hup1=>?_
 have hob1:S1.obj o=some (.row 1 (els intc l)):=by rw [hup1.2 o hol];exact ho
 have hol1:o < S1.next:=yAL hol hup1.1
 have hk1:Keeps (·=o) S S1:=⟨hup1.1,fun a b _=>hup1.2 a b⟩
 simp
 cases hi:l.findIdx? q with
 | none =>
  have e:indexF q l=-1:=by simp only [indexF,hi]
  have hf:l.filter (fun x=>!q x)=l:=by
   rw [List.filter_eq_self]
   intro x hx
   rw [yBR] at hi
   simp [hi x hx]
  simp [e]
  rw [hf] at hk
  exact ⟨S1,Wk.refl _,hk S1 hk1 hob1⟩
 | some i =>
  have e:indexF q l=i:=by simp only [indexF,hi]
  rw [yAw] at hi
  obtain ⟨hi1,hi2,hi3⟩:=hi
  have e1:¬ (i:Int)=-1:=by omega
  have e2:=wrapS i (by omega)
  simp [e,e1,e2]
  refine W.whileI (fun (j:Nat) F S'=>∃ (i:Nat) (c:List Int),i < j∧j≤l.length∧c.length=l.length∧c.take i=(l.take j).filter (fun x=>!q x)∧c.drop j=l.drop j∧F 0=.sl 1 o 0 l.length∧F 1=fv∧F 5=.int .i64 i∧F 6=.int .i64 j ∧
   Keeps (·=o) S S'∧S'.obj o=some (.row 1 (els intc c))) (fun j=>l.length - j) ?_ (i + 1) _ _ ?_
  ·rintro j F S' ⟨i,c,hij,hjl,hcl,hct,hcd,h0,h1,h5,h6,hke,hob⟩
   by_cases hlt:j < l.length
   ·obtain ⟨x,hx⟩:∃ x,l[j]?=some x:=⟨_,xgG hlt⟩
    have hcx:c[j]?=some x:=by
     have:=congrArg (fun d=>d[0]?) hcd
     simp only [yBB,yBG] at this
     rw [this,hx]
    have e4:=wrapS j (by omega)
    have e5:=wrapS i (by omega)
    have hst:=xFY (p:=fun x=>!q x) hx
    have hdr:∀d:List Int,d.drop j=l.drop j→d.drop (j + 1)=l.drop (j + 1):=by
     intro d hd
     have:=congrArg (fun d=>d.drop 1) hd
     simpa only [yAt] using this
    simp [h0,h6,hlt]
    simp [h0,h1,h6,xAd hlt,hob,hcx,intc]
    refine hq x (xmG hx) S' hke _ ?_
    intro S'' hup
    have hob2:S''.obj o=some (.row 1 (els intc c)):=by rw [hup.2 o (yAL hol hke.1)];exact hob
    have hke2:Keeps (·=o) S S'':=⟨yAX hke.1 hup.1,fun a b hM=>by rw [hup.2 a (yAL b hke.1)];exact hke.2 a b hM⟩
    cases hqx:q x
    ·have hil:i < l.length:=by omega
     obtain ⟨y,hy⟩:∃ y,c[i]?=some y:=⟨_,xgG (by omega)⟩
     simp [h0,h1,h5,h6,xAd hil,hob2,hy,intc,e4,e5]
     refine ⟨j + 1,by omega,i + 1,by omega,by omega,c.set i x,by simpa using hcl,?_,?_,rfl,by omega,⟨hke2.1,fun a b hM=>?_⟩,?_⟩
     ·rw [hst,xAe (x:=x) (by rw [yAF (by omega)]),List.take_set_of_le (by omega),hct]
      simp [hqx]
     ·rw [List.drop_set_of_lt (by omega)]
      exact hdr c hcd
     ·simp [hM]
      exact hke2.2 a b hM
     ·rw [← xAg];rfl
    ·simp [h0,h1,h5,h6,e4]
     refine ⟨j + 1,by omega,i,by omega,by omega,c,hcl,?_,hdr c hcd,rfl,by omega,hke2,hob2⟩
     rw [hst,hct];simp [hqx]
   ·have hj:j=l.length:=by omega
    subst hj
    rw [yAV] at hct
    have hil:i≤l.length:=by omega
    have hlen:(l.filter fun x=>!q x).length=i:=by rw [← hct];simp;omega
    simp [h0,h5,h6,xEy hil,xII hil,hob,hcl,hil]
    rw [hlen] at hk
    have hX:(List.take i (els intc c) ++ (List.replicate (l.length - i) [AV.int IntKind.i64 0] ++ List.drop l.length (els intc c))).take i=els intc (l.filter fun x=>!q x):=by
     rw [List.take_append_of_le_length (by simp;omega),List.take_take,Nat.min_self,xAs,hct]
    refine ⟨_,Wk.cut (o:=o) (sz:=1) i (by simp;rfl),hk _ ⟨hke.1,fun a ha hM=>?_⟩ ?_⟩
    ·simp [hM];exact hke.2 a ha hM
    ·simp only [xJY,if_pos];rw [hX]
  ·have hx:l[i]?=some l[i]:=xgG hi1
   refine ⟨i,l,by omega,by omega,rfl,?_,rfl,by simp,by simp,by simp,by simp,hk1,hob1⟩
   rw [xFY hx,hi2]
   simp
   symm
   rw [List.filter_eq_self]
   intro y hy
   obtain ⟨j,hj,rfl⟩:=yAx.1 hy
   rw [List.length_take] at hj
   rw [List.getElem_take]
   have:=hi3 j (by omega)
   simpa using this
theorem xHJ {fv:AV} {w:AV} {l:List Int} {S0 S:St} {K:AV→St→Prop} (h:Nw S0 S w l) (hl:l.length < 2 ^ 40) (q:Int→Bool)
  (hq:∀x ∈ l,∀S',Up S0 S'→∀K':AV→St→Prop,(∀S'',Up S' S''→K' (.bool (q x)) S'')→CalV P g fv [.int .i64 x] S' K')
  (hk:∀w' S',Nw S0 S' w' (l.filter fun x=>!q x)→K w' S'):Cal P g 93 [w,fv] S K:=by
 obtain ⟨h1,h2,h3⟩:=h
 rcases h1 with ⟨rfl,rfl⟩ | ⟨o,rfl,ho,hob⟩
 ·refine c93.in (by simp) ?_
  simp [k93]
  refine xDZ (FSl.nil (e:=intc) (sz:=1)) (by simp) q (fun x hx=>by simp at hx) fun S' hup=>?_
  simp [indexF]
  exact hk _ _ ⟨.inl ⟨rfl,rfl⟩,h2.trans hup,fun q c e=>by cases e⟩
 ·have hoo:=h3 o _ rfl
  have up:∀S',Keeps (·=o) S S'→Up S0 S':=fun S' hke=>⟨yAX h2.1 hke.1,fun a ha=>by rw [hke.2 a (yAL ha h2.1) (by omega)];exact h2.2 a ha⟩
  refine xGu hob ho hl q (fun x hx S' hke K' hK'=>hq x hx S' (up S' hke) K' hK') fun S' hke hob'=>?_
  refine hk _ _ ⟨.inr ⟨o,rfl,yAL ho hke.1,hob'⟩,up S' hke,fun q c e=>by cases e;exact hoo⟩
theorem xCs {w:AV} {S:St} {K:AV→St→Prop} (hw:lenV w=some 0) (hk:K (.tuple []) S):Cal P g 96 [w] S K:=by
 refine c96.in (by simp) ?_
 simp [k96,hw]
 have e0:IntKind.u64.wrap 0=((0:Nat):Int):=rfl
 rw [e0]
 refine (bits_Len 0 (by omega)).use (n:=9) ?_ rfl ?_ <;> simp
 have e1:Lib.bitLen 0=0:=rfl
 rw [e1]
 refine xNx _ _ _ ?_
 simp
 exact hk
theorem xRc {w:AV} {l:List Int} {S0 S:St} {K:AV→St→Prop} (h:Nw S0 S w l) (hl:l.length < 2 ^ 40) (hk:∀S',Nw S0 S' w (sorted l)→K (.tuple []) S'):Cal P g 96 [w] S K:=by
 obtain ⟨h1,h2,h3⟩:=h
 rcases h1 with ⟨rfl,rfl⟩ | ⟨o,rfl,ho,hob⟩
 ·exact xCs rfl (hk S ⟨.inl ⟨rfl,by simp [sorted]⟩,h2,fun q c e=>by cases e⟩)
 ·have hoo:=h3 o _ rfl
  by_cases hne:l=[]
  ·subst hne
   exact xCs rfl (hk S ⟨.inr ⟨o,by simp [sorted],ho,by simpa [sorted] using hob⟩,h2,h3⟩)
  ·refine xBj hob hne hl (hk _ ⟨.inr ⟨o,by rw [xAF],ho,by simp⟩,h2.put hoo _,h3⟩)
def Dn (S0 S:St) (w:AV) (l:List Int):Prop:=(w=.fsl 1 []∧l=[]) ∨ ∃ o,w=.sl 1 o 0 l.length∧S0.next≤o∧o < S.next∧S.obj o=some (.row 1 (els intc l))
theorem xL1 {w:AV} {l:List Int} {S0 S:St} {K:AV→St→Prop} (h:Nw S0 S w l) (hl:l.length < 2 ^ 40) (hk:∀w' S',Dn S0 S' w' (compactL l)→Up S0 S'→K w' S'):Cal P g 97 [w] S K:=by
 obtain ⟨h1,h2,h3⟩:=h
 refine Cal.post ?_
 rcases h1 with ⟨rfl,rfl⟩ | ⟨o,rfl,ho,hob⟩
 ·refine xCf ⟨.fsl 1 [],S,.inr (.inr ⟨rfl,1,rfl⟩),Wk.refl _,hk _ _ (.inl ⟨rfl,rfl⟩) h2⟩
 ·have hoo:=h3 o _ rfl
  refine xCe hob hl ?_
  have hcut:=Wk.cut (S:=S.set o (.row 1 (els intc (compactL l ++ List.replicate (l.length - (compactL l).length) 0)))) (o:=o) (sz:=1) (compactL l).length (by simp;rfl)
  rw [xAs,List.take_left',xAk] at hcut
  ·by_cases hne:compactL l=[]
   ·refine ⟨.fsl 1 [],_,.inr (.inr ⟨by simp [hne],1,rfl⟩),hcut,hk _ _ (.inl ⟨rfl,hne⟩) (h2.put hoo _)⟩
   ·exact ⟨_,_,.inl rfl,hcut,hk _ _ (.inr ⟨o,rfl,hoo,ho,by simp⟩) (h2.put hoo _)⟩
  ·rfl
def GrV (v:AV) (G:List (List Int)):Prop:=(v=.nilsl∧G=[]) ∨ ∃ ws:List AV,v=.fsl 1 (ws.map fun w=>[w])∧ws.length=G.length∧∀(k:Nat) (w:AV) (l:List Int),ws[k]?=some w→G[k]?=some l→FSl intc 1 w l
theorem GrV.len {v:AV} {G:List (List Int)} (h:GrV v G):lenV v=some G.length:=by
 rcases h with ⟨rfl,rfl⟩ | ⟨ws,rfl,h,_⟩
 ·rfl
 ·simp [h]
theorem GrV.stab {v:AV} {G:List (List Int)} (h:GrV v G):v.stab=true:=by
 rcases h with ⟨rfl,rfl⟩ | ⟨ws,rfl,h,_⟩ <;> rfl
theorem GrV.cells {v:AV} {G:List (List Int)} (h:GrV v G):v.cells=[v]:=by
 rcases h with ⟨rfl,rfl⟩ | ⟨ws,rfl,h,_⟩ <;> rfl
theorem GrV.one {v:AV} {G:List (List Int)} (h:GrV v G):v.one=true:=by
 rcases h with ⟨rfl,rfl⟩ | ⟨ws,rfl,h,_⟩ <;> rfl
theorem GrV.solid {v:AV} {G:List (List Int)} (h:GrV v G):v.solid=true:=by
 rcases h with ⟨rfl,rfl⟩ | ⟨ws,rfl,h,_⟩ <;> rfl
theorem GrV.idx {v:AV} {G:List (List Int)} (h:GrV v G) {k:Nat} {l:List Int} (hl:G[k]?=some l):∃ w,FSl intc 1 w l∧pk (.indexAddr 1) [v,.int .i64 (k:Int)]=some (.fptr [w] 0):=by
 rcases h with ⟨rfl,rfl⟩ | ⟨ws,rfl,h1,h2⟩
 ·simp at hl
 ·have hlt:=(xgS hl).1
  have hw:ws[k]?=some (ws[k]'(by omega)):=xgG _
  refine ⟨_,h2 k _ l hw hl,?_⟩
  rw [xAP,if_pos (by omega)]
  simp [hw]
def inGr (n:Nat) (x:Int):Bool:=decide (0≤x) && decide (x < n)
theorem xHK {v:AV} {n:Nat} (hv:lenV v=some n) (hs:v.stab=true) (x:Int):Ret P g false 92 [v,.int .i64 x] (.bool (inGr n x)):=by
 refine Ret.in c92 (by simp) ?_
 simp [k92,inGr]
 by_cases hx:(0:Int)≤x
 ·simp [hx,hv]
  exact RK.stab rfl
 ·simp [hx]
  exact RK.stab rfl
theorem xIS {x:Int} {p n:Nat} {v:AV} {S:St} {K:AV→St→Prop} (hp:S.obj p=some (.row 1 [[v]])) (hv:lenV v=some n) (hs:v.stab=true) (hk:K (.bool (!inGr n x)) S):Cal P g 95 [.int .i64 x,.ptr p 0 0] S K:=by
 refine c95.in (by simp) ?_
 simp [k95,hp]
 refine (xHK hv hs x).use (n:=9) ?_ rfl ?_ <;> simp [xAc hs]
 exact hk
def cleanL (n:Nat) (l:List Int):List Int:=compactL (sorted (l.filter (inGr n)))
def cleanG (G:List (List Int)):List (List Int):=G.map (cleanL G.length)
def encG (G:List (List Int)):AV:=.fsl 1 (els (fun l=>[.fsl 1 (els intc l)]) G)
theorem xAp {n:Nat} {l:List Int} {x:Int}:x ∈ cleanL n l ↔ x ∈ l∧0≤x∧x < n:=by
 rw [cleanL,xDD,sorted,List.mem_mergeSort,yAp]
 simp [inGr]
theorem xCj (G:List (List Int)):GrV (encG G) G:=by
 refine .inr ⟨G.map fun l=>.fsl 1 (els intc l),by simp [encG,els],by simp,fun k w l hw hl=>?_⟩
 rw [yAN,hl] at hw
 cases hw
 exact FSl.mk
theorem xIT {α β:Type} {f:α→Option β}:∀{l:List α} {m:List β},l.length=m.length→(∀(k:Nat) (x:α),l[k]?=some x→f x=m[k]?)→mapOpt f l=some m
 | [],[],_,_=>rfl
 | [],_ :: _,h,_=>by simp at h
 | _ :: _,[],h,_=>by simp at h
 | x :: l,y :: m,h,hf=>by
  have h0:=hf 0 x rfl
  have:=xIT (f:=f) (l:=l) (m:=m) (by simpa using h) fun k z hz=>by simpa using hf (k + 1) z (by simpa using hz)
  simp at h0
  simp [mapOpt,h0,this]
theorem xAz {S:St} {o n sz m:Nat} {es ys:List (List AV)} (ho:S.obj o=some (.row sz es)) (hl:es.length=n) (hy:ys.length=n) (hp:∀(k:Nat) (e:List AV),es[k]?=some e→mapOpt (pict S [] m) e=ys[k]?):pict S [] (m + 1) (.sl sz o 0 n)=some (.fsl sz ys):=by
 have hel:elems S (.sl sz o 0 n)=some es:=by
  rw [xCE ho (by omega),yBA,yAI (by omega)]
 rw [xEu,hel]
 simp only [yAy]
 rw [xIT (by omega) hp];rfl
theorem xD5 {S:St} {o:Nat} {l:List Int} (h:S.obj o=some (.row 1 (els intc l))):S.news.obj o=some (.row 1 (els intc l)):=by
 rw [xBO,h]
 have:(AObj.row 1 (els intc l)).young=true:=by
  show youngss _=true
  rw [xAK,xDY]
  intro x hx
  rw [yAU] at hx
  obtain ⟨y,_,rfl⟩:=hx
  rfl
 simp [Option.filter,this]
theorem Dn.pict {S0 S:St} {w:AV} {l:List Int} {n:Nat} (h:Dn S0 S w l):Vm.pict S.news [] (n + 2) w=some (.fsl 1 (els intc l)):=by
 rcases h with ⟨rfl,rfl⟩ | ⟨o,rfl,_,_,ho⟩
 ·rfl
 ·refine xAz (xD5 ho) (by simp) (by simp) fun k e he=>?_
  rw [he]
  simp only [els,yAN] at he
  cases hx:l[k]? with
  | none=>rw [hx] at he;cases he
  | some x=>rw [hx] at he;cases he;simp [intc]
theorem Dn.young {S0 S:St} {w:AV} {l:List Int} (h:Dn S0 S w l):w.young=true:=by
 rcases h with ⟨rfl,rfl⟩ | ⟨o,rfl,_⟩ <;> rfl
theorem Dn.one {S0 S:St} {w:AV} {l:List Int} (h:Dn S0 S w l):w.one=true:=by
 rcases h with ⟨rfl,rfl⟩ | ⟨o,rfl,_⟩ <;> rfl
theorem Dn.keep {S0 S S':St} {w:AV} {l:List Int} {oo:Nat} (h:Dn S0 S w l) (hu:∀q,q < S.next→q ≠ oo→S'.obj q=S.obj q) (hn:S.next≤S'.next) (ho:oo < S0.next):Dn S0 S' w l:=by
 rcases h with h | ⟨o,rfl,h1,h2,h3⟩
 ·exact .inl h
 ·exact .inr ⟨o,rfl,h1,by omega,by rw [hu o h2 (by omega)];exact h3⟩
theorem xC2 {x:AV} (h:x.one=true):x.cells=[x]:=by
 cases x <;> first | rfl | (simp at h)
theorem xAD {v:AV} {G:List (List Int)} (hv:GrV v G) (hG:G.length < 2 ^ 30) (hl:∀l ∈ G,l.length < 2 ^ 30):Ret P g true 55 [v] (encG (cleanG G)):=by
 refine Ret.inP c55 (by simp) ?_
 have hroom:G.length≤room:=by simp [room];omega
 simp [k55,hv.cells,hv.len,hroom,hv.one]
 refine W.whileI (fun (k:Nat) F S=>k≤G.length∧F 1=.ptr 0 0 0∧F 3=.sl 1 1 0 G.length∧F 10=v∧F 11=.int .i64 G.length∧F 12=.int .i64 k∧2≤S.next∧S.obj 0=some (.row 1 [[v]]) ∧
  ∃ es,S.obj 1=some (.row 1 es)∧es.length=G.length∧(∀e ∈ es,e.length=1)∧∀(j:Nat) (l:List Int),j < k→G[j]?=some l→∃ w,es[j]?=some [w]∧Dn ⟨2,fun _=>none⟩ S w (cleanL G.length l)) (fun k=>G.length - k) ?_ 0 _ _ ?_
 ·rintro k F S ⟨hkn,h1,h3,h10,h11,h12,hn,hb,es,he,hel,hel1,hes⟩
  by_cases hlt:k < G.length
  ·obtain ⟨l,hx⟩:∃ l,G[k]?=some l:=⟨_,xgG hlt⟩
   obtain ⟨w,hw,hix⟩:=hv.idx hx
   have hll:=hl l (xmG hx)
   have e4:=wrapS k (by omega)
   simp [h11,h12,hlt]
   simp [h10,h12,hix]
   refine xCQ hw hll (Up.refl S) fun w1 S1 hw1=>?_
   simp [h1]
   refine xHJ hw1 (by omega) (fun x=>!inGr G.length x) ?_ fun w2 S2 hw2=>?_
   ·intro x hx S' hup K' hK'
    simp
    exact xIS (by rw [hup.2 0 (by omega)];exact hb) hv.len hv.stab (hK' _ (Up.refl _))
   simp
   have hfl:(l.filter (inGr G.length)).length < 2 ^ 40:=yBM (yAb _ _) (by omega)
   simp at hw2
   refine xRc hw2 hfl fun S3 hw3=>?_
   simp
   refine xL1 hw3 (by rw [xAF];exact hfl) fun w4 S4 hw4 hup4=>?_
   have hup4':=hup4.2
   have he4:S4.obj 1=some (.row 1 es):=by rw [hup4' 1 (by omega)];exact he
   obtain ⟨e0,he0⟩:∃ e0,es[k]?=some e0:=⟨_,xgG (by omega)⟩
   obtain ⟨u0,rfl⟩:∃ u,e0=[u]:=List.length_eq_one_iff.1 (hel1 e0 (xmG he0))
   simp [h3,xAd hlt,he4,he0,hw4.one,h1,h10,h11,h12,e4,xC2 hw4.one]
   refine ⟨k + 1,by omega,by omega,by omega,by have:=hup4.1;omega,by rw [hup4' 0 (by omega)];exact hb,hel,?_,?_⟩
   ·intro e he
    rcases yAP he with h | rfl
    ·exact hel1 e h
    ·rfl
   ·intro j m hj hm
    by_cases hjk:j=k
    ·subst hjk
     rw [hx] at hm;cases hm
     refine ⟨w4,by rw [yAF (by omega)],?_⟩
     rcases hw4 with h | ⟨o,rfl,a1,a2,a3⟩
     ·exact .inl h
     ·exact .inr ⟨o,rfl,by show 2≤o;omega,by simpa using a2,by simp [show ¬ o=1 by omega];exact a3⟩
    ·obtain ⟨w',b1,b2⟩:=hes j m (by omega) hm
     refine ⟨w',by rw [yAH (Ne.symm hjk)];exact b1,?_⟩
     refine b2.keep (oo:=1) (fun q hq hq1=>?_) hup4.1 (by show 1 < 2;omega)
     simp [hq1]
     exact hup4' q hq
  ·have:k=G.length:=by omega
   subst this
   simp [h11,h12,h3]
   have hyo:(AObj.row 1 es).young=true:=by
    show youngss es=true
    rw [xAK]
    intro x hx
    rw [yAf] at hx
    obtain ⟨e,he',hx⟩:=hx
    obtain ⟨j,hj,rfl⟩:=yAx.1 he'
    obtain ⟨l,hl'⟩:∃ l,G[j]?=some l:=⟨_,xgG (by omega)⟩
    obtain ⟨w,a1,a2⟩:=hes j l (by omega) hl'
    rw [xgG hj] at a1
    simp at a1
    rw [a1] at hx
    simp at hx
    rw [hx];exact a2.young
   refine ⟨rfl,3,xAz (es:=es) ?_ hel (by simp [cleanG]) fun j e hj=>?_⟩
   ·rw [xBO,he]
    simp [Option.filter,hyo]
   ·have hjl:=(xgS hj).1
    obtain ⟨l,hl'⟩:∃ l,G[j]?=some l:=⟨_,xgG (by omega)⟩
    obtain ⟨w,a1,a2⟩:=hes j l (by omega) hl'
    rw [hj] at a1;cases a1
    simp [mapOpt,a2.pict,els,cleanG,hl']
 ·simp
structure RowsV (B:Nat) (S:St) (oo:Nat) (es:List (List AV)) (L:List (List Int)):Prop where
 lt:oo < B
 le:B≤S.next
 obj:S.obj oo=some (.row 1 es)
 len:es.length=L.length
 row:∀(k:Nat) (l:List Int),L[k]?=some l→∃ v,es[k]?=some [v]∧((v=.nilsl∧l=[]) ∨ ∃ o,v=.sl 1 o 0 l.length∧B≤o∧o < S.next∧S.obj o=some (.row 1 (els intc l))∧l ≠ [])
 inj:∀(j k o a b:Nat),es[j]?=some [.sl 1 o 0 a]→es[k]?=some [.sl 1 o 0 b]→j=k
theorem RowsV.new {B:Nat} {S:St} {oo:Nat} {es:List (List AV)} {L:List (List Int)} (h:RowsV B S oo es L) (x:AObj):RowsV B (S.new x) oo es L:=by
 have h1:=h.lt
 have h2:=h.le
 refine ⟨h1,by simp;omega,by simp [show ¬ oo=S.next by omega,h.obj],h.len,fun k l hl=>?_,h.inj⟩
 obtain ⟨v,hv,hc⟩:=h.row k l hl
 refine ⟨v,hv,?_⟩
 rcases hc with hc | ⟨o,rfl,a1,a2,a3,a4⟩
 ·exact .inl hc
 ·exact .inr ⟨o,rfl,a1,by simp;omega,by simp [show ¬ o=S.next by omega,a3],a4⟩
theorem RowsV.app {B:Nat} {S:St} {oo:Nat} {es:List (List AV)} {L:List (List Int)} {b:Nat} {v:AV} {l:List Int} {a:Int} (h:RowsV B S oo es L) (hv:es[b]?=some [v]) (hl:L[b]?=some l) (hr:l.length + 1≤room) :
  ∃ S',appV 1 v S [[.int .i64 a]]=some (.sl 1 S.next 0 (l.length + 1),S')∧S'.next=S.next + 1∧(∀q,q < B→S'.obj q=S.obj q)∧RowsV B (S'.set oo (.row 1 (es.set b [.sl 1 S.next 0 (l.length + 1)]))) oo (es.set b [.sl 1 S.next 0 (l.length + 1)]) (L.set b (l ++ [a])):=by
 have hoo:=h.lt
 have hle:=h.le
 have hr0:¬ room=0:=by simp [room]
 have hblt:b < es.length:=(xgS hv).1
 have old:∀(k o c:Nat),es[k]?=some [.sl 1 o 0 c]→B≤o∧o < S.next:=by
  intro k o c hk
  obtain ⟨m,hm⟩:∃ m,L[k]?=some m:=⟨_,xgG (by rw [← h.len];exact (xgS hk).1)⟩
  obtain ⟨u,hu,hc⟩:=h.row k m hm
  rw [hk] at hu;cases hu
  rcases hc with ⟨h1,_⟩ | ⟨o',h1,h2,h3,_⟩
  ·cases h1
  ·cases h1;exact ⟨h2,h3⟩
 have key:∀S':St,S'.next=S.next + 1→S'.obj S.next=some (.row 1 (els intc (l ++ [a])))→(∀q,q ≠ S.next→(∀c,v ≠ .sl 1 q 0 c)→S'.obj q=S.obj q) →
   (∀q,q < B→S'.obj q=S.obj q)∧RowsV B (S'.set oo (.row 1 (es.set b [.sl 1 S.next 0 (l.length + 1)]))) oo (es.set b [.sl 1 S.next 0 (l.length + 1)]) (L.set b (l ++ [a])):=by
  intro S' hn hnew hold
  refine ⟨fun q hq=>hold q (by omega) fun c e=>?_,hoo,by simp;omega,by simp,by simp [h.len],?_,?_⟩
  ·subst e
   have:=old b q c hv
   omega
  ·intro k m hm
   by_cases hk:k=b
   ·subst hk
    rw [yAF (by rw [← h.len];exact hblt)] at hm
    cases hm
    exact ⟨_,by rw [yAF hblt],.inr ⟨S.next,by simp,hle,by simp;omega,by simp [show ¬ S.next=oo by omega,hnew],by simp⟩⟩
   ·rw [yAH (Ne.symm hk)] at hm
    obtain ⟨u,hu,hc⟩:=h.row k m hm
    refine ⟨u,by rw [yAH (Ne.symm hk)];exact hu,?_⟩
    rcases hc with hc | ⟨o,rfl,a1,a2,a3,a4⟩
    ·exact .inl hc
    ·refine .inr ⟨o,rfl,a1,by simp;omega,?_,a4⟩
     simp [show ¬ o=oo by omega]
     rw [hold o (by omega) fun c e=>hk ?_]
     ·exact a3
     ·subst e
      exact h.inj k b o _ _ hu hv
  ·intro j k o c d hj hk
   by_cases hjb:j=b
   ·by_cases hkb:k=b
    ·rw [hjb,hkb]
    ·rw [hjb,yAF hblt] at hj
     rw [yAH (Ne.symm hkb)] at hk
     cases hj
     have:=old k _ _ hk
     omega
   ·rw [yAH (Ne.symm hjb)] at hj
    by_cases hkb:k=b
    ·rw [hkb,yAF hblt] at hk
     cases hk
     have:=old j _ _ hj
     omega
    ·rw [yAH (Ne.symm hkb)] at hk
     exact h.inj j k o c d hj hk
 obtain ⟨v1,hv1,hc⟩:=h.row b l hl
 rw [hv] at hv1;cases hv1
 rcases hc with ⟨rfl,rfl⟩ | ⟨o,rfl,a1,a2,a3,a4⟩
 ·refine ⟨S.new (.row 1 [[.int .i64 a]]),by simp [hr0],by simp,?_⟩
  exact key _ (by simp) (by simp [els,intc]) fun q hq _=>by simp [hq]
 ·refine ⟨(S.drop o).new (.row 1 (els intc l ++ [[.int .i64 a]])),by simp [hr0,a3,hr];rw [yAI (by simp)],by simp,?_⟩
  refine key _ (by simp) (by simp [els,intc]) fun q hq hne=>?_
  have:¬ q=o:=fun e=>hne _ (by rw [e])
  simp [hq,this]
theorem RowsV.start {S:St} (h:S.next < S.next + 1) (n:Nat):RowsV (S.next + 1) (S.new (.row 1 (List.replicate n [.nilsl]))) S.next (List.replicate n [.nilsl]) (List.replicate n []):=by
 refine ⟨h,by simp,by simp,by simp,fun k l hl=>⟨.nilsl,?_,.inl ⟨rfl,(yAc.1 (xmG hl)).2⟩⟩,fun j k o a b hj=>?_⟩
 ·have:=(xgS hl).1
  simp at this
  rw [yAv,if_pos this]
 ·have:=(yAc.1 (xmG hj)).2
  simp at this
theorem RowsV.pict {B:Nat} {S:St} {oo:Nat} {es:List (List AV)} {L:List (List Int)} {m:Nat} (h:RowsV B S oo es L):Vm.pict S [] (m + 3) (.sl 1 oo 0 L.length)=some (.fsl 1 (els (fun l=>[encF intc 1 l]) L)):=by
 refine xAz h.obj h.len (by simp) fun k e he=>?_
 have hlt:=(xgS he).1
 obtain ⟨l,hl⟩:∃ l,L[k]?=some l:=⟨_,xgG (by rw [← h.len];exact hlt)⟩
 obtain ⟨v,hv,hc⟩:=h.row k l hl
 rw [hv] at he;cases he
 have:Vm.pict S [] (m + 2) v=some (encF intc 1 l):=by
  rcases hc with ⟨rfl,rfl⟩ | ⟨o,rfl,_,_,a3,a4⟩
  ·simp [encF]
  ·exact Has.pict (e:=intc) (.inr ⟨o,rfl,a3,a4⟩)
 simp [mapOpt,this,els,hl]
theorem RowsV.idx {B:Nat} {S:St} {oo:Nat} {es:List (List AV)} {L:List (List Int)} (h:RowsV B S oo es L) {k:Nat} (hk:k < L.length):∃ v l,es[k]?=some [v]∧L[k]?=some l∧v.one=true:=by
 obtain ⟨l,hl⟩:∃ l,L[k]?=some l:=⟨_,xgG hk⟩
 obtain ⟨v,hv,hc⟩:=h.row k l hl
 refine ⟨v,l,hv,hl,?_⟩
 rcases hc with ⟨rfl,_⟩ | ⟨o,rfl,_⟩ <;> rfl
theorem RowsV.news {B:Nat} {S:St} {oo:Nat} {es:List (List AV)} {L:List (List Int)} (h:RowsV B S oo es L):RowsV B S.news oo es L:=by
 refine ⟨h.lt,h.le,?_,h.len,fun k l hl=>?_,h.inj⟩
 ·rw [xBO,h.obj]
  have:(AObj.row 1 es).young=true:=by
   show youngss _=true
   rw [xAK]
   intro x hx
   rw [yAf] at hx
   obtain ⟨e,he,hx⟩:=hx
   obtain ⟨k,hk⟩:=yBE he
   have hlt:=(xgS hk).1
   obtain ⟨v,hv,hc⟩:=h.row k (L[k]'(by rw [← h.len];exact hlt)) (xgG _)
   rw [hv] at hk;cases hk
   simp at hx;subst hx
   rcases hc with ⟨rfl,_⟩ | ⟨o,rfl,_⟩ <;> rfl
  simp [Option.filter,this]
 ·obtain ⟨v,hv,hc⟩:=h.row k l hl
  refine ⟨v,hv,?_⟩
  rcases hc with hc | ⟨o,h1,h2,h3,h4,h5⟩
  ·exact .inl hc
  ·exact .inr ⟨o,h1,h2,h3,xD5 h4,h5⟩
structure Turned (C L:List (List Int)):Prop where
 len:L.length=C.length
 sub:∀l ∈ L,∀x ∈ l,0≤x∧x < C.length
 short:∀l ∈ L,l.length≤C.length * 64
 all:∀(a b:Nat) (l:List Int),C[a]?=some l→(b:Int) ∈ l→∃ m,L[b]?=some m∧(a:Int) ∈ m
theorem xAS (n:Nat) (l:List Int):(cleanL n l).length≤l.length:=by
 have h1:=xDC (sorted (l.filter (inGr n))) (sorted (l.filter (inGr n))).length
 rw [yAV,xAF] at h1
 have h2:=yAb (inGr n) l
 have h3:(cleanL n l).length≤(l.filter (inGr n)).length:=h1
 omega
theorem Turned.grow {L:List (List Int)} {b:Nat} {m:List Int} {x:Int} {B:Nat} (hb:L[b]?=some m) :
  (∀(k:Nat) (l:List Int),L[k]?=some l→∃ l',(L.set b (m ++ [x]))[k]?=some l'∧∀y ∈ l,y ∈ l')∧(∃ l',(L.set b (m ++ [x]))[b]?=some l'∧x ∈ l')∧(∀l ∈ L.set b (m ++ [x]),(∀y ∈ l,y=x ∨ ∃ l0 ∈ L,y ∈ l0)∧((∀l ∈ L,l.length≤B)→l.length≤B + 1)):=by
 have hlt:=(xgS hb).1
 refine ⟨fun k l hk=>?_,⟨_,yAF hlt,by simp⟩,fun l hl=>?_⟩
 ·by_cases h:k=b
  ·subst h
   rw [hb] at hk;cases hk
   exact ⟨_,yAF hlt,fun y hy=>by simp [hy]⟩
  ·exact ⟨l,by rw [yAH (Ne.symm h)];exact hk,fun y hy=>hy⟩
 ·rcases yAP hl with h | rfl
  ·exact ⟨fun y hy=>.inr ⟨l,h,hy⟩,fun hB=>by have:=hB l h;omega⟩
  ·refine ⟨fun y hy=>?_,fun hB=>?_⟩
   ·rw [yAQ,yAO] at hy
    rcases hy with hy | rfl
    ·exact .inr ⟨m,xmG hb,hy⟩
    ·exact .inl rfl
   ·have:=hB m (xmG hb)
    simp;omega
theorem xE9 {yf v:AV} {o:Nat} {l:List Int} {S:St} {K:AV→St→Prop} (hv:FSl intc 1 v l) (hl:l.length < 2 ^ 40) (Inv:Nat→St→Prop) (h0:Inv 0 S)
  (ho:∀k S',Inv k S'→S'.obj o=some (.row 1 [[v]]))
  (hst:∀(k:Nat) (x:Int) (S':St),k < l.length→l[l.length - 1 - k]?=some x→Inv k S'→∀K':AV→St→Prop,(∀S'',Inv (k + 1) S''→K' (.bool true) S'')→CalV P g yf [.int .i64 ((l.length - 1 - k:Nat):Int),.int .i64 x] S' K')
  (hk:∀S',Inv l.length S'→K (.tuple []) S'):Cal P g 226 [yf,.ptr o 0 0] S K:=by
 refine c226.in (by simp) ?_
 have e0:IntKind.i64.wrap ((l.length:Int) - 1)=(l.length:Int) - 1:=xAa (by omega)
 simp [k226,ho 0 S h0,hv.len,e0]
 refine W.whileI (fun (k:Nat) F S'=>k≤l.length∧F 0=yf∧F 1=.ptr o 0 0∧F 3=.int .i64 ((l.length:Int) - 1 - k)∧Inv k S') (fun k=>l.length - k) ?_ 0 _ _ ?_
 ·rintro k F S' ⟨hk',f0,f1,f3,hi⟩
  by_cases hlt:k < l.length
  ·obtain ⟨x,hx⟩:∃ x,l[l.length - 1 - k]?=some x:=⟨_,xgG (by omega)⟩
   have e1:(l.length:Int) - 1 - k=((l.length - 1 - k:Nat):Int):=by omega
   have e2:IntKind.i64.wrap (((l.length - 1 - k:Nat):Int) - 1)=(l.length:Int) - 1 - (k + 1:Nat):=by rw [xAa (by omega)];omega
   rw [e1] at f3
   simp [f0,f1,f3,ho k S' hi,hv.idx hx,intc]
   refine hst k x S' hlt hx hi _ ?_
   intro S'' hi'
   simp [f3,e2,f0,f1]
   exact ⟨k + 1,by omega,by omega,by omega,hi'⟩
  ·have:k=l.length:=by omega
   subst this
   have e1:(l.length:Int) - 1 - l.length=-1:=by omega
   rw [e1] at f3
   simp [f3]
   exact hk S' hi
 ·simp
  exact h0
theorem xDt {v:AV} {S:St} {K:AV→St→Prop} (hc:v.cells=[v]) (hk:K (.func (.func 226) [] [.ptr S.next 0 0]) (S.new (.row 1 [[v]]))):Cal P g 172 [v] S K:=by
 refine c172.in (by simp) ?_
 simp [k172,hc]
 exact hk
theorem xIU (x:Int):Ret P g false 242 [.int .i64 x] (.bool false):=by
 refine Ret.in c242 (by simp) ?_
 simp [k242]
 exact RK.stab rfl
def cmpInt (a b:Int):Int:=if a < b then -1 else if b < a then 1 else 0
theorem xJ5 (a b:Int):Ret P g false 232 [.int .i64 a,.int .i64 b] (.int .i64 (cmpInt a b)):=by
 refine Ret.in c232 (by simp) ?_
 simp [k232]
 refine (xIU a).use (n:=9) ?_ rfl ?_ <;> simp
 refine (xIU b).use (n:=9) ?_ rfl ?_ <;> simp
 by_cases h1:a < b
 ·simp [h1,cmpInt]
  exact RK.stab rfl
 ·by_cases h2:b < a
  ·simp [h1,h2,cmpInt]
   exact RK.stab rfl
  ·simp [h1,h2,cmpInt]
   exact RK.stab rfl
def cmpL:List Int→List Int→Int
 | [],[]=>0
 | [],_ :: _=>-1
 | _ :: _,[]=>1
 | a :: l,b :: m=>if cmpInt a b ≠ 0 then cmpInt a b else cmpL l m
theorem xGv {v w:AV} {l m:List Int} (hv:FSl intc 1 v l) (hw:FSl intc 1 w m) (hl:l.length < 2 ^ 40):Ret P g false 178 [v,w] (.int .i64 (cmpL l m)):=by
 refine Ret.in c178 (by simp) ?_
 simp [k178,hv.len,hw.len]
 refine W.whileI (fun (k:Nat) F S'=>k≤l.length∧k≤m.length∧cmpL l m=cmpL (l.drop k) (m.drop k)∧F 0=v∧F 1=w∧F 9=v∧F 10=.int .i64 l.length∧F 11=.int .i64 k) (fun k=>l.length - k) ?_ 0 _ _ ?_
 ·rintro k F S' ⟨hk1,hk2,he,h0,h1,h9,h10,h11⟩
  by_cases hlt:k < l.length
  ·obtain ⟨x,hx⟩:∃ x,l[k]?=some x:=⟨_,xgG hlt⟩
   have e4:=wrapS k (by omega)
   have d1:l.drop k=x :: l.drop (k + 1):=by
    obtain ⟨h,h'⟩:=xgS hx
    rw [List.drop_eq_getElem_cons h,h']
   by_cases hlt2:k < m.length
   ·obtain ⟨y,hy⟩:∃ y,m[k]?=some y:=⟨_,xgG hlt2⟩
    have d2:m.drop k=y :: m.drop (k + 1):=by
     obtain ⟨h,h'⟩:=xgS hy
     rw [List.drop_eq_getElem_cons h,h']
    rw [d1,d2,cmpL] at he
    simp [h10,h11,hlt]
    simp [h0,h1,h9,h11,hv.idx hx,hw.idx hy,intc,hw.len,show ¬ (m.length≤k) by omega]
    refine (xJ5 x y).use (n:=9) ?_ rfl ?_ <;> simp
    by_cases hc:cmpInt x y=0
    ·rw [if_neg (by simp [hc])] at he
     simp [hc,h0,h1,h9,h10,h11,e4]
     exact ⟨k + 1,by omega,by omega,by omega,he,by omega⟩
    ·rw [if_pos hc] at he
     simp [hc]
     rw [he]
     exact RK.stab rfl
   ·have hk:m.drop k=[]:=yBc (by omega)
    rw [d1,hk,cmpL] at he
    simp [h10,h11,hlt]
    simp [h0,h1,h9,h11,hv.idx hx,intc,hw.len,show (m.length≤k) by omega]
    rw [he]
    exact RK.stab rfl
  ·have hk:l.drop k=[]:=yBc (by omega)
   have:k=l.length:=by omega
   subst this
   rw [hk] at he
   simp [h10,h11,h0,h1,hv.len,hw.len]
   by_cases hlt2:l.length < m.length
   ·obtain ⟨y,hy⟩:∃ y,m[l.length]?=some y:=⟨_,xgG hlt2⟩
    have d2:m.drop l.length=y :: m.drop (l.length + 1):=by
     obtain ⟨h,h'⟩:=xgS hy
     rw [List.drop_eq_getElem_cons h,h']
    rw [d2,cmpL] at he
    simp [hlt2]
    rw [he]
    exact RK.stab rfl
   ·have hk:m.drop l.length=[]:=yBc (by omega)
    rw [hk,cmpL] at he
    simp [hlt2]
    rw [he]
    exact RK.stab rfl
 ·simp
def keyc (k:Int × Int):List AV:=[.int .i64 k.1,.int .i64 k.2]
def cmpKey (a b:Int × Int):Int:=if a=b then 0 else cmpL [a.1,a.2] [b.1,b.2]
theorem xDu {a b kb ko:Nat} {ks:List (Int × Int)} {ka kb':Int × Int} {S:St} {K:AV→St→Prop} (h1:S.obj kb=some (.row 1 [[.sl 2 ko 0 ks.length]])) (h2:S.obj ko=some (.row 2 (els keyc ks))) (ha:ks[a]?=some ka) (hb:ks[b]?=some kb')
  (hk:K (.int .i64 (cmpKey ka kb')) S):Cal P g 177 [.int .i64 (a:Int),.int .i64 (b:Int),.ptr kb 0 0] S K:=by
 refine c177.in (by simp) ?_
 have hla:=(xgS ha).1
 have hlb:=(xgS hb).1
 simp [k177]
 refine Dra.auto [] mix ?_ ?_
 ·kernel_rfl
 simp [classes,h1,h2,ha,hb,xAd hla,xAd hlb,keyc]
 have hca:FSl intc 1 (.fsl 1 [[.int .i64 ka.1],[.int .i64 ka.2]]) [ka.1,ka.2]:=.inl rfl
 have hcb:FSl intc 1 (.fsl 1 [[.int .i64 kb'.1],[.int .i64 kb'.2]]) [kb'.1,kb'.2]:=.inl rfl
 refine xPd (fun he=>?_) (fun he=>?_)
 ·have he':ka=kb':=by
   simp only [yAJ,beq_iff_eq] at he
   exact Prod.ext he.1 he.2
  simp [cmpKey,he'] at hk
  simp
  exact hk
 ·have he':¬ ka=kb':=by
   rintro rfl
   simp at he
  simp [cmpKey,he'] at hk
  simp
  refine Dra.auto [] mix ?_ ?_
  ·kernel_rfl
  simp [classes,h1,h2,ha,hb,xAd hla,xAd hlb,keyc]
  refine (xGv hca hcb (by simp)).b (n:=9) ?_ rfl ?_ <;> simp [h1,h2,ha,hb,keyc]
  exact hk
def cel {α:Type} (c:α→AV) (x:α):List AV:=[c x]
theorem xAm {α:Type} {l:List α} {i j:Nat} {x y:α} (hx:l[i]?=some x) (hy:l[j]?=some y):((l.set i y).set j x).Perm l:=by
 obtain ⟨h1,h2⟩:=xgS hx
 obtain ⟨h3,h4⟩:=xgS hy
 rw [← h2,← h4]
 exact List.set_set_perm h1 h3
end Go.Proofs.YtnhfofmhkfdpgaaGreatDoor.Vm
