/- A part of the proof: Ad Ah Ae Ar. -/
import Derived.Lib.TrailingZeros
import Derived.Test.YtbhkamemheaajaaGreatDoorQ26
set_option linter.unusedVariables false
set_option linter.unusedSimpArgs false
set_option linter.constructorNameAsVariable false
namespace Go.Proofs.YtbhkamemheaajaaGreatDoor.Vm
open Go Go.RowKit
variable {N:Nat} {g:Glob}
theorem mem_sorted {l:List Int} {x:Int}:x ∈ sorted l ↔ x ∈ l:=by simp [sorted]
def Fun.insts (f:Fun):List Ins:=(f.blks.map Blk.ins).flatten
theorem Fun.insts_mem {f:Fun} {x:Ins}:x ∈ f.insts ↔ ∃ b ∈ f.blks,x ∈ b.ins:=by
 simp only [Fun.insts,List.mem_flatten,List.mem_map]
 constructor
 ·rintro ⟨_,⟨b,hb,rfl⟩,hx⟩;exact ⟨b,hb,hx⟩
 ·rintro ⟨b,hb,hx⟩;exact ⟨_,⟨b,hb,rfl⟩,hx⟩
def Fun.dids (f:Fun) (v:Int):List Int:=sorted ((f.insts.filter fun x=>decide (x.def=v)).map Ins.id)
theorem Fun.dids_mem {f:Fun} {v d:Int}:d ∈ f.dids v ↔ ∃ x ∈ f.insts,x.def=v∧x.id=d:=by
 rw [Fun.dids,mem_sorted,List.mem_map]
 constructor
 ·rintro ⟨x,hx,rfl⟩
  rw [List.mem_filter] at hx
  exact ⟨x,hx.1,by simpa using hx.2,rfl⟩
 ·rintro ⟨x,hx,h1,rfl⟩
  exact ⟨x,List.mem_filter.2 ⟨hx,by simpa using h1⟩,rfl⟩
def Ins.reach (i:Ins) (s:BSet) (ids:List Int):BSet:=if i.def=-1 then s else (s.minus (BSet.ofL s.n ids)).with i.id
def Fun.pastD (f:Fun) (s:BSet) (l:List Ins):BSet:=l.foldl (fun s x=>if 0≤x.def then x.reach s (f.dids x.def) else s) s
def Fun.killI (f:Fun) (s:BSet) (l:List Ins):BSet:=l.foldl (fun s x=>if 0≤x.def then s.or (BSet.ofL 96 (f.dids x.def)) else s) s
def Fun.genD (f:Fun) (k:Nat):BSet:=f.pastD (BSet.new 96) (f.code k)
def Fun.killD (f:Fun) (k:Nat):BSet:=f.killI (BSet.new 96) (f.code k)
def Fun.dflow (f:Fun):Flw where
 w:=96
 rs:=f.pgr
 gen:=(List.range f.blks.length).map f.genD
 kill:=(List.range f.blks.length).map f.killD
def Ins.fine (x:Ins):Prop:=-1≤x.def∧0≤x.id∧x.id < 96
theorem ins_fine {p:Prg} {f:Fun} {x:Ins} (h:p.insOK f x=true):x.fine:=by
 have h1:=(ins_vars h).2
 simp only [Prg.insOK,Bool.and_eq_true] at h
 have hox:=h.1.1
 have hp:x.okP:=by simpa [Ins.ok] using hox
 exact ⟨by omega,hp.2.1,hp.2.2.1⟩
theorem reach_ok {x:Ins} {s:BSet} (hs:s.OK∧s.n=96) (ids:List Int):(x.reach s ids).OK∧(x.reach s ids).n=96:=by
 unfold Ins.reach
 split
 ·exact hs
 ·have h1:(BSet.ofL s.n ids).OK:=BSet.ofL_ok (by rw [hs.2];omega) _
  refine ⟨BSet.with_ok (BSet.minus_ok hs.1 h1) _,?_⟩
  rw [BSet.with_n,minus_n,BSet.ofL_n,Nat.max_self,hs.2]
theorem reach_mem {x:Ins} {s:BSet} (hs:s.OK∧s.n=96) (hx:x.fine) (hd:0≤x.def) (ids:List Int) (v:Nat):(x.reach s ids).mem v=((s.mem v && !(decide (v < 96) && decide ((v:Int) ∈ ids))) || decide ((v:Int)=x.id)):=by
 have h1:(BSet.ofL s.n ids).OK:=BSet.ofL_ok (by rw [hs.2];omega) _
 have h2:=BSet.minus_ok hs.1 h1
 unfold Ins.reach
 rw [if_neg (by omega),BSet.mem_with h2,BSet.minus_mem hs.1 h1,BSet.ofL_mem (by rw [hs.2];omega),hs.2]
 have h3:(s.minus (BSet.ofL 96 ids)).isB x.id=true:=by
  rw [BSet.isB_iff,minus_n,BSet.ofL_n,hs.2]
  have:=hx.2
  exact ⟨this.1,by omega⟩
 rw [h3,Bool.true_and]
theorem pastD_ok {f:Fun} (l:List Ins):∀{s:BSet},s.OK∧s.n=96→(f.pastD s l).OK∧(f.pastD s l).n=96:=by
 induction l with
 | nil=>intro s hs;exact hs
 | cons x l ih =>
  intro s hs
  refine ih (s:=if 0≤x.def then x.reach s (f.dids x.def) else s) ?_
  split
  ·exact reach_ok hs _
  ·exact hs
theorem killI_ok {f:Fun} (l:List Ins):∀{s:BSet},s.OK∧s.n=96→(f.killI s l).OK∧(f.killI s l).n=96:=by
 induction l with
 | nil=>intro s hs;exact hs
 | cons x l ih =>
  intro s hs
  refine ih (s:=if 0≤x.def then s.or (BSet.ofL 96 (f.dids x.def)) else s) ?_
  split
  ·refine ⟨BSet.or_ok hs.1 (BSet.ofL_ok (by omega) _),?_⟩
   rw [BSet.or_n,BSet.ofL_n,hs.2];rfl
  ·exact hs
theorem new96:(BSet.new 96).OK∧(BSet.new 96).n=96:=⟨BSet.new_ok (by omega),rfl⟩
theorem pastD_snoc (f:Fun) (s:BSet) (l:List Ins) (x:Ins):f.pastD s (l ++ [x])=if 0≤x.def then x.reach (f.pastD s l) (f.dids x.def) else f.pastD s l:=by
 unfold Fun.pastD
 rw [List.foldl_append];rfl
theorem pastD_succ (f:Fun) (s:BSet) {l:List Ins} {k:Nat} {x:Ins} (hx:l[k]?=some x):f.pastD s (l.take (k + 1))=if 0≤x.def then x.reach (f.pastD s (l.take k)) (f.dids x.def) else f.pastD s (l.take k):=by
 rw [take_succ_get hx,pastD_snoc]
def Fun.kills (f:Fun) (l:List Ins) (v:Nat):Bool:=l.any fun x=>decide (0≤x.def) && (decide (v < 96) && decide ((v:Int) ∈ f.dids x.def))
theorem killI_mem {f:Fun} (v:Nat) (l:List Ins):∀{s:BSet},s.OK∧s.n=96→(f.killI s l).mem v=(s.mem v || f.kills l v):=by
 induction l with
 | nil=>intro s hs;simp [Fun.killI,Fun.kills]
 | cons x l ih =>
  intro s hs
  have h1:∀s',f.killI s' (x :: l)=f.killI (if 0≤x.def then s'.or (BSet.ofL 96 (f.dids x.def)) else s') l:=fun s'=>rfl
  have h2:f.kills (x :: l) v=((decide (0≤x.def) && (decide (v < 96) && decide ((v:Int) ∈ f.dids x.def))) || f.kills l v):=rfl
  rw [h1,h2]
  by_cases hd:0≤x.def
  ·have h3:(BSet.ofL 96 (f.dids x.def)).OK:=BSet.ofL_ok (by omega) _
   rw [if_pos hd,ih ⟨BSet.or_ok hs.1 h3,by rw [BSet.or_n,BSet.ofL_n,hs.2];rfl⟩,BSet.or_mem hs.1 h3,BSet.ofL_mem (by omega),decide_eq_true hd,Bool.true_and,Bool.or_assoc]
  ·rw [if_neg hd,ih hs,decide_eq_false hd,Bool.false_and,Bool.false_or]
theorem pastD_mem {f:Fun} (v:Nat):∀(l:List Ins),(∀x ∈ l,x.fine)→∀{s:BSet},s.OK∧s.n=96→(f.pastD s l).mem v=((f.pastD (BSet.new 96) l).mem v || (s.mem v && !f.kills l v)):=by
 intro l
 generalize hn:l.length=n
 induction n generalizing l with
 | zero =>
  intro _ s _
  rw [List.length_eq_zero_iff] at hn
  subst hn
  simp [Fun.pastD,Fun.kills,BSet.new_mem]
 | succ n ih =>
  intro hl s hs
  have hne:l ≠ []:=fun h=>by rw [h] at hn;simp at hn
  obtain ⟨m,x,rfl⟩:∃ m x,l=m ++ [x]:=⟨l.dropLast,l.getLast hne,(List.dropLast_concat_getLast hne).symm⟩
  have hm:m.length=n:=by simp at hn;omega
  have ihm:=ih m hm (fun y hy=>hl y (by simp [hy])) hs
  have hk:f.kills (m ++ [x]) v=(f.kills m v || (decide (0≤x.def) && (decide (v < 96) && decide ((v:Int) ∈ f.dids x.def)))):=by simp [Fun.kills]
  rw [pastD_snoc,pastD_snoc,hk]
  by_cases hd:0≤x.def
  ·have hxf:=hl x (by simp)
   rw [if_pos hd,if_pos hd,reach_mem (pastD_ok m hs) hxf hd,reach_mem (pastD_ok m new96) hxf hd,ihm,decide_eq_true hd]
   cases (f.pastD (BSet.new 96) m).mem v <;> cases s.mem v <;> cases f.kills m v <;> cases (decide (v < 96) && decide ((v:Int) ∈ f.dids x.def)) <;> cases decide ((v:Int)=x.id) <;> rfl
  ·rw [if_neg hd,if_neg hd,ihm,decide_eq_false hd,Bool.false_and,Bool.or_false]
theorem Fun.code_mem {f:Fun} {k:Nat} {x:Ins} (h:x ∈ f.code k):∃ b,f.blks[k]?=some b∧x ∈ b.ins:=by
 unfold Fun.code at h
 cases hb:f.blks[k]? with
 | none=>rw [hb] at h;simp at h
 | some b=>rw [hb] at h;exact ⟨b,rfl,by simpa using h⟩
theorem FunOK.fine {p:Prg} {f:Fun} (h:FunOK p f) {k:Nat} {x:Ins} (hx:x ∈ f.code k):x.fine:=by
 obtain ⟨b,hb,hxb⟩:=Fun.code_mem hx
 exact ins_fine ((h.blk (List.mem_of_getElem? hb)).2.2.2.2 x hxb)
theorem dflow_ok {p:Prg} {f:Fun} (h:FunOK p f):f.dflow.OK:=by
 have hl:=h.len
 have hlen:f.pgr.length=f.blks.length:=by simp [Fun.pgr]
 refine ⟨by show 96≤128;omega,by show 0 < f.pgr.length;omega,by show f.pgr.length≤12;omega,?_,?_,?_,?_,?_⟩
 ·show ((List.range f.blks.length).map f.genD).length=f.pgr.length
  simp [hlen]
 ·show ((List.range f.blks.length).map f.killD).length=f.pgr.length
  simp [hlen]
 ·intro s hs
  obtain ⟨k,_,rfl⟩:=List.mem_map.1 hs
  exact pastD_ok _ new96
 ·intro s hs
  obtain ⟨k,_,rfl⟩:=List.mem_map.1 hs
  exact killI_ok _ new96
 ·intro m hm
  obtain ⟨k,hk,rfl⟩:=List.mem_map.1 hm
  have h1:=f.predsTo_len (k:Int) f.blks.length
  refine ⟨by show (f.preds k).length < 64;unfold Fun.preds;omega,fun j hj=>?_⟩
  obtain ⟨k2,y,rfl,h2,_⟩:=Fun.preds_mem.1 hj
  have:=(List.getElem?_eq_some_iff.1 h2).1
  exact ⟨by omega,by show (k2:Int) < f.pgr.length;omega⟩
theorem dflow_len (f:Fun):f.dflow.rs.length=f.blks.length:=by simp [Fun.dflow,Fun.pgr]
theorem dflow_rs {f:Fun} {k:Nat} (h:k < f.blks.length):f.dflow.rs.getD k []=f.preds k:=by
 simp [Fun.dflow,Fun.pgr,List.getD_eq_getElem?_getD,h]
theorem dflow_gen {f:Fun} {k:Nat} (h:k < f.blks.length):f.dflow.gen.getD k (BSet.new 96)=f.genD k:=by
 simp [Fun.dflow,List.getD_eq_getElem?_getD,h]
theorem dflow_kill {f:Fun} {k:Nat} (h:k < f.blks.length):f.dflow.kill.getD k (BSet.new 96)=f.killD k:=by
 simp [Fun.dflow,List.getD_eq_getElem?_getD,h]
open Classical in
noncomputable def Fun.ends (f:Fun):List BSet:=if h:f.dflow.OK then f.dflow.sol h else []
noncomputable def Fun.din (f:Fun) (k:Nat):BSet:=orAll 96 f.ends (f.preds k)
noncomputable def Fun.dat (f:Fun) (j k:Nat):BSet:=f.pastD (f.din j) ((f.code j).take k)
theorem Fun.ends_eq {f:Fun} (h:f.dflow.OK):f.ends=f.dflow.sol h:=by
 unfold Fun.ends;rw [dif_pos h]
theorem Fun.ends_good (f:Fun):GoodW 96 f.ends:=by
 unfold Fun.ends
 split
 ·rename_i h;exact Flw.sol_good h
 ·intro s hs;cases hs
theorem Fun.ends_len {f:Fun} (h:f.dflow.OK):f.ends.length=f.blks.length:=by rw [Fun.ends_eq h,Flw.sol_len h,dflow_len]
theorem Fun.din_ok (f:Fun) (k:Nat):(f.din k).OK∧(f.din k).n=96:=orAll_ok (by omega) f.ends_good _
theorem Fun.dat_ok (f:Fun) (j k:Nat):(f.dat j k).OK∧(f.dat j k).n=96:=pastD_ok _ (f.din_ok j)
theorem Fun.din_mem (f:Fun) (k v:Nat):(f.din k).mem v=(f.preds k).any fun j=>(f.ends.getD j.toNat (BSet.new 96)).mem v:=orAll_mem (by omega) f.ends_good _ v
theorem Fun.ends_at {p:Prg} {f:Fun} (h:FunOK p f) {k:Nat} {s:BSet} (hs:f.ends[k]?=some s):s=f.pastD (f.din k) (f.code k):=by
 have hF:=dflow_ok h
 have hk:k < f.blks.length:=by rw [← f.ends_len hF];exact (List.getElem?_eq_some_iff.1 hs).1
 have hso:=f.ends_good s (List.mem_of_getElem? hs)
 have e1:=hs
 rw [Fun.ends_eq hF] at e1
 have e2:=Flw.sol_fix hF e1
 have hg:=f.ends_good
 have hpo:=pastD_ok (f:=f) (f.code k) (f.din_ok k)
 refine BSet.ext hso.1 hpo.1 (by rw [hso.2,hpo.2]) fun v _=>?_
 rw [pastD_mem v _ (fun x hx=>h.fine hx) (f.din_ok k),f.din_mem]
 rw [e2,Flw.ev_mem hF (Flw.sol_good hF),← Fun.ends_eq hF]
 show ((f.dflow.gen.getD k (BSet.new 96)).mem v || (((f.dflow.rs.getD k []).any fun j=>(f.ends.getD j.toNat (BSet.new 96)).mem v) && !(f.dflow.kill.getD k (BSet.new 96)).mem v))=_
 rw [dflow_gen hk,dflow_rs hk,dflow_kill hk]
 unfold Fun.genD Fun.killD
 rw [killI_mem v _ new96,BSet.new_mem,Bool.false_or]
theorem Fun.ends_dat {p:Prg} {f:Fun} (h:FunOK p f) {k:Nat} (hk:k < f.blks.length):f.ends[k]?=some (f.dat k (f.code k).length):=by
 have hl:=f.ends_len (dflow_ok h)
 obtain ⟨s,hs⟩:∃ s,f.ends[k]?=some s:=⟨_,List.getElem?_eq_getElem (by omega)⟩
 rw [hs,Fun.dat,List.take_length,← f.ends_at h hs]
theorem Fun.dat_zero (f:Fun) (j:Nat):f.dat j 0=f.din j:=by simp [Fun.dat,Fun.pastD]
theorem Fun.dat_succ {f:Fun} {j k:Nat} {b:Blk} {x:Ins} (hb:f.blks[j]?=some b) (hx:b.ins[k]?=some x):f.dat j (k + 1)=if 0≤x.def then x.reach (f.dat j k) (f.dids x.def) else f.dat j k:=by
 unfold Fun.dat
 rw [pastD_succ f _ (by rw [code_at hb];exact hx)]
theorem Fun.din_of {p:Prg} {f:Fun} (h:FunOK p f) {j c:Nat} {b:Blk} (hb:f.blks[j]?=some b) (hc:(c:Int) ∈ b.out) {v:Nat} (hv:(f.dat j b.ins.length).mem v=true):(f.din c).mem v=true:=by
 rw [f.din_mem,List.any_eq_true]
 have hj:=(List.getElem?_eq_some_iff.1 hb).1
 refine ⟨(j:Int),Fun.preds_mem.2 ⟨j,b,rfl,hb,hc⟩,?_⟩
 rw [Int.toNat_natCast,List.getD_eq_getElem?_getD,f.ends_dat h hj,code_at hb]
 exact hv
end Go.Proofs.YtbhkamemheaajaaGreatDoor.Vm
namespace Go.Proofs.YtbhkamemheaajaaGreatDoor.Vm
open Go Go.RowKit
variable {N:Nat} {g:Glob}
def Blk.stepsTo (k:Nat) (y:Blk) (c:Nat):List (Nat × Ins):=(y.ins.take c).map fun x=>(k,x)
def Fun.stepsTo (k:Nat) (f:Fun) (b:Nat):List (Nat × Ins):=((f.blks.take b).map fun y=>y.stepsTo k y.ins.length).flatten
def Prg.stepsTo (p:Prg):Nat→List (Nat × Ins)
 | 0=>[]
 | a + 1=>p.stepsTo a ++ (match p.funs[a]? with | some f=>f.stepsTo a f.blks.length | none=>[])
def Prg.steps (p:Prg):List (Nat × Ins):=p.stepsTo p.funs.length
theorem Prg.stepsTo_succ {p:Prg} {a:Nat} {f:Fun} (h:p.funs[a]?=some f):p.stepsTo (a + 1)=p.stepsTo a ++ f.stepsTo a f.blks.length:=by
 rw [Prg.stepsTo,h]
theorem Fun.stepsTo_succ {k b:Nat} {f:Fun} {y:Blk} (h:f.blks[b]?=some y):f.stepsTo k (b + 1)=f.stepsTo k b ++ y.stepsTo k y.ins.length:=by
 unfold Fun.stepsTo
 rw [take_succ_get h,List.map_append,List.flatten_append]
 simp
theorem Blk.stepsTo_succ {k c:Nat} {y:Blk} {x:Ins} (h:y.ins[c]?=some x):y.stepsTo k (c + 1)=y.stepsTo k c ++ [(k,x)]:=by
 unfold Blk.stepsTo
 rw [take_succ_get h,List.map_append];rfl
theorem Blk.stepsTo_sub {k:Nat} {y:Blk} (c:Nat):(y.stepsTo k c).Sublist (y.stepsTo k y.ins.length):=by
 unfold Blk.stepsTo
 rw [List.take_length]
 exact (List.take_sublist _ _).map _
theorem Fun.stepsTo_sub {k:Nat} {f:Fun} (b:Nat):(f.stepsTo k b).Sublist (f.stepsTo k f.blks.length):=by
 unfold Fun.stepsTo
 rw [List.take_length]
 have h:f.blks.map (fun y=>y.stepsTo k y.ins.length)=(f.blks.take b).map (fun y=>y.stepsTo k y.ins.length) ++ (f.blks.drop b).map (fun y=>y.stepsTo k y.ins.length):=by
  rw [← List.map_append,List.take_append_drop]
 rw [h,List.flatten_append]
 exact List.sublist_append_left _ _
theorem Prg.stepsTo_sub {p:Prg} {a:Nat}:∀m,a≤m→(p.stepsTo a).Sublist (p.stepsTo m)
 | 0,h=>by rw [show a=0 by omega];exact List.Sublist.refl _
 | m + 1,h=>by
  by_cases he:a=m + 1
  ·subst he;exact List.Sublist.refl _
  ·rw [Prg.stepsTo]
   exact (Prg.stepsTo_sub m (by omega)).trans (List.sublist_append_left _ _)
theorem steps_part {p:Prg} {f:Fun} {y:Blk} {a b c:Nat} (hf:p.funs[a]?=some f) (hy:f.blks[b]?=some y):(p.stepsTo a ++ (f.stepsTo a b ++ y.stepsTo a c)).Sublist p.steps:=by
 have ha:=(List.getElem?_eq_some_iff.1 hf).1
 have h1:(f.stepsTo a b ++ y.stepsTo a c).Sublist (f.stepsTo a f.blks.length) :=
  ((List.Sublist.refl _).append (y.stepsTo_sub c)).trans (by rw [← Fun.stepsTo_succ hy];exact f.stepsTo_sub _)
 have h2:(p.stepsTo a ++ (f.stepsTo a b ++ y.stepsTo a c)).Sublist (p.stepsTo (a + 1)):=by
  rw [Prg.stepsTo_succ hf]
  exact (List.Sublist.refl _).append h1
 exact h2.trans (Prg.stepsTo_sub _ (by omega))
theorem Fun.steps_insts (k:Nat) (f:Fun):f.stepsTo k f.blks.length=f.insts.map fun x=>(k,x):=by
 unfold Fun.stepsTo Fun.insts
 rw [List.take_length,List.map_flatten,List.map_map]
 congr 1
 refine List.map_congr_left fun y _=>?_
 simp [Blk.stepsTo]
theorem Prg.stepsTo_of (p:Prg) (i:Nat) (q:Ins→Bool):∀a,a≤p.funs.length→((p.stepsTo a).filter fun t=>decide (t.1=i) && q t.2)=if i < a then (match p.funs[i]? with | some f=>(f.insts.filter q).map fun x=>(i,x) | none=>[]) else []
 | 0,_=>by simp [Prg.stepsTo]
 | a + 1,h=>by
  obtain ⟨f,hf⟩:∃ f,p.funs[a]?=some f:=⟨_,List.getElem?_eq_getElem (by omega)⟩
  rw [Prg.stepsTo_succ hf,List.filter_append,Prg.stepsTo_of p i q a (by omega),Fun.steps_insts,List.filter_map]
  by_cases hia:i=a
  ·subst hia
   rw [if_neg (by omega),if_pos (by omega),hf,List.nil_append]
   simp only [Function.comp]
   congr 1
   refine List.filter_congr fun x _=>?_
   simp
  ·have e:(f.insts.filter ((fun t:Nat × Ins=>decide (t.1=i) && q t.2) ∘ fun x=>(a,x)))=[]:=by
    rw [List.filter_eq_nil_iff]
    intro x _
    simp [Function.comp,Ne.symm hia]
   rw [e,List.map_nil,List.append_nil]
   by_cases hlt:i < a
   ·rw [if_pos hlt,if_pos (by omega)]
   ·rw [if_neg hlt,if_neg (by omega)]
theorem steps_dids {p:Prg} {i:Nat} {f:Fun} (hf:p.funs[i]?=some f) (v:Int):sorted ((p.steps.filter fun t=>decide (t.1=i) && decide (t.2.def=v)).map fun t=>t.2.id)=f.dids v:=by
 have hi:=(List.getElem?_eq_some_iff.1 hf).1
 unfold Prg.steps
 rw [Prg.stepsTo_of p i (fun x=>decide (x.def=v)) _ (Nat.le_refl _),if_pos hi,hf]
 simp only [List.map_map]
 rfl
theorem prog_each {p:Prg} (hp:p.Fit) {fv:AV} {S0:St} {K:AV→St→Prop} (Inv:List (Nat × Ins)→St→Prop) (hup:∀L S S',Inv L S→Up S S'→Inv L S') (h0:Inv [] S0)
  (hst:∀(L:List (Nat × Ins)) (a b c:Nat) (f:Fun) (y:Blk) (x:Ins) (S:St),p.funs[a]?=some f→f.blks[b]?=some y→y.ins[c]?=some x→(L ++ [(a,x)]).Sublist p.steps→Inv L S→∀K':AV→St→Prop,(∀v S',Inv (L ++ [(a,x)]) S'→K' v S')→CalV P (gl N) fv [.int .i64 a,.int .i64 b,.int .i64 c,encI x] S K')
  (hk:∀S,Inv p.steps S→K (.tuple []) S):Cal P (gl N) 57 [encP p,fv] S0 K:=by
 refine c57.in (by simp) ?_
 have hpl:=hp.funs
 simp [k57]
 refine W.whileI (fun (a:Nat) F S=>a≤p.funs.length∧F 1=fv∧F 11=p.funsV∧F 12=.int .i64 p.funs.length∧F 13=.int .i64 a∧Inv (p.stepsTo a) S) (fun a=>p.funs.length - a) ?_ 0 _ _ ?_
 ·rintro a F S ⟨ha,f1,f11,f12,f13,hI⟩
  by_cases hlt:a < p.funs.length
  ·have e4:=wrapS a (by omega)
   obtain ⟨f,hf⟩:∃ f,p.funs[a]?=some f:=⟨_,List.getElem?_eq_getElem hlt⟩
   have hfs:=hp.each f (List.mem_of_getElem? hf)
   have hbl:=hfs.blks
   simp [f12,f13,hlt]
   simp [f11,f13,p.funsS.idx hf]
   generalize hS1:(S.new (.row 3 [[.int .i64 0,.int .i64 0,.nilsl]])).set S.next (.row 3 [[.int .i64 f.par,.int .i64 f.vars,f.blksV]])=S1
   have hI1:Inv (p.stepsTo a ++ f.stepsTo a 0) S1:=by
    have:p.stepsTo a ++ f.stepsTo a 0=p.stepsTo a:=by simp [Fun.stepsTo]
    rw [this,← hS1]
    exact hup _ _ _ hI ((Up.new _ _).put (Nat.le_refl _) _)
   clear hS1 hI
   refine W.whileI (fun (b:Nat) F S=>b≤f.blks.length∧F 1=fv∧F 11=p.funsV∧F 12=.int .i64 p.funs.length∧F 13=.int .i64 a∧F 4=.int .i64 a∧F 19=f.blksV∧F 20=.int .i64 f.blks.length∧F 21=.int .i64 b∧Inv (p.stepsTo a ++ f.stepsTo a b) S) (fun b=>f.blks.length - b) ?_ 0 _ _ ?_
   ·rintro b F S ⟨hb,f1,f11,f12,f13,f4,f19,f20,f21,hI⟩
    by_cases hltb:b < f.blks.length
    ·have e5:=wrapS b (by omega)
     obtain ⟨y,hy⟩:∃ f',f.blks[b]?=some f':=⟨_,List.getElem?_eq_getElem hltb⟩
     have hil:=hfs.ins y (List.mem_of_getElem? hy)
     simp [f20,f21,hltb]
     simp [f19,f21,f.blksS.idx hy]
     generalize hS1:(S.new (.row 3 [[.bool false,.nilsl,.nilsl]])).set S.next (.row 3 [[.bool y.on,y.insV,y.outV]])=S1
     have hI1:Inv (p.stepsTo a ++ (f.stepsTo a b ++ y.stepsTo a 0)) S1:=by
      have:f.stepsTo a b ++ y.stepsTo a 0=f.stepsTo a b:=by simp [Blk.stepsTo]
      rw [this,← hS1]
      exact hup _ _ _ hI ((Up.new _ _).put (Nat.le_refl _) _)
     clear hS1 hI
     refine W.whileI (fun (c:Nat) F S=>c≤y.ins.length∧F 1=fv∧F 11=p.funsV∧F 12=.int .i64 p.funs.length∧F 13=.int .i64 a∧F 4=.int .i64 a∧F 19=f.blksV∧F 20=.int .i64 f.blks.length∧F 21=.int .i64 b∧F 6=.int .i64 b∧F 27=y.insV∧F 28=.int .i64 y.ins.length∧F 29=.int .i64 c∧Inv (p.stepsTo a ++ (f.stepsTo a b ++ y.stepsTo a c)) S) (fun c=>y.ins.length - c) ?_ 0 _ _ ?_
     ·rintro c F S ⟨hc,f1,f11,f12,f13,f4,f19,f20,f21,f6,f27,f28,f29,hI⟩
      by_cases hltc:c < y.ins.length
      ·have e6:=wrapS c (by omega)
       obtain ⟨x,hx⟩:∃ x,y.ins[c]?=some x:=⟨_,List.getElem?_eq_getElem hltc⟩
       simp [f28,f29,hltc]
       simp [f27,f29,y.insS.idx hx,f1,f4,f6]
       have hL:(p.stepsTo a ++ (f.stepsTo a b ++ y.stepsTo a c)) ++ [(a,x)]=p.stepsTo a ++ (f.stepsTo a b ++ y.stepsTo a (c + 1)):=by
        rw [Blk.stepsTo_succ hx];simp
       refine hst (p.stepsTo a ++ (f.stepsTo a b ++ y.stepsTo a c)) a b c f y x _ hf hy hx (by rw [hL];exact steps_part hf hy) (hup _ _ _ hI ((Up.new _ _).put (Nat.le_refl _) _)) _ fun v S' hI'=>?_
       rw [hL] at hI'
       simp [f1,f4,f6,f11,f12,f13,f19,f20,f21,f27,f28,f29,e6]
       exact ⟨c + 1,by omega,by omega,by omega,hI'⟩
      ·have:c=y.ins.length:=by omega
       subst this
       simp [f28,f29,f1,f4,f11,f12,f13,f19,f20,f21,e5]
       exact ⟨b + 1,by omega,by omega,by omega,by rw [Fun.stepsTo_succ hy];exact hI⟩
     ·simp [f1,f4,f11,f12,f13,f19,f20,f21]
      exact hI1
    ·have:b=f.blks.length:=by omega
     subst this
     simp [f20,f21,f1,f11,f12,f13,e4]
     exact ⟨a + 1,by omega,by omega,by omega,by rw [Prg.stepsTo_succ hf];exact hI⟩
   ·simp [f1,f11,f12,f13]
    exact hI1
  ·have:a=p.funs.length:=by omega
   subst this
   simp [f12,f13]
   exact hk S hI
 ·simp
  exact hup _ _ _ h0 (Up.new _ _)
end Go.Proofs.YtbhkamemheaajaaGreatDoor.Vm
namespace Go.Proofs.YtbhkamemheaajaaGreatDoor.Vm
open Go Go.RowKit
variable {N:Nat} {g:Glob}
theorem bits_Meet (a b:BSet) (ha:a.OK) (hb:b.OK):Own P g 60 [encB a,encB b] (.agg [.int .i64 (max a.n b.n:Nat),.sl 1 0 0 (nw (max a.n b.n))]) (St.ofL [.row 1 (els u64c (BSet.merge (· &&& ·) a b).ws)]):=by
 refine Own.in [3] c60 (by simp) (by simp) ?_
 simp [k60]
 refine (bits_both a b ha hb).use' (n:=9) ?_ ?_ ?_ <;> simp [BSet.merge]
 have hm:max a.n b.n≤1024:=Nat.max_le.2 ⟨ha.n,hb.n⟩
 have hnw:=nw_le hm
 have la:=padW_len (nw (max a.n b.n)) a.ws
 have lb:=padW_len (nw (max a.n b.n)) b.ws
 have wa:=padW_lt (k:=nw (max a.n b.n)) ha.lt
 have wb:=padW_lt (k:=nw (max a.n b.n)) hb.lt
 have hcast:(max (a.n:Int) b.n)=((max a.n b.n:Nat):Int):=by omega
 try simp only [hcast]
 generalize max a.n b.n=m at *
 generalize padW (nw m) a.ws=xs at *
 generalize padW (nw m) b.ws=ys at *
 generalize nw m=n at *
 refine W.whileI (fun (k:Nat) F S=>k≤n∧F 4=.ptr 2 0 0∧F 5=.ptr 5 0 0∧F 16=.sl 1 4 0 n∧F 17=.int .i64 n∧F 18=.int .i64 k∧S.obj 2=some (.row 2 [[.int .i64 0,.nilsl]])∧S.obj 5=some (.row 2 [[.int .i64 m,.sl 1 3 0 n]]) ∧
   S.obj 3=some (.row 1 (els u64c (mergeW (· &&& ·) k xs ys)))∧S.obj 4=some (.row 1 (els u64c ys))) (fun k=>n - k) ?_ 0 _ _ ?_
 ·rintro k F S ⟨hk,h4,h5,h16,h17,h18,s2,s5,s3,s4⟩
  by_cases hlt:k < n
  ·simp [h18,h17,hlt]
   obtain ⟨y,hy⟩:∃ y,ys[k]?=some y:=⟨_,List.getElem?_eq_getElem (by omega)⟩
   obtain ⟨x,hx⟩:∃ x,xs[k]?=some x:=⟨_,List.getElem?_eq_getElem (by omega)⟩
   obtain ⟨g1,g2⟩:=mergeW_step (· &&& ·) k xs ys x y hx hy
   have e2:=u64and x y (wa x (List.mem_of_getElem? hx)) (wb y (List.mem_of_getElem? hy))
   have e3:∀z:Nat,(els u64c (mergeW (· &&& ·) k xs ys)).set k [AV.int .u64 (z:Int)]=els u64c ((mergeW (· &&& ·) k xs ys).set k z):=fun z=>els_set (e:=u64c)
   have e4:=wrapS k (by omega)
   simp [h16,pk_indexAddr2,hlt,s4,hy,u64c,h5,s5,s3,g1,e2,e3,g2,e4]
   exact ⟨k + 1,by omega,by omega,h4,by omega,s2,rfl⟩
  ·have:k=n:=by omega
   subst this
   simp [h18,h17,h4,h5,s2,s5,s3,RO]
 ·simp [mergeW]
def BSet.meet (a b:BSet):BSet:=BSet.merge (· &&& ·) a b
theorem BSet.meet_n (a b:BSet):(a.meet b).n=max a.n b.n:=rfl
theorem BSet.meet_ok {a b:BSet} (ha:a.OK) (hb:b.OK):(a.meet b).OK:=BSet.merge_ok Bool.and (fun a b h1 _=>Nat.lt_of_le_of_lt Nat.and_le_left h1) (fun a b i _ _=>Nat.testBit_and a b i) rfl ha hb
theorem BSet.meet_mem {a b:BSet} (ha:a.OK) (hb:b.OK) (j:Nat):(a.meet b).mem j=(a.mem j && b.mem j):=BSet.merge_mem Bool.and (fun a b i _ _=>Nat.testBit_and a b i) rfl ha hb j
theorem meet_ret {a b:BSet} (ha:a.OK) (hb:b.OK):Ret P g true 60 [encB a,encB b] (encB (a.meet b)):=(bits_Meet a b ha hb).setR rfl (BSet.meet_ok ha hb).len
theorem filt_first {p p':Nat→Bool} {k:Nat} (hk:p k=true) (hlt:∀j,j < k→p j=false) (hp:∀j,p' j=(p j && !decide (j=k))):∀(n a:Nat),a≤k→k < a + n→(List.range' a n).filter p=k :: (List.range' a n).filter p'
 | 0,a,h1,h2=>by omega
 | n + 1,a,h1,h2=>by
  rw [List.range'_succ]
  by_cases he:a=k
  ·subst he
   rw [List.filter_cons_of_pos hk,List.filter_cons_of_neg (by simp [hp])]
   congr 1
   refine List.filter_congr fun j hj=>?_
   have:=(List.mem_range'_1.1 hj).1
   rw [hp,decide_eq_false (by omega)];simp
  ·have h3:p a=false:=hlt a (by omega)
   rw [List.filter_cons_of_neg (by simp [h3]),List.filter_cons_of_neg (by simp [hp,h3]),filt_first hk hlt hp n (a + 1) (by omega) (by omega)]
def bitsW (x:Nat):List Nat:=(List.range 64).filter fun j=>x.testBit j
theorem ctz_bits {x:Nat} (h0:x ≠ 0) (hx:x < 2 ^ 64):Lib.ctz 64 x < 64∧x.testBit (Lib.ctz 64 x)=true∧(∀j,j < Lib.ctz 64 x→x.testBit j=false)∧∀j,(x &&& (x - 1)).testBit j=(x.testBit j && !decide (j=Lib.ctz 64 x)):=by
 obtain ⟨m,hm,hk⟩:=Lib.ctzFrom_spec 64 x (by omega) hx
 have e:Lib.ctz 64 x=Lib.ctzFrom 64 x:=by simp [Lib.ctz,h0]
 rw [e]
 generalize Lib.ctzFrom 64 x=k at *
 have hb:∀j,x.testBit j=(decide (k≤j) && (2 * m + 1).testBit (j - k)):=fun j=>by
  rw [hm,Nat.mul_comm,Nat.testBit_mul_two_pow]
 have hy:x - 1=2 ^ k * (2 * m) + (2 ^ k - 1):=by
  have h1:0 < 2 ^ k:=Nat.two_pow_pos k
  have h2:2 ^ k * (2 * m + 1)=2 ^ k * (2 * m) + 2 ^ k:=by rw [Nat.mul_add,Nat.mul_one]
  omega
 have hb2:∀j,(x - 1).testBit j=if j < k then true else (2 * m).testBit (j - k):=fun j=>by
  rw [hy,Nat.testBit_two_pow_mul_add _ (by have:=Nat.two_pow_pos k;omega)]
  split
  ·rename_i h;rw [Nat.testBit_two_pow_sub_one];simpa using h
  ·rfl
 have hodd:∀i,(2 * m + 1).testBit i=if i=0 then true else m.testBit (i - 1):=fun i=>by
  cases i with
  | zero=>simp [Nat.testBit_zero]
  | succ i=>rw [Nat.testBit_succ,if_neg (by omega)];congr 1;omega
 have hev:∀i,(2 * m).testBit i=if i=0 then false else m.testBit (i - 1):=fun i=>by
  cases i with
  | zero=>simp [Nat.testBit_zero]
  | succ i=>rw [Nat.testBit_succ,if_neg (by omega)];congr 1;omega
 refine ⟨hk,by rw [hb];simp [Nat.testBit_zero],fun j hj=>by rw [hb,decide_eq_false (by omega),Bool.false_and],fun j=>?_⟩
 rw [Nat.testBit_and,hb,hb2]
 by_cases h1:j < k
 ·rw [decide_eq_false (by omega)];simp
 ·rw [if_neg h1,decide_eq_true (show k≤j by omega),hodd,hev]
  by_cases h2:j=k
  ·subst h2;simp
  ·rw [if_neg (by omega),if_neg (by omega),decide_eq_false h2];simp
theorem bitsW_first {x:Nat} (h0:x ≠ 0) (hx:x < 2 ^ 64):bitsW x=Lib.ctz 64 x :: bitsW (x &&& (x - 1)):=by
 obtain ⟨h1,h2,h3,h4⟩:=ctz_bits h0 hx
 unfold bitsW
 rw [List.range_eq_range']
 exact filt_first h2 h3 h4 64 0 (Nat.zero_le _) (by omega)
theorem bitsW_zero:bitsW 0=[]:=by simp [bitsW]
def BSet.listTo (s:BSet) (k:Nat):List Int:=((List.range (64 * k)).filter s.mem).map fun j:Nat=>(j:Int)
def BSet.list (s:BSet):List Int:=s.listTo s.ws.length
theorem BSet.listTo_succ {s:BSet} {k x:Nat} (hx:s.ws[k]?=some x):s.listTo (k + 1)=s.listTo k ++ (bitsW x).map fun j:Nat=>((k * 64 + j:Nat):Int):=by
 unfold BSet.listTo bitsW
 have e1:64 * (k + 1)=64 * k + 64:=by omega
 rw [e1,List.range_add,List.filter_append,List.map_append]
 congr 1
 rw [List.filter_map,List.map_map]
 have e2:(List.range 64).filter (s.mem ∘ fun x=>64 * k + x)=(List.range 64).filter fun j=>x.testBit j:=by
  refine List.filter_congr fun j hj=>?_
  have hj:=List.mem_range.1 hj
  have h1:(64 * k + j) / 64=k:=by omega
  have h2:(64 * k + j) % 64=j:=by omega
  simp only [Function.comp]
  rw [BSet.get_mem,h1,h2,List.getD_eq_getElem?_getD,hx];rfl
 rw [e2]
 refine List.map_congr_left fun j _=>?_
 simp only [Function.comp]
 omega
theorem BSet.list_mem {s:BSet} (hs:s.OK) {v:Int}:v ∈ s.list ↔ 0≤v∧s.mem v.toNat=true:=by
 unfold BSet.list BSet.listTo
 simp only [List.mem_map,List.mem_filter,List.mem_range]
 constructor
 ·rintro ⟨j,⟨_,h⟩,rfl⟩
  exact ⟨by omega,by rwa [Int.toNat_natCast]⟩
 ·rintro ⟨h1,h2⟩
  refine ⟨v.toNat,⟨?_,h2⟩,by omega⟩
  apply Classical.byContradiction
  intro hno
  rw [BSet.mem_top hs (by have:=hs.len;unfold nw at this;omega)] at h2
  cases h2
theorem BSet.list_nodup (s:BSet):s.list.Nodup:=by
 unfold BSet.list BSet.listTo
 rw [List.Nodup,List.pairwise_map]
 exact (List.nodup_range.filter _).imp fun h e=>h (by omega)
theorem BSet.listTo_len (s:BSet) (k:Nat):(s.listTo k).length≤64 * k:=by
 have:=List.length_filter_le s.mem (List.range (64 * k))
 simpa [BSet.listTo] using this
end Go.Proofs.YtbhkamemheaajaaGreatDoor.Vm
namespace Go.Proofs.YtbhkamemheaajaaGreatDoor.Vm
open Go Go.RowKit
set_option maxRecDepth 100000
variable {N:Nat} {g:Glob}
theorem blks_flat {l:List Blk} (h:∀b ∈ l,b.ins.length≤16):(l.map Blk.ins).flatten.length≤16 * l.length:=by
 induction l with
 | nil=>simp
 | cons b l ih =>
  have h1:=h b (by simp)
  have h2:=ih fun c hc=>h c (by simp [hc])
  simp only [List.map_cons,List.flatten_cons,List.length_append,List.length_cons]
  omega
theorem FunOK.insts {p:Prg} {f:Fun} (h:FunOK p f):f.insts.length≤192:=by
 have h1:=blks_flat (l:=f.blks) fun b hb=>(h.blk hb).2.2.2.1
 have:=h.len.2
 unfold Fun.insts
 omega
theorem FunOK.dids_len {p:Prg} {f:Fun} (h:FunOK p f) (v:Int):(f.dids v).length≤192:=by
 have h1:=h.insts
 have h2:=List.length_filter_le (fun x:Ins=>decide (x.def=v)) f.insts
 rw [Fun.dids,sorted_len,List.length_map]
 omega
noncomputable def Prg.defs (p:Prg) (i v:Int):List Int:=match p.fn i with
 | none=>[]
 | some f=>if v < 0 then [] else f.dids v
def keptL (i:Nat) (v:Int) (L:List (Nat × Ins)):List Int:=(L.filter fun t=>decide (t.1=i) && decide (t.2.def=v)).map fun t=>t.2.id
theorem keptL_snoc (i:Nat) (v:Int) (L:List (Nat × Ins)) (a:Nat) (x:Ins):keptL i v (L ++ [(a,x)])=keptL i v L ++ if a=i∧x.def=v then [x.id] else []:=by
 unfold keptL
 rw [List.filter_append,List.map_append]
 congr 1
 by_cases h1:a=i
 ·by_cases h2:x.def=v
  ·simp [h1,h2]
  ·simp [h1,h2]
 ·simp [h1]
structure DfI (i:Int) (v:Int) (l:List Int) (S:St):Prop where
 n:5≤S.next
 o1:S.obj 1=some (.row 1 [[.int .i64 i]])
 o2:S.obj 2=some (.row 1 [[.int .i64 v]])
 ex:∃ w,S.obj 4=some (.row 1 [[w]])∧w.one=true∧Has intc 1 S w l∧Bel S w∧∀q c sz,w=.sl sz q 0 c→5≤q
theorem DfI.up {i v:Int} {l:List Int} {S S':St} (h:DfI i v l S) (hu:Up S S'):DfI i v l S':=by
 obtain ⟨n,o1,o2,w,h1,h2,h3,h4,h5⟩:=h
 exact ⟨by have:=hu.1;omega,by rw [hu.2 1 (by omega)];exact o1,by rw [hu.2 2 (by omega)];exact o2,w,by rw [hu.2 4 (by omega)];exact h1,h2,h3.keep fun q ⟨len,hq⟩=>hu.2 q (h4 _ _ _ hq),h4.mono hu.1,h5⟩
theorem defs1 {i a v:Int} {b c:AV} {x:Ins} {l:List Int} {S:St} {K:AV→St→Prop} (h:DfI i v l S) (hr:l.length + 1≤room) (hk:∀S',DfI i v (l ++ if a=i∧x.def=v then [x.id] else []) S'→K (.tuple []) S'):Cal P (gl N) 58 [.int .i64 a,b,c,encI x,.ptr 1 0 0,.ptr 2 0 0,.ptr 4 0 0] S K:=by
 obtain ⟨n,o1,o2,w,h1,h2,h3,h4,h5⟩:=id h
 refine c58.in (by simp) ?_
 have m1:¬ 1=S.next:=by omega
 have m2:¬ 2=S.next:=by omega
 have m4:¬ 4=S.next:=by omega
 simp [k58]
 refine Dra.auto [] mix ?_ ?_
 ·kernel_rfl
 simp [classes,o1,o2,m1,m2]
 by_cases ha:a=i
 ·simp [ha,o2,m2]
  refine (instr_Def x).b (n:=9) (by rfl) rfl ?_
  simp [o2,m2]
  by_cases hd:x.def=v
  ·simp [hd,h1,m4,o2,m2]
   have hup:Up S ((S.new (.row 11 [insc x])).new (.row 1 [[.int .i64 x.id]])):=(Up.new _ _).more _
   have h3':Has intc 1 ((S.new (.row 11 [insc x])).new (.row 1 [[.int .i64 x.id]])) w l:=h3.keep fun q ⟨len,hq⟩=>hup.2 q (h4 _ _ _ hq)
   refine appV_own (e:=intc) (x:=x.id) (by simpa using h3') rfl hr fun S1 k1 k2 k3=>?_
   simp at k2 k3
   simp
   have g:∀q,q < 5→q ≠ 4→S1.obj q=S.obj q:=fun q hq h4q=>by
    rw [k3 q (by omega) fun len hw=>by have:=h5 _ _ _ hw;omega,if_neg (by omega),if_neg (by omega)]
   have g4:S1.obj 4=some (.row 1 [[w]]):=by
    rw [k3 4 (by omega) fun len hw=>by have:=h5 _ _ _ hw;omega,if_neg (by omega),if_neg (by omega)];exact h1
   simp [g4]
   refine hk _ ⟨by simp [k2];omega,by simp [g 1 (by omega) (by omega),o1],by simp [g 2 (by omega) (by omega),o2],.sl 1 (S.next + 1 + 1) 0 (l.length + 1),by simp,rfl,?_,Bel.sl (by simp [k2]),fun q c sz h=>by cases h;omega⟩
   rw [if_pos ⟨ha,hd⟩]
   simp at k1
   exact k1.keep fun q ⟨len,hq⟩=>by cases hq;simp [show ¬ S.next + 1 + 1=4 by omega]
  ·simp [hd]
   have:=hk _ ((by rw [if_neg fun hh=>hd hh.2,List.append_nil];exact h.up (Up.new _ _)):DfI i v (l ++ if a=i∧x.def=v then [x.id] else []) (S.new (.row 11 [insc x])))
   simpa using this
 ·simp [ha]
  have:=hk _ ((by rw [if_neg fun hh=>ha hh.1,List.append_nil];exact h.up (Up.new _ _)):DfI i v (l ++ if a=i∧x.def=v then [x.id] else []) (S.new (.row 11 [insc x])))
  simpa using this
theorem prog_Defs (p:Prg) (i v:Int) (hp:p.Fit):OwnL P (gl N) intc 1 21 [encP p,.int .i64 i,.int .i64 v] (p.defs i v):=by
 refine OwnL.in c21 (by simp) ?_
 simp [k21]
 refine (prog_Fun p i hp).use (n:=9) (by simp [mapOpt,pict_stab p.funsS.stab]) (by simp [solids,AV.solid,p.funsS.solid]) ?_
 unfold Prg.defs
 cases hf:p.fn i with
 | none =>
  simp
  exact Has.nil
 | some f =>
  have hok:=fn_ok hf
  obtain ⟨hs,h0,hfi⟩:=fn_sane hf
  obtain ⟨nI,rfl⟩:∃ n:Nat,i=(n:Int):=⟨i.toNat,by omega⟩
  rw [Int.toNat_natCast] at hfi
  simp
  by_cases hv:v < 0
  ·simp [hv]
   exact Has.nil
  ·have hkeep:∀L:List (Nat × Ins),L.Sublist p.steps→(keptL nI v L).length≤192:=fun L hL=>by
    have h1:=((hL.filter fun t=>decide (t.1=nI) && decide (t.2.def=v)).map fun t:Nat × Ins=>t.2.id).length_le
    have h2:=steps_dids hfi v
    have h3:=hok.dids_len v
    rw [← h2,sorted_len] at h3
    exact Nat.le_trans h1 h3
   simp [hv]
   refine prog_each hp (fun L S=>DfI nI v (keptL nI v L) S) (fun L S S' h hu=>h.up hu) ?_ ?_ ?_
   ·exact ⟨by simp,by simp,by simp,.nilsl,by simp,rfl,by simp [keptL];exact Has.nil,Bel.nil,fun q c sz h=>by cases h⟩
   ·intro L a b c g y x S hg hy hx hsub hI K' hK'
    simp
    refine defs1 hI (by have:=hkeep L ((List.sublist_append_left L [(a,x)]).trans hsub);simp [room];omega) fun S' hI'=>?_
    refine hK' _ _ ?_
    rw [keptL_snoc]
    have e:(((a:Int)=(nI:Int)) ↔ a=nI):=by omega
    simpa [e] using hI'
   ·rintro S ⟨n,o1,o2,w,h1,h2,h3,h4,h5⟩
    simp [h1]
    refine slices_Sort h3 (by have:=hkeep p.steps (List.Sublist.refl _);omega) fun S1 k1 k2 k3=>?_
    have g4:S1.obj 4=some (.row 1 [[w]]):=by
     rw [k3 4 fun len hw=>by have:=h5 _ _ _ hw;omega];exact h1
    simp [g4]
    have e:sorted (keptL nI v p.steps)=f.dids v:=steps_dids hfi v
    rw [e] at k1
    exact k1
theorem or_new0 {s:BSet} (hs:s.OK):s.or (BSet.new 0)=s:=by
 have h0:(BSet.new 0).OK:=BSet.new_ok (by omega)
 refine BSet.ext (BSet.or_ok hs h0) hs ?_ fun j _=>?_
 ·rw [BSet.or_n];show max s.n 0=s.n;omega
 ·rw [BSet.or_mem hs h0,BSet.new_mem,Bool.or_false]
theorem ofW_ret {w:Nat} (hw:w≤1024) {l:List Int} {v:AV} (hv:FSl intc 1 v l) (hl:l.length < 2 ^ 40):Ret P g true 20 [.int .i64 (w:Int),v] (encB (BSet.ofL w l)) :=
 (bits_Of w l v hv hw hl).setR (BSet.ofL_n _ _) (by rw [(BSet.ofL_ok hw l).len,BSet.ofL_n])
theorem with_ret {s:BSet} (i:Int) (hs:s.OK):Ret P g true 18 [encB s,.int .i64 i] (encB (s.with i)) :=
 (bits_With s i hs).setR (BSet.with_n _ _) (by rw [(BSet.with_ok hs i).len,BSet.with_n])
theorem instr_Reach (x:Ins) {s:BSet} (hs:s.OK) {ids:List Int} {v:AV} (hv:FSl intc 1 v ids) (hl:ids.length < 2 ^ 40):Ret P (gl N) false 96 [encB s,encI x,v] (encB (x.reach s ids)):=by
 refine Ret.in c96 (by simp) ?_
 have h0:(BSet.new 0).OK:=BSet.new_ok (by omega)
 have hor:=or_new0 hs
 have hofl:(BSet.ofL s.n ids).OK:=BSet.ofL_ok hs.n _
 simp [k96]
 refine Dra.auto [] mix ?_ ?_
 ·kernel_rfl
 simp [classes]
 refine (newW (w:=0) (by omega)).b (n:=9) (by simp [mapOpt]) rfl ?_
 simp
 refine (union_ret hs h0).b (n:=9) (by simp [mapOpt]) rfl ?_
 rw [hor]
 simp
 refine (instr_Def x).use (n:=9) (by rfl) rfl ?_
 simp
 by_cases hd:x.def=-1
 ·simp [hd]
  exact RK.aggEq (by simp [Ins.reach,hd]) rfl
 ·simp [hd]
  refine Dra.auto [] mix ?_ ?_
  ·kernel_rfl
  simp [classes]
  refine (ofW_ret hs.n hv hl).b (n:=9) (by simp [mapOpt,pict_stab hv.stab]) rfl ?_
  simp
  refine (minus_ret hs hofl).b (n:=9) (by simp [mapOpt]) rfl ?_
  simp
  refine (with_ret x.id (BSet.minus_ok hs hofl)).b (n:=9) (by simp [mapOpt]) rfl ?_
  simp
  exact RK.aggEq (by simp [Ins.reach,hd]) rfl
def Fun.idsL (f:Fun) (n:Nat):List (List Int):=(List.range n).map fun v:Nat=>f.dids (v:Int)
theorem defs_ids (p:Prg) (i:Int) (hp:p.Fit) {f:Fun} (hf:p.fn i=some f):Ret P (gl N) false 49 [encP p,.int .i64 i] (.fsl 1 (els prc (f.idsL f.vars.toNat))):=by
 have hok:=fn_ok hf
 have hvo:=hok.vars
 obtain ⟨nv,hnv⟩:∃ n:Nat,f.vars=(n:Int):=⟨f.vars.toNat,by have:=hvo.1;have:=hvo.2.2.1;omega⟩
 have hnv6:nv≤6:=by have:=hvo.2.2.2;omega
 have hroom:nv≤room:=by simp [room];omega
 have hdefs:∀v:Nat,p.defs i (v:Int)=f.dids (v:Int):=fun v=>by simp [Prg.defs,hf]
 refine Ret.in c49 (by simp) ?_
 simp [k49]
 refine (prog_Fun p i hp).use (n:=9) (by simp [mapOpt,pict_stab p.funsS.stab]) (by simp [solids,AV.solid,p.funsS.solid]) ?_
 simp [hf,hnv,hroom]
 have e0:List.replicate nv [AV.nilsl]=els aw (List.replicate nv AV.nilsl):=(els_replicate (e:=aw)).symm ▸ rfl
 refine W.whileI (fun (a:Nat) F S=>a≤nv∧F 1=.int .i64 i∧F 2=.ptr 0 0 0∧F 7=.sl 1 2 0 nv∧F 19=.int .i64 nv∧F 20=.int .i64 a∧S.obj 0=some (.row 1 [[p.funsV]])∧3≤S.next∧∃ o:List AV,o.length=nv∧S.obj 2=some (.row 1 (els aw o))∧(∀w ∈ o,w.one=true)∧o.take a=(f.idsL a).map (encF intc 1)) (fun a=>nv - a) ?_ 0 _ _ ?_
 ·rintro a F S ⟨ha,f1,f2,f7,f19,f20,s0,sn,o,hol,s2,ho1,hot⟩
  by_cases hlt:a < nv
  ·have e4:=wrapS a (by omega)
   obtain ⟨u,hu⟩:∃ u,o[a]?=some u:=⟨_,List.getElem?_eq_getElem (by omega)⟩
   have hone:=fsl_one (encF_sl (e:=intc) (sz:=1) (l:=f.dids (a:Int)))
   have hcl:(encF intc 1 (f.dids (a:Int))).cells=[encF intc 1 (f.dids (a:Int))]:=FSl.cells encF_sl
   have hset:(els aw o).set a [encF intc 1 (f.dids (a:Int))]=els aw (o.set a (encF intc 1 (f.dids (a:Int)))):=els_set (e:=aw)
   simp [f19,f20,hlt]
   simp [f1,f2,f7,f20,s0]
   refine (prog_Defs p i a hp).ret.use (n:=9) (by simp [mapOpt,pict_stab p.funsS.stab]) rfl ?_
   rw [hdefs]
   simp [ix_sl hlt,s2,hu,aw,hone,hcl,f1,f2,f7,f19,f20,e4]
   refine ⟨a + 1,by omega,by omega,by omega,by simp [s0],sn,o.set a (encF intc 1 (f.dids (a:Int))),by simp [hol],by rw [← hset],fun w hw=>?_,?_⟩
   ·rcases List.mem_or_eq_of_mem_set hw with h | rfl
    ·exact ho1 w h
    ·exact hone
   ·rw [set_take_succ (by omega),hot,Fun.idsL,Fun.idsL,List.range_succ,List.map_append,List.map_append]
    rfl
  ·have:a=nv:=by omega
   subst this
   rw [List.take_of_length_le (by omega)] at hot
   simp [f19,f20,f7]
   refine ⟨9,?_⟩
   have hlen:(f.idsL a).length=a:=by simp [Fun.idsL]
   have hel:els aw o=els prc (f.idsL a):=by
    rw [hot]
    simp [els,aw,prc]
   rw [hel] at s2
   refine pict_row s2 (by simp [hlen]) (by simp [hlen]) fun k e he=>?_
   simp only [els,List.getElem?_map] at he ⊢
   cases hz:(f.idsL a)[k]? with
   | none=>rw [hz] at he;cases he
   | some m =>
    rw [hz] at he;cases he
    have hmf:FSl intc 1 (encF intc 1 m) m:=encF_sl
    simp [mapOpt,prc,pict_stab hmf.stab]
 ·simp
  refine ⟨List.replicate nv .nilsl,by simp,e0,fun w hw=>by rw [List.mem_replicate] at hw;rw [hw.2];rfl,by simp [Fun.idsL]⟩
theorem defs_past {f:Fun} {s:BSet} (hs:s.OK∧s.n=96) {l:List Ins} {v:AV} (hv:FSl insc 11 v l) (hl:l.length < 2 ^ 40) {allv:AV} {A:List (List Int)} (hA:FSl prc 1 allv A)
  (hall:∀x ∈ l,0≤x.def→A[x.def.toNat]?=some (f.dids x.def)∧(f.dids x.def).length < 2 ^ 40):Ret P (gl N) false 48 [encB s,v,allv] (encB (f.pastD s l)):=by
 refine Ret.in c48 (by simp) ?_
 simp [k48,hv.len]
 refine W.whileI (fun (k:Nat) F S=>k≤l.length∧F 1=v∧F 2=allv∧F 3=.ptr 0 0 0∧F 6=.ptr 1 0 0∧F 10=.int .i64 l.length∧F 11=.int .i64 k∧S.obj 0=some (.row 2 [setc (f.pastD s (l.take k))])∧S.obj 1=some (.row 2 [[.int .i64 0,.nilsl]])) (fun k=>l.length - k) ?_ 0 _ _ ?_
 ·rintro k F S ⟨hk,f1,f2,f3,f6,f10,f11,s0,s1⟩
  have hso:=pastD_ok (f:=f) (l.take k) hs
  by_cases hlt:k < l.length
  ·have e4:=wrapS k (by omega)
   obtain ⟨x,hx⟩:∃ x,l[k]?=some x:=⟨_,List.getElem?_eq_getElem hlt⟩
   have hst:=pastD_succ f s hx
   simp [f10,f11,hlt]
   simp [f1,f11,hv.idx hx]
   refine (instr_Def x).use (n:=9) (by rfl) rfl ?_
   simp
   by_cases hd:0≤x.def
   ·obtain ⟨hA1,hA2⟩:=hall x (List.mem_of_getElem? hx) hd
    obtain ⟨dn,hdn⟩:∃ n:Nat,x.def=(n:Int):=⟨x.def.toNat,by omega⟩
    have hix:pk (.indexAddr 1) [allv,.int .i64 x.def]=some (.fptr (prc (f.dids x.def)) 0):=by
     rw [hdn,Int.toNat_natCast] at hA1
     rw [hdn]
     exact hA.idx hA1
    have hmf:FSl intc 1 (encF intc 1 (f.dids x.def)) (f.dids x.def):=encF_sl
    rw [if_pos hd] at hst
    simp [hd]
    refine Dra.auto [] mix ?_ ?_
    ·kernel_rfl
    simp [classes,f1,f2,f3,s0,hv.idx hx,hix,prc,fsl_one hmf]
    refine (instr_Reach x hso.1 hmf hA2).b (n:=9) (by simp [mapOpt,pict_stab hmf.stab]) (by simp [solids,AV.solid,hmf.solid]) ?_
    simp [f1,f2,f3,f6,f10,f11,e4,s0]
    exact ⟨k + 1,by omega,by omega,by omega,by rw [hst];exact ⟨rfl,rfl⟩,s1⟩
   ·rw [if_neg hd] at hst
    simp [hd,f1,f2,f3,f6,f10,f11,e4]
    exact ⟨k + 1,by omega,by omega,by omega,by rw [hst];exact s0,s1⟩
  ·have:k=l.length:=by omega
   subst this
   rw [List.take_length] at s0
   simp [f10,f11,f3,f6,s0,s1]
   exact RK.aggEq rfl rfl
 ·simp
  simp [Fun.pastD]
end Go.Proofs.YtbhkamemheaajaaGreatDoor.Vm
