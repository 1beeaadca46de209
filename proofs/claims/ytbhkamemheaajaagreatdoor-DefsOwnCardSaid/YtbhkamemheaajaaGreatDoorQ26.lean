/- A part of the proof: Rg Rh Ri Rj Rl Rm Rr Rs Ta Tb Aa. -/
import Derived.Test.YtbhkamemheaajaaGreatDoorQ25
set_option linter.unusedVariables false
set_option linter.unusedSimpArgs false
set_option linter.constructorNameAsVariable false
namespace Go.Proofs.YtbhkamemheaajaaGreatDoor.Vm
open Go Go.RowKit
variable {N:Nat} {g:Glob}
def Fun.outs (f:Fun) (k:Nat):List Int:=(f.blks[k]?.map Blk.out).getD []
def Fun.code (f:Fun) (k:Nat):List Ins:=(f.blks[k]?.map Blk.ins).getD []
def Fun.predsTo (f:Fun) (b:Int) (k:Nat):List Int:=((List.range k).filter fun j=>decide (b ∈ f.outs j)).map fun j:Nat=>(j:Int)
def Fun.preds (f:Fun) (b:Int):List Int:=f.predsTo b f.blks.length
theorem Fun.predsTo_succ {f:Fun} {b:Int} {k:Nat} {x:Blk} (hx:f.blks[k]?=some x):f.predsTo b (k + 1)=f.predsTo b k ++ if b ∈ x.out then [(k:Int)] else []:=by
 have e:f.outs k=x.out:=by simp [Fun.outs,hx]
 unfold Fun.predsTo
 rw [List.range_succ,List.filter_append,List.map_append]
 congr 1
 by_cases h:b ∈ x.out <;> simp [e,h]
theorem Fun.predsTo_len (f:Fun) (b:Int) (k:Nat):(f.predsTo b k).length≤k:=by
 unfold Fun.predsTo
 have:=List.length_filter_le (fun j=>decide (b ∈ f.outs j)) (List.range k)
 simpa using this
theorem Fun.preds_mem {f:Fun} {b j:Int}:j ∈ f.preds b ↔ ∃ k x,j=((k:Nat):Int)∧f.blks[k]?=some x∧b ∈ x.out:=by
 unfold Fun.preds Fun.predsTo
 simp only [List.mem_map,List.mem_filter,List.mem_range,decide_eq_true_eq]
 constructor
 ·rintro ⟨k,⟨hk,hb⟩,rfl⟩
  refine ⟨k,f.blks[k],rfl,List.getElem?_eq_getElem hk,?_⟩
  simpa [Fun.outs,List.getElem?_eq_getElem hk] using hb
 ·rintro ⟨k,x,rfl,hx,hb⟩
  exact ⟨k,⟨(List.getElem?_eq_some_iff.1 hx).1,by simpa [Fun.outs,hx] using hb⟩,rfl⟩
noncomputable def Prg.preds (p:Prg) (i b:Int):List Int:=((p.fn i).getD Fun.none).preds b
theorem prog_Preds (p:Prg) (i b:Int) (hp:p.Fit):OwnL P (gl N) intc 1 13 [encP p,.int .i64 i,.int .i64 b] (p.preds i b):=by
 refine OwnL.in c13 (by simp) ?_
 simp [k13]
 refine (prog_Fun p i hp).use (n:=9) (by simp [mapOpt,pict_stab p.funsS.stab]) (by simp [solids,AV.solid,p.funsS.solid]) ?_
 have hsm:((p.fn i).getD Fun.none).Small:=by
  cases h:p.fn i with
  | none=>exact ⟨by simp,fun b hb=>by simp at hb,fun b hb=>by simp at hb⟩
  | some f=>exact fn_fit hp h
 have h12:((p.fn i).getD Fun.none).blks.length≤12:=by
  cases h:p.fn i with
  | none=>simp
  | some f=>exact (fn_ok h).len.2
 have hpr:p.preds i b=((p.fn i).getD Fun.none).preds b:=rfl
 rw [hpr]
 generalize (p.fn i).getD Fun.none=f at *
 simp
 refine W.whileI (fun (k:Nat) F S=>k≤f.blks.length∧F 2=.int .i64 b∧F 19=f.blksV∧F 20=.int .i64 f.blks.length∧F 21=.int .i64 k∧Has intc 1 S (F 9) (f.predsTo b k)∧Bel S (F 9)) (fun k=>f.blks.length - k) ?_ 0 _ _ ?_
 ·rintro k F S ⟨hk,h2,h19,h20,h21,h9,hb9⟩
  by_cases hlt:k < f.blks.length
  ·obtain ⟨y,hy⟩:∃ y,f.blks[k]?=some y:=⟨_,List.getElem?_eq_getElem hlt⟩
   have hbl:=hsm.blks
   have e4:=wrapS k (by omega)
   have hst:=Fun.predsTo_succ (b:=b) hy
   have hpl:=f.predsTo_len b k
   have hol:y.out.length < 2 ^ 40:=by have:=hsm.out y (List.mem_of_getElem? hy);omega
   simp [h20,h21,hlt]
   simp [h19,h21,f.blksS.idx hy,h2]
   refine (slices_Contains (g:=gl N) y.out b y.outV y.outS hol).use (n:=9) (by simp [mapOpt]) rfl ?_
   generalize hS1:(S.new (.row 3 [[.bool false,.nilsl,.nilsl]])).set S.next (.row 3 [[.bool y.on,y.insV,y.outV]])=S1
   have hn1:S1.next=S.next + 1:=by rw [← hS1];simp
   have h91:Has intc 1 S1 (F 9) (f.predsTo b k):=h9.keep fun q ⟨len,hq⟩=>by
    have:=hb9 _ _ _ hq
    rw [← hS1];simp [show ¬ q=S.next by omega]
   have hb1:Bel S1 (F 9):=hb9.mono (by omega)
   clear hS1
   by_cases hm:b ∈ y.out
   ·simp [hm] at hst ⊢
    refine appV_own (e:=intc) (x:=(k:Int)) (h91.new hb1) rfl (by simp [room];omega) ?_
    intro S' hS hnx hoth
    simp [h2,h19,h20,h21,e4]
    exact ⟨k + 1,by omega,by omega,by omega,by rw [hst];simpa using hS,Bel.sl (by rw [hnx];exact Nat.lt_succ_self _)⟩
   ·simp [hm] at hst ⊢
    simp [h2,h19,h20,h21,e4]
    exact ⟨k + 1,by omega,by omega,by omega,by rw [hst];exact h91,hb1⟩
  ·have:k=f.blks.length:=by omega
   subst this
   simp [h20,h21]
   exact h9
 ·simp
  exact ⟨.nil,Bel.nil⟩
def Fun.start (f:Fun):Env:=some (startL f.par f.vars)
def Fun.cevTo (f:Fun) (x:List Env) (i:Nat) (m:List Int):Env:=m.foldl (fun e j=>e.join (pastL (x.getD j.toNat Option.none) (f.code j.toNat))) (if i=0 then f.start else Option.none)
def Fun.cev (f:Fun) (x:List Env) (i:Nat):Env:=f.cevTo x i (f.preds i)
theorem fold_fit {n:Nat} {h:Int→Env} (hh:∀j,(h j).fit n) (m:List Int):∀{e:Env},e.fit n→(m.foldl (fun e j=>e.join (h j)) e).fit n:=by
 induction m with
 | nil=>intro e he;exact he
 | cons j m ih=>intro e he;exact ih (Env.join_fit he (hh j))
theorem fold_mono {n:Nat} {h h':Int→Env} (hh:∀j,(h j).fit n) (hh':∀j,(h' j).fit n) (hle:∀j,(h j).le (h' j)) (m:List Int):∀{e e':Env},e.fit n→e'.fit n→e.le e'→(m.foldl (fun e j=>e.join (h j)) e).le (m.foldl (fun e j=>e.join (h' j)) e'):=by
 induction m with
 | nil=>intro e e' _ _ hee;exact hee
 | cons j m ih=>intro e e' he he' hee;exact ih (Env.join_fit he (hh j)) (Env.join_fit he' (hh' j)) (Env.join_mono he (hh j) he' (hh' j) hee (hle j))
theorem fold_same {h h':Int→Env}:∀(m:List Int) (e:Env),(∀j ∈ m,h j=h' j)→m.foldl (fun e j=>e.join (h j)) e=m.foldl (fun e j=>e.join (h' j)) e
 | [],e,_=>rfl
 | j :: m,e,hm=>by
  rw [List.foldl_cons,List.foldl_cons,hm j (by simp)]
  exact fold_same m _ fun k hk=>hm k (by simp [hk])
def Fun.wid (f:Fun):Nat:=capN f.vars
theorem Fun.start_fit (f:Fun):f.start.fit f.wid:=Env.fit_some (startL_len _ _) (startL_ok _ _)
theorem at_fit {n:Nat} {x:List Env} (h:∀e ∈ x,Env.fit n e) (k:Nat):(x.getD k Option.none).fit n:=by
 rw [List.getD_eq_getElem?_getD]
 cases hx:x[k]? with
 | none=>exact Env.fit_none n
 | some e=>exact h e (List.mem_of_getElem? hx)
theorem Fun.cev_first (f:Fun) (i:Nat):(if i=0 then f.start else Option.none:Env).fit f.wid:=by
 split
 ·exact f.start_fit
 ·exact Env.fit_none _
theorem Fun.cevTo_fit (f:Fun) {x:List Env} (h:∀e ∈ x,Env.fit f.wid e) (i:Nat) (m:List Int):(f.cevTo x i m).fit f.wid :=
 fold_fit (fun j=>pastL_fit (at_fit h _)) _ (f.cev_first i)
theorem Fun.cev_fit (f:Fun) {x:List Env} (h:∀e ∈ x,Env.fit f.wid e) (i:Nat):(f.cev x i).fit f.wid:=f.cevTo_fit h i _
theorem getD_le {n:Nat} {x y:List Env} (hl:x.length=y.length) (h:∀(k:Nat) a b,x[k]?=some a→y[k]?=some b→Env.le a b) (k:Nat):(x.getD k Option.none).le (y.getD k Option.none):=by
 rw [List.getD_eq_getElem?_getD,List.getD_eq_getElem?_getD]
 by_cases hk:k < x.length
 ·obtain ⟨a,ha⟩:∃ v,x[k]?=some v:=⟨_,List.getElem?_eq_getElem hk⟩
  obtain ⟨b,hb⟩:∃ v,y[k]?=some v:=⟨_,List.getElem?_eq_getElem (by omega)⟩
  rw [ha,hb];exact h k a b ha hb
 ·rw [List.getElem?_eq_none (by omega)];exact Env.le_none _
def Fun.csys (f:Fun):Sys Env where
 n:=f.blks.length
 ev:=f.cev
 rd i:=f.preds i
 ok:=Env.fit f.wid
 le:=Env.le
 bot:=Option.none
 ht:=Env.ht
 top:=1 + 2 * f.wid
 refl a _:=Env.le_refl a
 trans a b c ha hb hc h1 h2:=Env.le_trans hb hc h1 h2 ha
 anti a b ha hb h1 h2:=Env.le_anti ha hb h1 h2
 botOk:=Env.fit_none _
 botLe a _:=Env.le_none a
 htop a ha:=by
  cases a with
  | none=>simp [Env.ht]
  | some l =>
   have h1:=htL (ha l rfl).2 (ha l rfl).2 rfl (fun k a b h1 h2=>by rw [h1] at h2;cases h2;exact Val.le_refl a)
   have h2:=(ha l rfl).1
   simp only [Env.ht]
   omega
 hlt a b ha hb hle hne:=by
  cases a with
  | none =>
   cases b with
   | none=>exact absurd rfl hne
   | some m=>simp only [Env.ht];omega
  | some l =>
   obtain ⟨m,hm,h3⟩:=hle l rfl
   subst hm
   have h1:=htL (ha l rfl).2 (hb m rfl).2 (by rw [(ha l rfl).1,(hb m rfl).1]) h3
   have h2:=h1.2.1 fun e=>hne (by rw [e])
   simp only [Env.ht]
   omega
 evOk x i _ hx _:=f.cev_fit hx i
 mono x y i hx hy hxo hyo hle _:=fold_mono (fun j=>pastL_fit (at_fit hxo _)) (fun j=>pastL_fit (at_fit hyo _)) (fun j=>pastL_mono (at_fit hxo _) (at_fit hyo _) (getD_le (n:=f.wid) (by rw [hx,hy]) hle _)) _ (f.cev_first i) (f.cev_first i) (Env.le_refl _)
 dep x i k a hno:=fold_same _ _ fun j hj=>by
  rw [List.getD_eq_getElem?_getD,List.getD_eq_getElem?_getD,List.getElem?_set_ne (Ne.symm (hno j hj))]
 nn i j hj:=by
  obtain ⟨k,_,rfl,_⟩:=Fun.preds_mem.1 hj
  exact Int.natCast_nonneg k
noncomputable def Fun.cin (f:Fun):List Env:=f.csys.sol
end Go.Proofs.YtbhkamemheaajaaGreatDoor.Vm
namespace Go.Proofs.YtbhkamemheaajaaGreatDoor.Vm
open Go Go.RowKit
variable {N:Nat} {g:Glob}
def prc (m:List Int):List AV:=[encF intc 1 m]
def Fun.pgr (f:Fun):List (List Int):=(List.range f.blks.length).map fun i:Nat=>f.preds i
end Go.Proofs.YtbhkamemheaajaaGreatDoor.Vm
namespace Go.Proofs.YtbhkamemheaajaaGreatDoor.Vm
open Go Go.RowKit
variable {N:Nat} {g:Glob}
noncomputable def Prg.cin (p:Prg) (i:Int):List Env:=match p.fn i with
 | none=>[]
 | some f=>f.cin
noncomputable def Fun.cat (f:Fun) (j:Nat) (k:Nat):Env:=pastL (f.cin.getD j Option.none) ((f.code j).take k)
noncomputable def Prg.cat (p:Prg) (i j k:Int):Env:=match p.fn i with
 | none=>Option.none
 | some f=>match f.blk j with
  | none=>Option.none
  | some b=>if 0≤k∧k≤b.ins.length then f.cat j.toNat k.toNat else Option.none
theorem FSl.upto {α:Type} {e:α→List AV} {sz:Nat} {v:AV} {l:List α} (h:FSl e sz v l) {k:Nat} (hk:k≤l.length):∃ v',pk (.slice sz false true false) [v,.int .i64 (k:Int)]=some v'∧FSl e sz v' (l.take k):=by
 rcases h with rfl | ⟨rfl,rfl⟩
 ·refine ⟨.fsl sz (els e (l.take k)),?_,.inl rfl⟩
  simp [pk,bnds,hk,els]
 ·refine ⟨.nilsl,?_,.inr ⟨rfl,by simp⟩⟩
  have:k=0:=by simpa using hk
  subst this
  simp [pk,bnds]
end Go.Proofs.YtbhkamemheaajaaGreatDoor.Vm
namespace Go.Proofs.YtbhkamemheaajaaGreatDoor.Vm
open Go Go.RowKit
variable {N:Nat} {g:Glob}
theorem ref01_Ints (xs ys:List Int) (v w:AV) (hv:FSl intc 1 v xs) (hw:FSl intc 1 w ys) (hl:xs.length < 2 ^ 40):Ret P g false 39 [v,w] (.bool (decide (xs=ys))):=by
 refine Ret.in c39 (by simp) ?_
 simp [k39,hv.len,hw.len]
 by_cases hlen:xs.length=ys.length
 ·simp [hlen,hv.len]
  refine W.whileI (fun (k:Nat) F S=>k≤ys.length∧xs.take k=ys.take k∧F 0=v∧F 1=w∧F 5=.int .i64 k) (fun k=>ys.length - k) ?_ 0 _ _ ?_
  ·rintro k F S ⟨hk,hp,h0,h1,h5⟩
   by_cases hlt:k < ys.length
   ·simp [h0,h5,hv.len,hlen,hlt]
    refine Dra.auto [] mix ?_ ?_
    ·kernel_rfl
    obtain ⟨y,hy⟩:∃ y,ys[k]?=some y:=⟨_,List.getElem?_eq_getElem (by omega)⟩
    obtain ⟨x,hx⟩:∃ x,xs[k]?=some x:=⟨_,List.getElem?_eq_getElem (by omega)⟩
    have e4:=wrapS k (by omega)
    simp [classes,h0,h1,h5,hv.idx hx,hw.idx hy,intc]
    refine bra_ndec (fun hxy=>?_) (fun hxy=>?_)
    ·simp [hxy]
     refine RK.eq ?_ rfl
     have:xs ≠ ys:=by rintro rfl;rw [hx] at hy;simp at hy;exact hxy hy
     simp [this]
    ·simp [hxy,e4,h5,h0,h1]
     refine ⟨k + 1,by omega,by omega,?_,by omega⟩
     rw [List.take_add_one,List.take_add_one,hp,hx,hy]
     have:x=y:=hxy
     subst this;rfl
   ·have:k=ys.length:=by omega
    subst this
    simp [h0,h5,hv.len,hlen]
    refine RK.eq ?_ rfl
    rw [List.take_length,← hlen,List.take_length] at hp
    simp [hp]
  ·simp
 ·have hne:xs ≠ ys:=fun h=>hlen (by rw [h])
  have hlen':¬ ((xs.length:Int)=ys.length):=by omega
  simp [hlen,hlen']
  exact RK.eq (by simp [hne]) rfl
def Env.vals (e:Env):List Val:=e.getD []
def Env.vV:Env→AV
 | none=>.nilsl
 | some l=>.fsl 2 (els valc l)
theorem Env.vS (e:Env):FSl valc 2 e.vV e.vals:=by
 cases e with
 | none=>exact .nil
 | some l=>exact .mk
@[simp] theorem Env.vV_none:Env.vV Option.none=.nilsl:=_root_.id rfl
@[simp] theorem Env.vV_some {l:List Val}:Env.vV (some l)=.fsl 2 (els valc l):=_root_.id rfl
@[simp] theorem Env.vV_one (e:Env):e.vV.one=true:=fsl_one e.vS
end Go.Proofs.YtbhkamemheaajaaGreatDoor.Vm
namespace Go.Proofs.YtbhkamemheaajaaGreatDoor.Vm
open Go Go.RowKit
variable {N:Nat} {g:Glob}
@[simp] theorem guaD_none {d op b yes no}:GuaD d op b .none yes no=no:=_root_.id rfl
@[simp] theorem gua_none {d op b F S K}:Gua P g .none b d op F S K=K .none S:=_root_.id rfl
theorem code_at {f:Fun} {j:Nat} {b:Blk} (hb:f.blks[j]?=some b):f.code j=b.ins:=by simp [Fun.code,hb]
theorem FunOK.wid {p:Prg} {f:Fun} (h:FunOK p f):(f.wid:Int)=f.vars:=by
 have:=h.vars
 unfold Fun.varsOK at this
 unfold Fun.wid capN
 omega
end Go.Proofs.YtbhkamemheaajaaGreatDoor.Vm
namespace Go.Proofs.YtbhkamemheaajaaGreatDoor.Vm
open Go Go.RowKit
variable {N:Nat} {g:Glob}
theorem ref10_Has (l:List Int) (n:Int) (v:AV) (hv:FSl intc 1 v l) (hl:l.length < 2 ^ 40):Ret P g false 28 [v,.int .i64 n] (.bool (decide (n ∈ l))):=by
 refine Ret.in c28 (by simp) ?_
 simp [k28]
 refine W.whileI (fun (k:Nat) F S=>k≤l.length∧n ∉ l.take k∧F 0=v∧F 1=.int .i64 n∧F 5=.int .i64 k) (fun k=>l.length - k) ?_ 0 _ _ ?_
 ·rintro k F S ⟨hk,hno,f0,f1,f5⟩
  simp [f0,f5,hv.len]
  by_cases hlt:k < l.length
  ·obtain ⟨x,hx⟩:∃ x,l[k]?=some x:=⟨_,List.getElem?_eq_getElem hlt⟩
   have e4:=wrapS k (by omega)
   simp [hlt,f0,f1,f5,hv.idx hx,intc]
   refine bra_dec (fun h=>?_) (fun h=>?_)
   ·simp
    exact RK.eq (by rw [← h];simp [List.mem_of_getElem? hx]) rfl
   ·simp [f0,f1,f5,e4]
    refine ⟨k + 1,by omega,by omega,?_,by omega⟩
    rw [take_succ_get hx,List.mem_append,List.mem_singleton]
    rintro (h' | h')
    ·exact hno h'
    ·exact h h'.symm
  ·have:k=l.length:=by omega
   subst this
   rw [List.take_length] at hno
   simp
   exact RK.eq (by simp [hno]) rfl
 ·simp
def Fun.isOne (f:Fun) (b k:Nat) (x:Ins):Prop:=0≤x.def∧((f.cat b (k + 1)).get x.def).k=1
noncomputable instance (f:Fun) (b k:Nat) (x:Ins):Decidable (f.isOne b k x):=Classical.propDecidable _
structure LsI (p:Prg) (f:Fun) (S:St):Prop where
 s0:S.obj 0=some (.row 1 [[p.funsV]])
 s1:S.obj 1=some (.row 3 [func f])
 n:1 < S.next
theorem LsI.up {p:Prg} {f:Fun} {S S':St} (h:LsI p f S) (hu:∀q,q < 2→S'.obj q=S.obj q) (hn:S.next≤S'.next):LsI p f S':=⟨by rw [hu 0 (by omega)];exact h.s0,by rw [hu 1 (by omega)];exact h.s1,by have:=h.n;omega⟩
end Go.Proofs.YtbhkamemheaajaaGreatDoor.Vm
namespace Go.Proofs.YtbhkamemheaajaaGreatDoor.Vm
open Go Go.RowKit
variable {N:Nat} {g:Glob}
inductive Rch (G:List (List Int)) (a0:Nat):Nat→Prop
 | base:Rch G a0 a0
 | step {a b:Nat} {l:List Int} (h:Rch G a0 a) (hl:G[a]?=some l) (hb:(b:Int) ∈ l):Rch G a0 b
structure Wlk (G:List (List Int)) (a0:Nat) (T:List Nat) (met:List Bool) (way:List (Nat × Nat)):Prop where
 m:∀x:Nat,met[x]?=some true ↔ x ∈ T ∨ ∃ nx,(x,nx) ∈ way
 r:∀x:Nat,met[x]?=some true→Rch G a0 x
 c:∀x ∈ T,∀l,G[x]?=some l→∀b:Nat,(b:Int) ∈ l→met[b]?=some true
 w:∀a nx,(a,nx) ∈ way→∀l,G[a]?=some l→∀k,k < nx→∀b:Nat,l[k]?=some (b:Int)→met[b]?=some true
 z:met[a0]?=some true
theorem set_true {met:List Bool} {b x:Nat} (hb:met[b]?=some false):(met.set b true)[x]?=some true ↔ met[x]?=some true ∨ x=b:=by
 have hl:=(List.getElem?_eq_some_iff.1 hb).1
 by_cases h:x=b
 ·subst h;simp [hl]
 ·rw [List.getElem?_set_ne (Ne.symm h)];simp [h]
theorem Wlk.start {G:List (List Int)} {a0:Nat} (h:a0 < G.length):Wlk G a0 [] ((List.replicate G.length false).set a0 true) [(a0,0)]:=by
 have hf:(List.replicate G.length false)[a0]?=some false:=by simp [h]
 have hn:∀x:Nat,¬ (List.replicate G.length false)[x]?=some true:=fun x hx=>by
  have:=List.mem_of_getElem? hx
  rw [List.mem_replicate] at this
  cases this.2
 refine ⟨fun x=>?_,fun x hx=>?_,fun x hx=>by (cases hx),fun a nx ha l hl k hk=>?_,?_⟩
 ·rw [set_true hf];simp [hn x]
 ·rw [set_true hf] at hx
  rcases hx with hx | rfl
  ·exact absurd hx (hn x)
  ·exact .base
 ·simp at ha;omega
 ·rw [set_true hf];exact .inr rfl
theorem Wlk.push {G:List (List Int)} {a0 a nx b:Nat} {T:List Nat} {met:List Bool} {pre:List (Nat × Nat)} {l:List Int} (h:Wlk G a0 T met (pre ++ [(a,nx)])) (hl:G[a]?=some l) (hx:l[nx]?=some (b:Int)) (hb:met[b]?=some false):Wlk G a0 T (met.set b true) (pre ++ [(a,nx)] ++ [(b,0)]):=by
 have ha:met[a]?=some true:=(h.m a).2 (.inr ⟨nx,by simp⟩)
 refine ⟨fun x=>?_,fun x hx'=>?_,fun x hx' l' hl' c hc=>?_,fun a' nx' ha' l' hl' k hk c hc=>?_,?_⟩
 ·rw [set_true hb,h.m x]
  constructor
  ·rintro ((h1 | ⟨n,h1⟩) | rfl)
   ·exact .inl h1
   ·exact .inr ⟨n,List.mem_append_left _ h1⟩
   ·exact .inr ⟨0,by simp⟩
  ·rintro (h1 | ⟨n,h1⟩)
   ·exact .inl (.inl h1)
   ·rcases List.mem_append.1 h1 with h1 | h1
    ·exact .inl (.inr ⟨n,h1⟩)
    ·simp at h1;exact .inr h1.1
 ·rw [set_true hb] at hx'
  rcases hx' with hx' | rfl
  ·exact h.r x hx'
  ·exact .step (h.r a ha) hl (List.mem_of_getElem? hx)
 ·rw [set_true hb];exact .inl (h.c x hx' l' hl' c hc)
 ·rcases List.mem_append.1 ha' with h1 | h1
  ·rw [set_true hb];exact .inl (h.w a' nx' h1 l' hl' k hk c hc)
  ·simp at h1;omega
 ·rw [set_true hb];exact .inl h.z
theorem Wlk.next {G:List (List Int)} {a0 a nx b:Nat} {T:List Nat} {met:List Bool} {pre:List (Nat × Nat)} {l:List Int} (h:Wlk G a0 T met (pre ++ [(a,nx)])) (hl:G[a]?=some l) (hx:l[nx]?=some (b:Int)) (hb:met[b]?=some true):Wlk G a0 T met (pre ++ [(a,nx + 1)]):=by
 refine ⟨fun x=>?_,h.r,h.c,fun a' nx' ha' l' hl' k hk c hc=>?_,h.z⟩
 ·rw [h.m x]
  constructor
  ·rintro (h1 | ⟨n,h1⟩)
   ·exact .inl h1
   ·rcases List.mem_append.1 h1 with h1 | h1
    ·exact .inr ⟨n,List.mem_append_left _ h1⟩
    ·simp at h1;exact .inr ⟨nx + 1,by simp [h1.1]⟩
  ·rintro (h1 | ⟨n,h1⟩)
   ·exact .inl h1
   ·rcases List.mem_append.1 h1 with h1 | h1
    ·exact .inr ⟨n,List.mem_append_left _ h1⟩
    ·simp at h1;exact .inr ⟨nx,by simp [h1.1]⟩
 ·rcases List.mem_append.1 ha' with h1 | h1
  ·exact h.w a' nx' (List.mem_append_left _ h1) l' hl' k hk c hc
  ·simp at h1
   obtain ⟨rfl,rfl⟩:=h1
   rw [hl] at hl';cases hl'
   by_cases hkn:k=nx
   ·subst hkn
    rw [hx] at hc
    have:b=c:=by simp at hc;omega
    rw [← this];exact hb
   ·exact h.w a' nx (by simp) l hl k (by omega) c hc
theorem Wlk.done {G:List (List Int)} {a0:Nat} {T:List Nat} {met:List Bool} (h:Wlk G a0 T met []) (x:Nat):x ∈ T ↔ Rch G a0 x:=by
 have hm:∀y:Nat,met[y]?=some true ↔ y ∈ T:=fun y=>by rw [h.m y];simp
 constructor
 ·intro hx;exact h.r x ((hm x).2 hx)
 ·intro hr
  induction hr with
  | base=>exact (hm a0).1 h.z
  | step _ hl hb ih=>exact (hm _).1 (h.c _ ih _ hl _ hb)
noncomputable def marks (n:Nat) (T:Nat→Prop):List Bool:=open Classical in (List.range n).map fun x=>decide (T x)
end Go.Proofs.YtbhkamemheaajaaGreatDoor.Vm
namespace Go.Proofs.YtbhkamemheaajaaGreatDoor.Vm
open Go Go.RowKit
variable {N:Nat} {g:Glob}
def Blk.gout (b:Blk):List Int:=if b.on=true then b.out else []
def Blk.gvB (b:Blk):AV:=if b.on=true then b.outV else .nilsl
theorem Blk.gS (b:Blk):FSl intc 1 b.gvB b.gout:=by
 unfold Blk.gvB Blk.gout
 split
 ·exact b.outS
 ·exact .inr ⟨rfl,rfl⟩
def Fun.gv (f:Fun) (j:Nat):AV:=match f.blks[j]? with | some b=>b.gvB | none=>.nilsl
def Fun.gout (f:Fun):List (List Int):=f.blks.map Blk.gout
def Fun.goutV (f:Fun):AV:=.fsl 1 (els (fun b:Blk=>[b.gvB]) f.blks)
theorem Fun.gout_gr (f:Fun):GrV f.goutV f.gout:=by
 refine .inr ⟨f.blks.map Blk.gvB,by simp [Fun.goutV,els],by simp [Fun.gout],fun k w l hw hl=>?_⟩
 unfold Fun.gout at hl
 rw [List.getElem?_map] at hw hl
 cases hb:f.blks[k]? with
 | none=>rw [hb] at hw;cases hw
 | some b=>rw [hb] at hw hl;cases hw;cases hl;exact b.gS
end Go.Proofs.YtbhkamemheaajaaGreatDoor.Vm
namespace Go.Proofs.YtbhkamemheaajaaGreatDoor.Vm
open Go Go.RowKit
variable {N:Nat} {g:Glob}
def aw (w:AV):List AV:=[w]
theorem Has.one1 {α:Type} {e:α→List AV} {sz:Nat} {S:St} {v:AV} {l:List α} (h:Has e sz S v l):v.one=true:=by
 rcases h with ⟨rfl,_⟩ | ⟨o,rfl,_⟩ <;> rfl
theorem Has.newsI {S:St} {w:AV} {l:List Int} (h:Has intc 1 S w l):Has intc 1 S.news w l:=by
 rcases h with h | ⟨o,rfl,ho,hne⟩
 ·exact .inl h
 ·exact .inr ⟨o,rfl,ints_news ho,hne⟩
def rcl (l:List Int) (k:Nat):List Int:=((List.range k).filter fun j:Nat=>decide ((j:Int) ∈ l)).map fun j:Nat=>(j:Int)
theorem rcl_succ (l:List Int) (k:Nat):rcl l (k + 1)=rcl l k ++ if (k:Int) ∈ l then [(k:Int)] else []:=by
 unfold rcl
 rw [List.range_succ,List.filter_append,List.map_append]
 congr 1
 by_cases h:(k:Int) ∈ l <;> simp [h]
theorem rcl_len (l:List Int) (k:Nat):(rcl l k).length≤k:=by
 unfold rcl
 have:=List.length_filter_le (fun j:Nat=>decide ((j:Int) ∈ l)) (List.range k)
 simpa using this
theorem rcl_mem {l:List Int} {k:Nat} {x:Int}:x ∈ rcl l k ↔ x ∈ l∧0≤x∧x < k:=by
 unfold rcl
 simp only [List.mem_map,List.mem_filter,List.mem_range,decide_eq_true_eq]
 constructor
 ·rintro ⟨j,⟨h1,h2⟩,rfl⟩;exact ⟨h2,by omega,by omega⟩
 ·rintro ⟨h1,h2,h3⟩
  obtain ⟨n,rfl⟩:∃ n:Nat,x=(n:Int):=⟨x.toNat,by omega⟩
  exact ⟨n,⟨by omega,h1⟩,rfl⟩
def rclean (G:List (List Int)):List (List Int):=G.map fun l=>rcl l G.length
theorem prc_gr (L:List (List Int)):GrV (.fsl 1 (els prc L)) L:=by
 refine .inr ⟨L.map (encF intc 1),by simp [els,prc],by simp,fun k w m hw hm=>?_⟩
 rw [List.getElem?_map,hm] at hw
 cases hw
 exact encF_sl
theorem ref10_Clean {v:AV} {G:List (List Int)} (hv:GrV v G) (h0:0 < G.length) (hG:G.length≤64) (hl:∀l ∈ G,l.length < 1048576):Ret P g true 63 [v] (.fsl 1 (els prc (rclean G))):=by
 refine Ret.inP c63 (by simp) ?_
 simp [k63]
 refine W.whileI (fun (k:Nat) F S=>k≤G.length∧F 0=v∧F 4=.int .i64 k∧∃ ws,Has aw 1 S (F 3) ws∧Bel S (F 3)∧ws.length=k∧∀(j:Nat) (w:AV) (l:List Int),ws[j]?=some w→G[j]?=some l→Has intc 1 S w (rcl l G.length)∧Bel S w) (fun k=>G.length - k) ?_ 0 _ _ ?_
 ·rintro k F S ⟨hk,f0,f4,ws,h3,b3,hwl,hws⟩
  simp [f0,f4,hv.len]
  by_cases hlt:k < G.length
  ·obtain ⟨l,hx⟩:∃ l,G[k]?=some l:=⟨_,List.getElem?_eq_getElem hlt⟩
   obtain ⟨w,hw,hix⟩:=hv.idx hx
   have hll:=hl l (List.mem_of_getElem? hx)
   have e4:=wrapS k (by omega)
   simp [hlt]
   refine W.whileI (fun (j:Nat) F' S'=>j≤G.length∧F' 0=v∧F' 4=.int .i64 k∧F' 3=F 3∧F' 6=.int .i64 j∧Has intc 1 S' (F' 5) (rcl l j)∧Bel S' (F' 5)∧(∀q c,F' 5=.sl 1 q 0 c→S.next≤q)∧S.next≤S'.next∧∀q,q < S.next→S'.obj q=S.obj q) (fun j=>G.length - j) ?_ 0 _ _ ?_
   ·rintro j F' S' ⟨hj,f0,f4,f3,f6,h5,b5,y5,hn,hu⟩
    simp [f0,f6,hv.len]
    by_cases hltj:j < G.length
    ·have e5:=wrapS j (by omega)
     have hst:=rcl_succ l j
     have hrl:=rcl_len l j
     simp [hltj,f0,f4,f6,hix]
     refine (ref10_Has l j w hw (by omega)).use (n:=9) (by simp [mapOpt,pict_stab hw.stab]) rfl ?_
     by_cases hm:(j:Int) ∈ l
     ·simp [hm,f6] at hst ⊢
      refine appV_own (e:=intc) (x:=(j:Int)) (h5.new b5) rfl (by simp [room];omega) ?_
      intro S2 hS hnx hoth
      simp at hnx hoth
      simp [f0,f3,f4,f6,e5]
      refine ⟨j + 1,by omega,by omega,by omega,by rw [hst];simpa using hS,Bel.sl (by rw [hnx];exact Nat.lt_succ_self _),by omega,by omega,fun q hq=>?_⟩
      rw [hoth q (by omega) (fun c e=>by have:=y5 q _ e;omega),if_neg (by omega)]
      exact hu q hq
     ·simp [hm] at hst ⊢
      simp [f0,f3,f4,f6,e5]
      exact ⟨j + 1,by omega,by omega,by omega,by rw [hst];exact h5,b5,y5,hn,hu⟩
    ·have:j=G.length:=by omega
     subst this
     have h51:=h5.one1
     have h3':Has aw 1 S' (F 3) ws:=h3.keep fun q ⟨c,hc⟩=>hu q (b3 _ _ _ hc)
     have b3':Bel S' (F 3):=b3.mono hn
     simp [f3,one_cells h51]
     refine appV_own (e:=aw) (x:=F' 5) (h3'.new b3') (by simp [okEl,aw,h51]) (by simp [room];omega) ?_
     intro S2 hS hnx hoth
     simp at hnx hoth
     simp [f0,f4,e4]
     have keep:∀w l,Has intc 1 S' w l→Bel S' w→(∀q c,w=.sl 1 q 0 c→∀c',F 3 ≠ .sl 1 q 0 c')→Has intc 1 S2 w l∧Bel S2 w:=fun w l h b hne=>by
      refine ⟨h.keep fun q ⟨c,hc⟩=>?_,b.mono (by omega)⟩
      have:=b _ _ _ hc
      rw [hoth q (by omega) (fun c' e=>hne q c hc c' e),if_neg (by omega)]
     refine ⟨k + 1,by omega,by omega,by omega,ws ++ [F' 5],by simpa [hwl] using hS,Bel.sl (by rw [hnx];exact Nat.lt_succ_self _),by simp [hwl],fun j w l' hw' hl'=>?_⟩
     by_cases hjk:j=k
     ·subst hjk
      rw [hx] at hl';cases hl'
      rw [List.getElem?_append_right (by omega),hwl] at hw'
      simp at hw'
      subst hw'
      refine keep _ _ h5 b5 fun q c e c' e'=>?_
      have h1:=y5 q c e
      have h2:=b3 _ _ _ e'
      omega
     ·have hjl:j < ws.length:=by
       have:=(List.getElem?_eq_some_iff.1 hw').1
       simp at this;omega
      rw [List.getElem?_append_left hjl] at hw'
      obtain ⟨a1,a2⟩:=hws j w l' hw' hl'
      refine keep _ _ (a1.keep fun q ⟨c,hc⟩=>hu q (a2 _ _ _ hc)) (a2.mono hn) fun q c e c' e'=>?_
      subst e
      rcases a1 with ⟨e1,_⟩ | ⟨o,e1,ho,hne⟩
      ·cases e1
      ·cases e1
       rcases h3 with ⟨e2,_⟩ | ⟨o2,e2,ho2,hne2⟩
       ·rw [e2] at e';cases e'
       ·rw [e2] at e';cases e'
        rw [ho] at ho2
        cases hr:rcl l' G.length with
        | nil=>exact hne hr
        | cons z zs =>
         cases hz:ws with
         | nil=>exact hne2 hz
         | cons u us =>
          rw [hr,hz] at ho2
          simp [els,intc,aw] at ho2
          have hu':=hws 0 u
          rw [hz] at hu'
          obtain ⟨l0,hl0⟩:∃ l0,G[0]?=some l0:=⟨_,List.getElem?_eq_getElem h0⟩
          have:=(hu' l0 rfl hl0).1.one1
          rcases (hu' l0 rfl hl0).1 with ⟨e3,_⟩ | ⟨o3,e3,_⟩ <;> rw [e3] at ho2 <;> simp at ho2
   ·simp [f0,f4]
    exact ⟨.inl ⟨rfl,by simp [rcl]⟩,Bel.nil⟩
  ·have:k=G.length:=by omega
   subst this
   simp
   rcases h3 with ⟨_,e⟩ | ⟨o,e,ho,hne⟩
   ·rw [e] at hwl;simp at hwl;omega
   ·have hyo:(AObj.row 1 (els aw ws)).young=true:=by
     show youngss _=true
     rw [youngss_iff]
     intro x hx
     rw [List.mem_flatten] at hx
     obtain ⟨z,hz,hx⟩:=hx
     unfold els at hz
     obtain ⟨w,hw,rfl⟩:=List.mem_map.1 hz
     have:x=w:=by simpa [aw] using hx
     subst this
     obtain ⟨j,hj⟩:=List.mem_iff_getElem?.1 hw
     have hjl:=(List.getElem?_eq_some_iff.1 hj).1
     obtain ⟨l,hl'⟩:∃ l,G[j]?=some l:=⟨_,List.getElem?_eq_getElem (by omega)⟩
     rcases (hws j x l hj hl').1 with ⟨h,_⟩ | ⟨q,h,_⟩ <;> rw [h] <;> rfl
    rw [e,hwl]
    refine ⟨rfl,9,pict_row (m:=8) (es:=els aw ws) (by rw [news_obj,ho];simp [Option.filter,hyo]) (by simp [hwl]) (by simp [rclean]) fun j z hz=>?_⟩
    simp only [els,List.getElem?_map] at hz ⊢
    cases hw:ws[j]? with
    | none=>rw [hw] at hz;cases hz
    | some w =>
     rw [hw] at hz;cases hz
     have hjl:=(List.getElem?_eq_some_iff.1 hw).1
     obtain ⟨l,hl'⟩:∃ l,G[j]?=some l:=⟨_,List.getElem?_eq_getElem (by omega)⟩
     simp [rclean,hl',aw,mapOpt,prc,(hws j w l hw hl').1.newsI.pict (n:=6)]
 ·simp
  exact ⟨[],.inl ⟨rfl,rfl⟩,Bel.nil,rfl,fun j w l h=>by cases h⟩
theorem ref10_Of (f:Fun) (h0:0 < f.blks.length) (hf:f.blks.length≤64) (ho:∀b ∈ f.blks,b.out.length < 1048576):Ret P g false 26 [encFun f] (.fsl 1 (els prc (rclean f.gout))):=by
 refine Ret.in c26 (by simp) ?_
 simp [k26]
 refine W.whileI (fun (k:Nat) F S=>k≤f.blks.length∧F 1=.ptr 0 0 0∧F 4=.int .i64 k∧S.obj 0=some (.row 3 [func f])∧0 < S.next∧Has aw 1 S (F 3) ((f.blks.map Blk.gvB).take k)∧Bel S (F 3)∧∀q c,F 3=.sl 1 q 0 c→0 < q) (fun k=>f.blks.length - k) ?_ 0 _ _ ?_
 ·rintro k F S ⟨hk,f1,f4,s0,hn,h3,b3,n3⟩
  have s0':=s0
  simp only [func] at s0'
  simp [f1,f4,s0',f.blksS.len]
  by_cases hlt:k < f.blks.length
  ·obtain ⟨b,hb⟩:∃ b,f.blks[k]?=some b:=⟨_,List.getElem?_eq_getElem hlt⟩
   have e4:=wrapS k (by omega)
   have hst:(f.blks.map Blk.gvB).take (k + 1)=(f.blks.map Blk.gvB).take k ++ [b.gvB]:=take_succ_get (by rw [List.getElem?_map,hb];rfl)
   simp [hlt,f1,f4,s0',f.blksS.idx hb]
   have h1:b.gvB.one=true:=by
    rcases b.gS with h | ⟨h,_⟩ <;> rw [h] <;> rfl
   cases hon:b.on
   ·have hg:b.gvB=.nilsl:=by unfold Blk.gvB;rw [hon];rfl
    rw [hg] at hst h1
    simp
    refine appV_own (e:=aw) (x:=AV.nilsl) (h3.new b3) (by simp [okEl,aw,h1]) (by simp [room];omega) ?_
    intro S2 hS hnx hoth
    simp at hnx hoth
    simp [f1,f4,e4]
    refine ⟨k + 1,by omega,by omega,by omega,?_,by omega,by rw [hst];simpa using hS,Bel.sl (by rw [hnx];exact Nat.lt_succ_self _)⟩
    rw [hoth 0 (by omega) (fun c e=>by have:=n3 0 _ e;omega),if_neg (by omega)]
    exact s0
   ·have hg:b.gvB=b.outV:=by unfold Blk.gvB;rw [hon];rfl
    rw [hg] at hst h1
    simp [f1,f4,s0',f.blksS.idx hb,b.outS.cells]
    refine appV_own (e:=aw) (x:=b.outV) (h3.new b3) (by simp [okEl,aw,h1]) (by simp [room];omega) ?_
    intro S2 hS hnx hoth
    simp at hnx hoth
    simp [f1,f4,e4]
    refine ⟨k + 1,by omega,by omega,by omega,?_,by omega,by rw [hst];simpa using hS,Bel.sl (by rw [hnx];exact Nat.lt_succ_self _)⟩
    rw [hoth 0 (by omega) (fun c e=>by have:=n3 0 _ e;omega),if_neg (by omega)]
    exact s0
  ·have:k=f.blks.length:=by omega
   subst this
   rw [List.take_of_length_le (by simp)] at h3
   simp
   have hpict:pict S [] 9 (F 3)=some f.goutV:=by
    rcases h3 with ⟨_,e⟩ | ⟨o,e,ho,hne⟩
    ·simp at e;rw [e] at h0;simp at h0
    ·rw [e]
     refine pict_row (m:=8) ho (by simp) (by simp) fun j z hz=>?_
     simp only [els,List.getElem?_map] at hz ⊢
     cases hb:f.blks[j]? with
     | none=>rw [hb] at hz;cases hz
     | some b =>
      rw [hb] at hz;cases hz
      have hs:b.gvB.stab=true:=b.gS.stab
      simp [aw,mapOpt,pict_stab hs]
   refine (ref10_Clean f.gout_gr (by simp [Fun.gout];omega) (by simp [Fun.gout];omega) (fun l hl=>?_)).use (n:=9) (by simp [mapOpt,hpict]) rfl ?_
   ·unfold Fun.gout at hl
    obtain ⟨b,hb,rfl⟩:=List.mem_map.1 hl
    have:=ho b hb
    unfold Blk.gout
    split
    ·omega
    ·simp
   simp
   exact RK.stab rfl
 ·simp
  exact ⟨.inl ⟨rfl,rfl⟩,Bel.nil⟩
end Go.Proofs.YtbhkamemheaajaaGreatDoor.Vm
namespace Go.Proofs.YtbhkamemheaajaaGreatDoor.Vm
open Go Go.RowKit
variable {N:Nat} {g:Glob}
def Shut (C:List (List Int)) (r:List Bool):Prop:=∀(a:Nat) (l:List Int),C[a]?=some l→r[a]?=some true→∀b:Nat,(b:Int) ∈ l→r[b]?=some true
def leB (r r':List Bool):Prop:=∀x:Nat,r[x]?=some true→r'[x]?=some true
theorem cnt_lt:∀{r r':List Bool},r.length=r'.length→leB r r'→r.count true≤r'.count true∧(r ≠ r'→r.count true < r'.count true)
 | [],[],_,_=>⟨Nat.le_refl _,fun h=>absurd rfl h⟩
 | [],_ :: _,h,_=>by simp at h
 | _ :: _,[],h,_=>by simp at h
 | a :: r,b :: r',h,hle=>by
  have ih:=cnt_lt (r:=r) (r':=r') (by simpa using h) fun x hx=>by simpa using hle (x + 1) (by simpa using hx)
  have h0:=hle 0
  simp at h0
  cases a <;> cases b
  ·simp only [List.count_cons]
   refine ⟨by simpa using ih.1,fun hne=>?_⟩
   have:=ih.2 fun e=>hne (by rw [e])
   simpa using this
  ·simp only [List.count_cons]
   refine ⟨by have:=ih.1;simp;omega,fun _=>by have:=ih.1;simp;omega⟩
  ·simp at h0
  ·simp only [List.count_cons]
   refine ⟨by simpa using ih.1,fun hne=>?_⟩
   have:=ih.2 fun e=>hne (by rw [e])
   simpa using this
structure RdI (C:List (List Int)) (a0 k:Nat) (r:List Bool):Prop where
 len:r.length=C.length
 z:r[a0]?=some true
 up:Shut C r ∨ k + 1≤r.count true
structure RnG (C:List (List Int)) (r0:List Bool) (a:Nat) (r:List Bool):Prop where
 len:r.length=r0.length
 le:leB r0 r
 st:Shut C r0→r=r0
 all:∀(a':Nat) (l:List Int),a' < a→C[a']?=some l→r0[a']?=some true→∀b:Nat,(b:Int) ∈ l→r[b]?=some true
theorem RnG.start {C:List (List Int)} (r0:List Bool):RnG C r0 0 r0:=⟨rfl,fun _ h=>h,fun _=>rfl,fun a' l h=>absurd h (by omega)⟩
theorem RnG.done {C:List (List Int)} {r0 r:List Bool} {a0 k:Nat} (h:RnG C r0 C.length r) (h0:RdI C a0 k r0):RdI C a0 (k + 1) r:=by
 refine ⟨by rw [h.len,h0.len],h.le _ h0.z,?_⟩
 by_cases hs:Shut C r0
 ·rw [h.st hs];exact .inl hs
 ·have hne:r0 ≠ r:=fun e=>hs fun a l hl ha b hb=>by
   have:=h.all a l (List.getElem?_eq_some_iff.1 hl).1 hl ha b hb
   rw [e];exact this
  have h1:=(cnt_lt h.len.symm h.le).2 hne
  rcases h0.up with h2 | h2
  ·exact absurd h2 hs
  ·exact .inr (by omega)
theorem RdI.all {C:List (List Int)} {a0:Nat} {r:List Bool} (h:RdI C a0 C.length r) {x:Nat} (hx:Rch C a0 x):r[x]?=some true:=by
 have hs:Shut C r:=by
  rcases h.up with h1 | h1
  ·exact h1
  ·have:=List.count_le_length (a:=true) (l:=r)
   rw [h.len] at this
   omega
 induction hx with
 | base=>exact h.z
 | step _ hl hb ih=>exact hs _ _ hl ih _ hb
structure RkG (C:List (List Int)) (r0:List Bool) (a:Nat) (l:List Int) (k:Nat) (r:List Bool):Prop where
 n:RnG C r0 a r
 p:∀k',k' < k→∀b:Nat,l[k']?=some (b:Int)→r[b]?=some true
theorem RkG.start {C:List (List Int)} {r0 r:List Bool} {a:Nat} {l:List Int} (h:RnG C r0 a r):RkG C r0 a l 0 r:=⟨h,fun k' hk=>absurd hk (by omega)⟩
theorem RkG.step {C:List (List Int)} {r0 r:List Bool} {a k b:Nat} {l:List Int} (h:RkG C r0 a l k r) (hl:C[a]?=some l) (hk:l[k]?=some (b:Int)) (ha:r[a]?=some true) (hb:b < r.length):RkG C r0 a l (k + 1) (r.set b true):=by
 have hle:leB r (r.set b true):=fun x hx=>by
  by_cases e:x=b
  ·subst e;rw [List.getElem?_set_self hb]
  ·rw [List.getElem?_set_ne (Ne.symm e)];exact hx
 refine ⟨⟨by rw [List.length_set];exact h.n.len,fun x hx=>hle x (h.n.le x hx),fun hs=>?_,fun a' l' h1 h2 h3 c hc=>hle _ (h.n.all a' l' h1 h2 h3 c hc)⟩,fun k' hk' c hc=>?_⟩
 ·have e:=h.n.st hs
  subst e
  have:=hs a l hl ha b (List.mem_of_getElem? hk)
  obtain ⟨h1,h2⟩:=List.getElem?_eq_some_iff.1 this
  rw [← h2];exact List.set_getElem_self h1
 ·by_cases e:k'=k
  ·subst e
   rw [hk] at hc
   have:b=c:=by simp at hc;omega
   subst this
   rw [List.getElem?_set_self hb]
  ·exact hle _ (h.p k' (by omega) c hc)
theorem RkG.done {C:List (List Int)} {r0 r:List Bool} {a k:Nat} {l:List Int} (h:RkG C r0 a l k r) (hl:C[a]?=some l) (hd:k=l.length ∨ r[a]?=some false):RnG C r0 (a + 1) r:=by
 refine ⟨h.n.len,h.n.le,h.n.st,fun a' l' h1 h2 h3 b hb=>?_⟩
 by_cases e:a'=a
 ·subst e
  rw [hl] at h2;cases h2
  rcases hd with hd | hd
  ·obtain ⟨k',hk'⟩:=List.mem_iff_getElem?.1 hb
   have:=(List.getElem?_eq_some_iff.1 hk').1
   exact h.p k' (by omega) b hk'
  ·have:=h.n.le _ h3
   rw [hd] at this;cases this
 ·exact h.n.all a' l' (by omega) h2 h3 b hb
theorem ref10_is {v:AV} {n:Nat} (hv:lenV v=some n) (hs:v.stab=true) (x:Int):Ret P g false 64 [v,.int .i64 x] (.bool (inGr n x)):=by
 refine Ret.in c64 (by simp) ?_
 simp [k64,inGr]
 by_cases hx:(0:Int)≤x
 ·simp [hx,hv]
  exact RK.stab rfl
 ·simp [hx]
  exact RK.stab rfl
theorem ref10_Reach {v:AV} {G:List (List Int)} (hv:GrV v G) (hG:G.length≤64) (hl:∀l ∈ G,l.length < 1048576) (a0:Nat) (ha0:a0 < G.length):RetE P g false 65 [v,.int .i64 (a0:Int)]
  (fun y=>∃ r:List Bool,y=.fsl 1 (els boolc r)∧r.length=G.length∧∀x,Rch (rclean G) a0 x→r[x]?=some true):=by
 refine RetE.in c65 (by simp) ?_
 have hroom:G.length≤room:=by simp [room];omega
 simp [k65,hv.len,hroom]
 refine (ref10_is hv.len hv.stab (a0:Int)).use (n:=9) (by simp [mapOpt,pict_stab hv.stab]) rfl ?_
 have e1:inGr G.length (a0:Int)=true:=by simp [inGr,ha0]
 have hg:(List.replicate G.length [AV.bool false])[a0]?=some [AV.bool false]:=by simp [ha0]
 simp [e1,ix_sl ha0,hg]
 refine (ref10_Clean hv (by omega) hG hl).use (n:=9) (by simp [mapOpt,pict_stab hv.stab]) rfl ?_
 have hCl:(rclean G).length=G.length:=by simp [rclean]
 have hCm:∀l ∈ rclean G,l.length≤64∧∀x ∈ l,0≤x∧x < (G.length:Int):=fun l h=>by
  unfold rclean at h
  obtain ⟨m,_,rfl⟩:=List.mem_map.1 h
  have:=rcl_len m G.length
  exact ⟨by omega,fun x hx=>(rcl_mem.1 hx).2⟩
 have hcv:=prc_gr (rclean G)
 generalize rclean G=C at *
 generalize AV.fsl 1 (els prc C)=cv at *
 simp
 refine W.whileI (fun (k:Nat) F S=>k≤C.length∧F 0=v∧F 5=.sl 1 0 0 G.length∧F 6=cv∧F 7=.int .i64 k∧∃ r,S.obj 0=some (.row 1 (els boolc r))∧RdI C a0 k r) (fun k=>C.length - k) ?_ 0 _ _ ?_
 ·rintro k F S ⟨hk,f0,f5,f6,f7,r0,s0,hI⟩
  simp [f0,f7,hv.len]
  by_cases hlt:k < G.length
  ·have e4:=wrapS k (by omega)
   simp [hlt]
   refine W.whileI (fun (a:Nat) F S=>a≤C.length∧F 0=v∧F 5=.sl 1 0 0 G.length∧F 6=cv∧F 7=.int .i64 k∧F 8=.int .i64 a∧∃ r,S.obj 0=some (.row 1 (els boolc r))∧RnG C r0 a r) (fun a=>C.length - a) ?_ 0 _ _ ?_
   ·clear f0 f5 f6 f7 s0
    rintro a F S ⟨ha,f0,f5,f6,f7,f8,r,s0,hN⟩
    simp [f0,f8,hv.len]
    by_cases hlta:a < G.length
    ·have e5:=wrapS a (by omega)
     obtain ⟨l,hx⟩:∃ l,C[a]?=some l:=⟨_,List.getElem?_eq_getElem (by omega)⟩
     obtain ⟨w,hw,hix⟩:=hcv.idx hx
     have hlm:=hCm l (List.mem_of_getElem? hx)
     simp [hlta]
     refine W.whileI (fun (q:Nat) F S=>q≤l.length∧F 0=v∧F 5=.sl 1 0 0 G.length∧F 6=cv∧F 7=.int .i64 k∧F 8=.int .i64 a∧F 9=.int .i64 q∧∃ r,S.obj 0=some (.row 1 (els boolc r))∧RkG C r0 a l q r) (fun q=>l.length - q) ?_ 0 _ _ ?_
     ·clear f0 f5 f6 f7 f8 s0 hN
      rintro q F S ⟨hq,f0,f5,f6,f7,f8,f9,r,s0,hK⟩
      have hrl:r.length=G.length:=by rw [hK.n.len,hI.len,hCl]
      obtain ⟨mb,hmb⟩:∃ y,r[a]?=some y:=⟨_,List.getElem?_eq_getElem (by omega)⟩
      by_cases hltq:q < l.length
      ·obtain ⟨x,hxq⟩:∃ x,l[q]?=some x:=⟨_,List.getElem?_eq_getElem hltq⟩
       have hxx:=hlm.2 x (List.mem_of_getElem? hxq)
       obtain ⟨b,rfl⟩:∃ b:Nat,x=(b:Int):=⟨x.toNat,by omega⟩
       have hbn:b < G.length:=by omega
       obtain ⟨mc,hmc⟩:∃ y,r[b]?=some y:=⟨_,List.getElem?_eq_getElem (by omega)⟩
       have e6:=wrapS q (by omega)
       simp [f5,f6,f8,f9,hix,hw.len,hltq,ix_sl hlta,s0,hmb,boolc]
       cases mb
       ·simp [f0,f5,f6,f7,f8,e5]
        exact ⟨a + 1,by omega,by omega,by omega,r,by simpa using s0,hK.done hx (.inr hmb)⟩
       ·simp [f5,f6,f8,f9,hix,hw.idx hxq,intc,ix_sl hbn,s0,hmc,boolc]
        simp [f0,f5,f6,f7,f8,f9,e6]
        refine ⟨q + 1,by omega,by omega,by omega,r.set b true,?_,hK.step hx hxq hmb (by omega)⟩
        rw [← els_set];rfl
      ·have:q=l.length:=by omega
       subst this
       simp [f6,f8,f9,hix,hw.len]
       simp [f0,f5,f6,f7,f8,e5]
       exact ⟨a + 1,by omega,by omega,by omega,r,by simpa using s0,hK.done hx (.inl rfl)⟩
     ·simp [f0,f5,f6,f7,f8]
      exact ⟨r,s0,RkG.start hN⟩
    ·have:a=C.length:=by omega
     subst this
     simp [hCl,f0,f5,f6,f7,e4]
     exact ⟨k + 1,by omega,by omega,by omega,r,s0,hN.done hI⟩
   ·simp [f0,f5,f6,f7]
    exact ⟨r0,s0,RnG.start r0⟩
  ·have:k=C.length:=by omega
   subst this
   simp [hCl,f5]
   refine ⟨_,⟨r0,rfl,by rw [hI.len,hCl],fun x hx=>hI.all hx⟩,9,pict_rowP (n:=7) s0 (by rw [hI.len,hCl])⟩
 ·simp
  refine ⟨(List.replicate G.length false).set a0 true,?_,by simp [hCl],by simp [ha0],.inr ?_⟩
  ·show (List.replicate G.length (boolc false)).set a0 (boolc true)=_
   rw [els_replicate,els_set]
  ·have h1:((List.replicate G.length false).set a0 true)[a0]?=some true:=by simp [ha0]
   have:=List.count_pos_iff.2 (List.mem_of_getElem? h1)
   omega
end Go.Proofs.YtbhkamemheaajaaGreatDoor.Vm
namespace Go.Proofs.YtbhkamemheaajaaGreatDoor.Vm
open Go Go.RowKit
set_option maxRecDepth 100000
variable {N:Nat} {g:Glob}
theorem cntL_le {α:Type} {p q:α→Bool} (h:∀x,p x=true→q x=true):∀l:List α,(l.filter p).length≤(l.filter q).length
 | []=>Nat.le_refl _
 | x :: l=>by
  have ih:=cntL_le h l
  simp only [List.filter_cons]
  by_cases hp:p x=true
  ·simp [hp,h x hp,ih]
  ·by_cases hq:q x=true
   ·simp [hp,hq];omega
   ·simp [hp,hq,ih]
theorem cntL_lt {α:Type} {p q:α→Bool} (h:∀x,p x=true→q x=true) {a:α}:∀l:List α,a ∈ l→p a=false→q a=true→(l.filter p).length < (l.filter q).length
 | [],ha,_,_=>by cases ha
 | x :: l,ha,h1,h2=>by
  have ih:=cntL_le h l
  simp only [List.filter_cons]
  rcases List.mem_cons.1 ha with rfl | ha
  ·simp [h1,h2];omega
  ·have ih2:=cntL_lt h l ha h1 h2
   by_cases hp:p x=true
   ·simp [hp,h x hp,ih2]
   ·by_cases hq:q x=true
    ·simp [hp,hq];omega
    ·simp [hp,hq,ih2]
structure Flw where
 w:Nat
 rs:List (List Int)
 gen:List BSet
 kill:List BSet
def GoodW (w:Nat) (x:List BSet):Prop:=∀s ∈ x,s.OK∧s.n=w
theorem GoodW.at {w:Nat} (hw:w≤1024) {x:List BSet} (h:GoodW w x) (i:Nat):(x.getD i (BSet.new w)).OK∧(x.getD i (BSet.new w)).n=w:=by
 rw [List.getD_eq_getElem?_getD]
 cases hx:x[i]? with
 | none=>exact ⟨BSet.new_ok hw,rfl⟩
 | some s=>exact h s (List.mem_of_getElem? hx)
structure Flw.OK (F:Flw):Prop where
 w:F.w≤128
 n0:0 < F.rs.length
 n:F.rs.length≤12
 gl:F.gen.length=F.rs.length
 kl:F.kill.length=F.rs.length
 g:GoodW F.w F.gen
 k:GoodW F.w F.kill
 r:∀m ∈ F.rs,m.length < 64∧∀j ∈ m,0≤j∧j < F.rs.length
def orAll (w:Nat) (x:List BSet) (js:List Int):BSet:=js.foldl (fun s j=>s.or (x.getD j.toNat (BSet.new w))) (BSet.new w)
theorem orAll_fold {w:Nat} (hw:w≤1024) {x:List BSet} (h:GoodW w x) (js:List Int):∀s:BSet,s.OK→s.n=w→((js.foldl (fun s j=>s.or (x.getD j.toNat (BSet.new w))) s).OK∧(js.foldl (fun s j=>s.or (x.getD j.toNat (BSet.new w))) s).n=w ∧
  ∀v,(js.foldl (fun s j=>s.or (x.getD j.toNat (BSet.new w))) s).mem v=(s.mem v || js.any fun j=>(x.getD j.toNat (BSet.new w)).mem v)):=by
 induction js with
 | nil=>intro s hs hn;exact ⟨hs,hn,fun v=>by simp⟩
 | cons j js ih =>
  intro s hs hn
  have hj:=h.at hw j.toNat
  obtain ⟨h1,h2,h3⟩:=ih (s.or (x.getD j.toNat (BSet.new w))) (BSet.or_ok hs hj.1) (by rw [BSet.or_n,hn,hj.2];exact Nat.max_self w)
  refine ⟨h1,h2,fun v=>?_⟩
  rw [List.foldl_cons,h3 v,BSet.or_mem hs hj.1,List.any_cons,Bool.or_assoc]
theorem orAll_ok {w:Nat} (hw:w≤1024) {x:List BSet} (h:GoodW w x) (js:List Int):(orAll w x js).OK∧(orAll w x js).n=w:=by
 obtain ⟨h1,h2,_⟩:=orAll_fold hw h js (BSet.new w) (BSet.new_ok hw) rfl
 exact ⟨h1,h2⟩
theorem orAll_mem {w:Nat} (hw:w≤1024) {x:List BSet} (h:GoodW w x) (js:List Int) (v:Nat):(orAll w x js).mem v=js.any fun j=>(x.getD j.toNat (BSet.new w)).mem v:=by
 rw [orAll,(orAll_fold hw h js (BSet.new w) (BSet.new_ok hw) rfl).2.2 v,BSet.new_mem,Bool.false_or]
theorem minus_n (a b:BSet):(a.minus b).n=max a.n b.n:=rfl
def Flw.ev (F:Flw) (x:List BSet) (i:Nat):BSet:=(F.gen.getD i (BSet.new F.w)).or ((orAll F.w x (F.rs.getD i [])).minus (F.kill.getD i (BSet.new F.w)))
variable {F:Flw}
theorem Flw.OK.lt (hF:F.OK):F.w≤1024:=by have:=hF.w;omega
theorem Flw.ev_ok (hF:F.OK) {x:List BSet} (h:GoodW F.w x) (i:Nat):(F.ev x i).OK∧(F.ev x i).n=F.w:=by
 have h1:=orAll_ok hF.lt h (F.rs.getD i [])
 have h2:=hF.g.at hF.lt i
 have h3:=hF.k.at hF.lt i
 refine ⟨BSet.or_ok h2.1 (BSet.minus_ok h1.1 h3.1),?_⟩
 rw [Flw.ev,BSet.or_n,minus_n,h1.2,h2.2,h3.2,Nat.max_self,Nat.max_self]
theorem Flw.ev_mem (hF:F.OK) {x:List BSet} (h:GoodW F.w x) (i v:Nat):(F.ev x i).mem v=((F.gen.getD i (BSet.new F.w)).mem v || (((F.rs.getD i []).any fun j=>(x.getD j.toNat (BSet.new F.w)).mem v) && !(F.kill.getD i (BSet.new F.w)).mem v)):=by
 have h1:=orAll_ok hF.lt h (F.rs.getD i [])
 have h2:=hF.g.at hF.lt i
 have h3:=hF.k.at hF.lt i
 rw [Flw.ev,BSet.or_mem h2.1 (BSet.minus_ok h1.1 h3.1),BSet.minus_mem h1.1 h3.1,orAll_mem hF.lt h]
theorem Flw.rd_in (hF:F.OK) (i:Nat):(F.rs.getD i []).length < 64∧∀j ∈ F.rs.getD i [],0≤j∧j < F.rs.length:=by
 rw [List.getD_eq_getElem?_getD]
 cases hm:F.rs[i]? with
 | none=>exact ⟨by simp,fun j h=>by simp at h⟩
 | some m=>exact hF.r m (List.mem_of_getElem? hm)
theorem orAll_same {w k:Nat} {x:List BSet} {a:BSet}:∀(js:List Int) (s:BSet),(∀j ∈ js,j.toNat ≠ k)→js.foldl (fun s j=>s.or ((x.set k a).getD j.toNat (BSet.new w))) s=js.foldl (fun s j=>s.or (x.getD j.toNat (BSet.new w))) s
 | [],s,_=>rfl
 | j :: js,s,h=>by
  rw [List.foldl_cons,List.foldl_cons,orAll_same js _ fun i hi=>h i (by simp [hi])]
  have:(x.set k a).getD j.toNat (BSet.new w)=x.getD j.toNat (BSet.new w):=by
   rw [List.getD_eq_getElem?_getD,List.getD_eq_getElem?_getD,List.getElem?_set_ne (Ne.symm (h j (by simp)))]
  rw [this]
def setHt (w:Nat) (s:BSet):Nat:=((List.range w).filter fun v=>s.mem v).length
def setLe (a b:BSet):Prop:=∀v,a.mem v=true→b.mem v=true
def Flw.sys (F:Flw) (hF:F.OK):Sys BSet where
 n:=F.rs.length
 ev:=F.ev
 rd i:=F.rs.getD i []
 ok s:=s.OK∧s.n=F.w
 le:=setLe
 bot:=BSet.new F.w
 ht:=setHt F.w
 top:=F.w
 refl a _:=fun _ h=>h
 trans a b c _ _ _ h1 h2:=fun v h=>h2 v (h1 v h)
 anti a b ha hb h1 h2:=BSet.ext ha.1 hb.1 (by rw [ha.2,hb.2]) fun v _=>by
  rw [Bool.eq_iff_iff];exact ⟨h1 v,h2 v⟩
 botOk:=⟨BSet.new_ok hF.lt,rfl⟩
 botLe a _:=fun v h=>by rw [BSet.new_mem] at h;cases h
 htop a _:=by
  have:=List.length_filter_le (fun v=>a.mem v) (List.range F.w)
  simpa [setHt] using this
 hlt a b ha hb hle hne:=by
  have hex:∃ v,v < F.w∧a.mem v=false∧b.mem v=true:=by
   apply Classical.byContradiction
   intro hno
   refine hne (BSet.ext ha.1 hb.1 (by rw [ha.2,hb.2]) fun v hv=>?_)
   rw [ha.2] at hv
   cases h1:a.mem v with
   | true=>exact (hle v h1).symm
   | false =>
    cases h2:b.mem v with
    | false=>rfl
    | true=>exact (hno ⟨v,hv,h1,h2⟩).elim
  obtain ⟨v,hv,h1,h2⟩:=hex
  exact cntL_lt (fun x h=>hle x h) (a:=v) _ (List.mem_range.2 hv) h1 h2
 evOk x i _ hx _:=Flw.ev_ok hF hx i
 mono x y i hx hy hxo hyo hle hi:=fun v h=>by
  rw [Flw.ev_mem hF hxo] at h
  rw [Flw.ev_mem hF hyo]
  simp only [Bool.or_eq_true,Bool.and_eq_true,List.any_eq_true] at h ⊢
  rcases h with h | ⟨⟨j,hj,h⟩,hk⟩
  ·exact .inl h
  ·refine .inr ⟨⟨j,hj,?_⟩,hk⟩
   have hjl:=(Flw.rd_in hF i).2 j hj
   obtain ⟨a,ha⟩:∃ a,x[j.toNat]?=some a:=⟨_,List.getElem?_eq_getElem (by omega)⟩
   obtain ⟨b,hb⟩:∃ b,y[j.toNat]?=some b:=⟨_,List.getElem?_eq_getElem (by omega)⟩
   rw [List.getD_eq_getElem?_getD,ha] at h
   rw [List.getD_eq_getElem?_getD,hb]
   exact hle _ a b ha hb v h
 dep x i k a hno:=by
  unfold Flw.ev orAll
  rw [orAll_same _ _ hno]
 nn i j hj:=((Flw.rd_in hF i).2 j hj).1
noncomputable def Flw.sol (F:Flw) (hF:F.OK):List BSet:=(F.sys hF).sol
theorem Flw.sol_least (hF:F.OK):(F.sys hF).Least (F.sol hF):=(F.sys hF).least
theorem Flw.sol_len (hF:F.OK):(F.sol hF).length=F.rs.length:=(F.sol_least hF).fit.len
theorem Flw.sol_good (hF:F.OK):GoodW F.w (F.sol hF):=(F.sol_least hF).fit.ok
theorem Flw.sol_fix (hF:F.OK) {i:Nat} {s:BSet} (h:(F.sol hF)[i]?=some s):s=F.ev (F.sol hF) i:=(F.sol_least hF).fix i s h
def flwE (F:Flw):AV:=.agg [.int .i64 (F.w:Int),.fsl 1 (els prc F.rs),.fsl 2 (els setc F.gen),.fsl 2 (els setc F.kill)]
theorem flw_cut (F:Flw):∃ w1 w2 w3,flwE F=.agg [.int .i64 (F.w:Int),w1,w2,w3]∧FSl prc 1 w1 F.rs∧FSl setc 2 w2 F.gen∧FSl setc 2 w3 F.kill:=⟨_,_,_,rfl,FSl.mk,FSl.mk,FSl.mk⟩
theorem newW {w:Nat} (h:w≤1024):Ret P g true 12 [.int .i64 (w:Int)] (encB (BSet.new w)):=(bits_New w h).setR (b:=BSet.new w) rfl (by simp [BSet.new])
theorem flw_eval (hF:F.OK) {x:List BSet} (hx:GoodW F.w x) (hxl:x.length=F.rs.length) {i:Nat} (hi:i < F.rs.length) :
  Own P g 141 [flwE F,.int .i64 (i:Int),.fsl 2 (els setc x)] (.agg [.int .i64 (F.w:Int),.sl 1 0 0 (nw F.w)]) (St.ofL [.row 1 (els u64c (F.ev x i).ws)]):=by
 refine Own.in [3] c141 (by simp) (by simp) ?_
 have hxf:FSl setc 2 (.fsl 2 (els setc x)) x:=FSl.mk
 obtain ⟨w1,w2,w3,he,f1,f2,f3⟩:=flw_cut F
 obtain ⟨m,hm⟩:∃ m,F.rs[i]?=some m:=⟨_,List.getElem?_eq_getElem hi⟩
 obtain ⟨sg,hsg⟩:∃ m,F.gen[i]?=some m:=⟨_,List.getElem?_eq_getElem (by rw [hF.gl];exact hi)⟩
 obtain ⟨sl,hsl⟩:∃ m,F.kill[i]?=some m:=⟨_,List.getElem?_eq_getElem (by rw [hF.kl];exact hi)⟩
 have hmr:=hF.r m (List.mem_of_getElem? hm)
 have hgo:=hF.g sg (List.mem_of_getElem? hsg)
 have hko:=hF.k sl (List.mem_of_getElem? hsl)
 have hw:=hF.lt
 have hev:F.ev x i=sg.or ((orAll F.w x m).minus sl):=by simp [Flw.ev,List.getD_eq_getElem?_getD,hm,hsg,hsl]
 rw [hev]
 have hmf:FSl intc 1 (encF intc 1 m) m:=encF_sl
 have c1:w1.cells=[w1]∧w1.one=true:=⟨f1.cells,fsl_one f1⟩
 have c2:w2.cells=[w2]∧w2.one=true:=⟨f2.cells,fsl_one f2⟩
 have c3:w3.cells=[w3]∧w3.one=true:=⟨f3.cells,fsl_one f3⟩
 rw [he]
 clear he
 generalize hW:F.w=w at *
 simp [k141,c1,c2,c3]
 refine (newW hw).use (n:=9) ?_ rfl ?_ <;> simp
 simp [f1.idx hm,prc,hmf.len]
 let sk:Nat→BSet:=fun k=>(m.take k).foldl (fun s j=>s.or (x.getD j.toNat (BSet.new w))) (BSet.new w)
 have hsk:∀k,(sk k).OK∧(sk k).n=w:=fun k=>by
  obtain ⟨h1,h2,_⟩:=orAll_fold hw hx (m.take k) (BSet.new w) (BSet.new_ok hw) rfl
  exact ⟨h1,h2⟩
 refine W.whileI (fun (k:Nat) F S=>k≤m.length∧F 1=.int .i64 i∧F 2=.fsl 2 (els setc x)∧F 3=.ptr 0 0 0∧F 6=.ptr 1 0 0∧F 7=.ptr 2 0 0∧F 17=encF intc 1 m∧F 18=.int .i64 m.length∧F 19=.int .i64 k∧S.next=3 ∧
  S.obj 0=some (.row 4 [[.int .i64 w,w1,w2,w3]])∧S.obj 1=some (.row 2 [[.int .i64 0,.nilsl]])∧S.obj 2=some (.row 2 [setc (sk k)])) (fun k=>m.length - k) ?_ 0 _ _ ?_
 ·rintro k F S ⟨hk,h1,h2,h3,h6,h7,h17,h18,h19,hn,p0,p1,p2⟩
  by_cases hlt:k < m.length
  ·obtain ⟨j,hj⟩:∃ j,m[k]?=some j:=⟨_,List.getElem?_eq_getElem hlt⟩
   obtain ⟨hj0,hjn⟩:=hmr.2 j (List.mem_of_getElem? hj)
   obtain ⟨jn,rfl⟩:∃ n:Nat,j=(n:Int):=⟨j.toNat,by omega⟩
   obtain ⟨sj,hsj⟩:∃ s,x[jn]?=some s:=⟨_,List.getElem?_eq_getElem (by omega)⟩
   have hsjo:=hx sj (List.mem_of_getElem? hsj)
   have e4:=wrapS k (by omega)
   have hst:sk (k + 1)=(sk k).or sj:=by
    show (m.take (k + 1)).foldl _ _=_
    rw [foldl_take_succ _ _ _ _ _ hj]
    simp [List.getD_eq_getElem?_getD,hsj,sk]
   simp [h18,h19,hlt]
   simp [h17,h19,hmf.idx hj,intc]
   refine Dra.auto [] mix ?_ ?_
   ·kernel_rfl
   simp [classes,h2,h7,p2,hxf.idx hsj]
   refine (union_ret (hsk k).1 hsjo.1).b (n:=9) ?_ rfl ?_ <;> simp [(hsk k).2,hsjo.2,p2]
   simp [h1,h2,h3,h6,h7,h17,h18,h19,e4,p2]
   refine ⟨k + 1,by omega,by omega,by omega,hn,p0,p1,?_⟩
   rw [hst]
   simp [BSet.or_n,(hsk k).2,hsjo.2]
  ·have:k=m.length:=by omega
   subst this
   have hfin:sk m.length=orAll w x m:=by
    show (m.take m.length).foldl _ _=_
    rw [List.take_length];rfl
   rw [hfin] at p2
   have hbo:=orAll_ok hw hx m
   simp [h18,h19]
   refine Dra.auto [] mix ?_ ?_
   ·kernel_rfl
   have n1:¬ 1=S.next:=by omega
   have o2i:=f2.idx hsg
   have o3i:=f3.idx hsl
   simp only [setc] at o2i o3i
   simp [classes,h1,h3,h6,h7,p0,p1,p2,o2i,o3i]
   refine (minus_ret hbo.1 hko.1).b (n:=9) ?_ rfl ?_ <;> simp [hbo.2,hko.2]
   have hmo:((orAll w x m).minus sl).OK:=BSet.minus_ok hbo.1 hko.1
   have hmn:((orAll w x m).minus sl).n=w:=by rw [minus_n,hbo.2,hko.2,Nat.max_self]
   refine (bits_Union sg ((orAll w x m).minus sl) hgo.1 hmo).b' (n:=9) ?_ ?_ ?_ <;> simp
   simp [hgo.2,hmn,hn,h6,p1]
   rw [show sg.or ((orAll w x m).minus sl)=BSet.merge (fun x1 x2=>x1 ||| x2) sg ((orAll w x m).minus sl) from rfl]
   simp [RO,hn,AV.ren]
 ·simp
  exact ⟨by simp [sk,BSet.new],rfl⟩
end Go.Proofs.YtbhkamemheaajaaGreatDoor.Vm
