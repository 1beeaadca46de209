/- A part of the proof: Rb Rg Rr Rs Oa Ob Oc. -/
import Derived.KernelRfl
import Derived.Test.YtnhfofmhkfdpgaaGreatDoorQ25
set_option linter.unusedVariables false
set_option linter.unusedSimpArgs false
set_option linter.constructorNameAsVariable false
namespace Go.Proofs.YtnhfofmhkfdpgaaGreatDoor.Vm
open Go Go.RowKit
set_option maxRecDepth 100000
variable {N:Nat} {g:Glob}
noncomputable def runCode (z:AV):VCode:=zs (zr [zk 10 0]) (zs (zr [zm 24 0,zc1 25 118 24,zm 11 25]) (zs (zr [zm 26 0,zn 27 26,⟨some 28,.sk (.makeSlice [.bool false] 1 1) [.t 27,.t 27],none⟩,zm 12 28]) (zs (zs (zr [zm 29 1,zn 30 29,zk 31 0]) (.block 0 (.loop (zs (zr [zt 32 31 30]) (zs (.cond (.t 32) .skip (.exit 0)) (zs (.block 1 (zs (zr [zi 33 1 29 31,zl 34 1 33,zm 14 34]) (zs (zr [zm 35 14,⟨some 36,.pk (.ibin .geq) [.t 35,.c (.int .i64 0)],none⟩,zm 37 36,zg true 37 (zm 38 14),zg true 37 (zm 39 0),zg true 37 (zn 40 39),zg true 37 (zt 41 38 40),zu 42 37 41]) (.cond (.t 42) (zr [zm 43 12,zm 44 14,zi 45 1 43 44,⟨none,.sk (.store 1) [.t 45,.c (.bool true)],none⟩]) .skip)))) (zr [zp 46 31,zm 31 46]))))))) (zs (zr [zm 47 11,⟨some 48,.callF 120 [.t 47,.c (.int .i64 0)],none⟩,zc1 49 119 48,zm 15 49]) (zs (zs (zr [zm 50 12,zn 51 50,zk 52 0]) (.block 2 (.loop (zs (zr [zt 53 52 51]) (zs (.cond (.t 53) .skip (.exit 2)) (zs (.block 3 (zs (zr [zm 54 52,zi 55 1 50 52,zl 56 1 55,zm 16 54,zm 17 56]) (zs (zr [zm 57 17]) (.cond (.t 57) (zr [zm 58 15,zm 59 16,zc2 60 121 58 59]) .skip)))) (zr [zp 61 52,zm 52 61]))))))) (zs (zr [zk 18 0]) (zs (zs (zr [zm 63 15,zc1 64 122 63,zm 62 64,ze 65 0 62,ze 66 1 62,zm 19 65,zm 20 66]) (.block 4 (.loop (zs (zs (zr [zm 67 20]) (.cond (.t 67) .skip (.exit 4))) (zs (.block 5 (zs (zr [zm 73 18,zp 74 73,zm 18 74]) (zs (zr [zm 75 2,zm 76 19,zi 77 2 75 76,zL 78 2 77,⟨some 21,.sk (.alloc [z,.nilsl]) [],none⟩,zw 2 21 78]) (zs (zr [zm 79 2,zm 80 19,zm 81 3,zm 82 19,zm 83 2,⟨some 84,.callV (.t 81) [.t 82,.t 83],none⟩,zi 85 2 79 80,zw 2 85 84]) (zs (zs (.region true [zm 86 4,zL 87 2 21,zm 88 2,zm 89 19,zi 90 2 88 89,zL 91 2 90,⟨some 92,.callV (.t 86) [.t 87,.t 91],none⟩] [[],[],[],[],[2,3],[4],[0,1,5]]) (.cond (.t 92) (.exit 5) .skip)) (zs (zr [zm 93 11,zm 94 19,zi 95 1 93 94,zl 96 1 95,zn 97 96,zk 98 0]) (.block 6 (.loop (zs (zr [zt 99 98 97]) (zs (.cond (.t 99) .skip (.exit 6)) (zs (.block 7 (zs (zr [zi 100 1 96 98,zl 101 1 100,zm 23 101]) (zs (zr [zm 102 12,zm 103 23,zi 104 1 102 103,zl 105 1 104]) (.cond (.t 105) (zr [zm 106 15,zm 107 23,zc2 108 121 106 107]) .skip)))) (zr [zp 109 98,zm 98 109])))))))))))) (zr [zm 69 15,zc1 70 122 69,zm 68 70,ze 71 0 68,ze 72 1 68,zm 19 71,zm 20 72])))))) (zs (zr [zm 110 18,zm 10 110]) .ret))))))))
structure El (α:Type) where
 c1:α->AV
 c2:α->AV
 o1:∀a,(c1 a).one=true
 o2:∀a,(c2 a).one=true
 s1:∀a,(c1 a).stab=true
 s2:∀a,(c2 a).stab=true
 d1:∀a,(c1 a).solid=true
 d2:∀a,(c2 a).solid=true
def El.e {α:Type} (E:El α) (a:α):List AV:=[E.c1 a,E.c2 a]
section
variable {α:Type} {E:El α} {Y:Sys α}
structure GRun (Y:Sys α) (E:El α) (o ib B:Nat) (x:List α) (h:List Nat) (t:Option Nat) (S0 S:St) (W:Nat):Prop where
 ex:∃ ord A I H ho ov,Wo Y.n ord S W A I H ho ov h/\B<=A/\B<=I/\B<=H/\B<=ho/\Y.Mid x (fun j=>todo ord h j \/ t=some j)/\(t=none->∀j,¬ todo ord h j)
 ti:∀i,t=some i->i < Y.n
 row:S.obj o=some (.row 2 (els E.e x))
 inn:S.obj ib=some (.row 1 (els boolc (List.replicate Y.n true)))
 lt:o < ib/\ib < B/\B<=S.next/\B<=W
 keep:∀q,q < ib->q ≠ o->S.obj q=S0.obj q
def GPut (Y:Sys α) (E:El α) (o ib B:Nat) (x:List α) (ord:List Nat) (W A I H:Nat) (ov:AV) (D:Nat->Nat->Prop) (a:Nat) (S0 S:St):Prop:=∃ ho h,Wo Y.n ord S W A I H ho ov h/\B<=ho/\(∀j,todo ord h j ↔ D a j)/\S.obj o=some (.row 2 (els E.e x)) /\
 S.obj ib=some (.row 1 (els boolc (List.replicate Y.n true)))/\B<=S.next/\∀q,q < ib->q ≠ o->S.obj q=S0.obj q
theorem xEo {o ib B:Nat} {I H ho ho':Nat} {S0 S S':St} (hf:WoF S S' I H ho) (hho:ho'=ho \/ S.next<=ho') (hB:o < ib/\ib < B/\B<=S.next) (hI:B<=I) (hH:B<=H) (hh:B<=ho) (keep:∀q,q < ib->q ≠ o->S.obj q=S0.obj q) :
  S'.obj o=S.obj o/\S'.obj ib=S.obj ib/\B<=ho'/\(∀q,q < ib->q ≠ o->S'.obj q=S0.obj q):=by
 have hq:∀q,q < B->S'.obj q=S.obj q:=fun q hq=>hf.2 q (by omega) (by omega) (by omega) (by omega)
 exact ⟨hq o (by omega),hq ib (by omega),by omega,fun q h1 h2=>by rw [hq q (by omega)];exact keep q h1 h2⟩
structure GEv (g:Glob) (Y:Sys α) (E:El α) (evV:AV) (fs:Nat) (o:Nat) (S0:St):Prop where
 ev:∀(S:St) (x:List α) (i:Nat) (K:AV->St->Prop),Y.Fit x->i < Y.n->S0.next<=S.next->S.obj o=some (.row 2 (els E.e x))->(∀q,q < S0.next->q ≠ o->S.obj q=S0.obj q)->(∀S',Up S S'->K (.agg (E.e (Y.ev x i))) S')->CalV P g evV [.int .i64 (i:Int),.sl 2 o 0 Y.n] S K
 same:∀a b,Y.ok a->Y.ok b->∃ t:Bool,(t=true ↔ a=b)/\Ret P g false fs [.agg (E.e a),.agg (E.e b)] (.bool t)
end
end Go.Proofs.YtnhfofmhkfdpgaaGreatDoor.Vm
namespace Go.Proofs.YtnhfofmhkfdpgaaGreatDoor.Vm
set_option maxRecDepth 100000
open Go Go.RowKit
variable {N:Nat} {g:Glob}
def Fun.outs (f:Fun) (k:Nat):List Int:=(f.blks[k]?.map Blk.out).getD []
def Fun.code (f:Fun) (k:Nat):List Ins:=(f.blks[k]?.map Blk.ins).getD []
def Fun.predsTo (f:Fun) (b:Int) (k:Nat):List Int:=((List.range k).filter fun j=>decide (b ∈ f.outs j)).map fun j:Nat=>(j:Int)
def Fun.preds (f:Fun) (b:Int):List Int:=f.predsTo b f.blks.length
theorem Fun.predsTo_succ {f:Fun} {b:Int} {k:Nat} {x:Blk} (hx:f.blks[k]?=some x):f.predsTo b (k + 1)=f.predsTo b k ++ if b ∈ x.out then [(k:Int)] else []:=by
 have e:f.outs k=x.out:=by simp [Fun.outs,hx]
 unfold Fun.predsTo
 rw [List.range_succ,List.filter_append,List.map_append]
 congr 1
 by_cases h:b ∈ x.out <;> simp [e,h]
theorem Fun.predsTo_len (f:Fun) (b:Int) (k:Nat):(f.predsTo b k).length<=k:=by
 unfold Fun.predsTo
 have:=List.length_filter_le (fun j=>decide (b ∈ f.outs j)) (List.range k)
 simpa using this
theorem Fun.preds_mem {f:Fun} {b j:Int}:j ∈ f.preds b ↔ ∃ k x,j=((k:Nat):Int)/\f.blks[k]?=some x/\b ∈ x.out:=by
 unfold Fun.preds Fun.predsTo
 simp only [List.mem_map,List.mem_filter,List.mem_range,decide_eq_true_eq]
 constructor
 ·rintro ⟨k,⟨hk,hb⟩,rfl⟩
  refine ⟨k,f.blks[k],rfl,xgG hk,?_⟩
  simpa [Fun.outs,xgG hk] using hb
 ·rintro ⟨k,x,rfl,hx,hb⟩
  exact ⟨k,⟨(xgS hx).1,by simpa [Fun.outs,hx] using hb⟩,rfl⟩
noncomputable def Prg.preds (p:Prg) (i b:Int):List Int:=((p.fn i).getD Fun.none).preds b
theorem xET (p:Prg) (i b:Int) (hp:p.Fit):OwnL P (gl N) intc 1 19 [encP p,.int .i64 i,.int .i64 b] (p.preds i b):=by
 refine OwnL.in (cF0 (by kernel_rfl)) (nF (by kernel_rfl)) (vO ?_)
 conv=>arg 3;reduce
 simp
 refine (xEf p i hp).use (n:=9) (by simp [mapOpt,xAc p.funsS.stab]) (by simp [solids,AV.solid,p.funsS.solid]) ?_
 have hsm:((p.fn i).getD Fun.none).Small:=by
  cases h:p.fn i with
  | none=>exact ⟨by simp,fun b hb=>by simp at hb,fun b hb=>by simp at hb⟩
  | some f=>exact xJr hp h
 have h12:((p.fn i).getD Fun.none).blks.length<=12:=by
  cases h:p.fn i with
  | none=>simp
  | some f=>exact (xOY h).len.2
 have hpr:p.preds i b=((p.fn i).getD Fun.none).preds b:=rfl
 rw [hpr]
 generalize (p.fn i).getD Fun.none=f at *
 simp
 refine W.whileI (fun (k:Nat) F S=>k<=f.blks.length/\F 2=.int .i64 b/\F 19=f.blksV/\F 20=.int .i64 f.blks.length/\F 21=.int .i64 k/\Has intc 1 S (F 9) (f.predsTo b k)/\Bel S (F 9)) (fun k=>f.blks.length - k) ?_ 0 _ _ ?_
 ·rintro k F S ⟨hk,h2,h19,h20,h21,h9,hb9⟩
  by_cases hlt:k < f.blks.length
  ·obtain ⟨y,hy⟩:∃ y,f.blks[k]?=some y:=⟨_,xgG hlt⟩
   have hbl:=hsm.blks
   have e4:=wrapS k (by omega)
   have hst:=Fun.predsTo_succ (b:=b) hy
   have hpl:=f.predsTo_len b k
   have hol:y.out.length < 2 ^ 40:=by have:=hsm.out y (xmG hy);omega
   simp [h20,h21,hlt]
   simp [h19,h21,f.blksS.idx hy,h2]
   refine (xBl (g:=gl N) y.out b y.outV y.outS hol).use (n:=9) (by simp [mapOpt]) rfl ?_
   generalize hS1:(S.new (.row 3 [[.bool false,.nilsl,.nilsl]])).set S.next (.row 3 [[.bool y.on,y.insV,y.outV]])=S1
   have hn1:S1.next=S.next + 1:=by rw [<- hS1];simp
   have h91:Has intc 1 S1 (F 9) (f.predsTo b k):=h9.keep fun q ⟨len,hq⟩=>by
    have:=hb9 _ _ _ hq
    rw [<- hS1];simp [show ¬ q=S.next by omega]
   have hb1:Bel S1 (F 9):=hb9.mono (by omega)
   clear hS1
   by_cases hm:b ∈ y.out
   ·simp [hm] at hst ⊢
    refine xA7 (e:=intc) (x:=(k:Int)) (h91.new hb1) rfl (by simp [room];omega) ?_
    intro S' hS hnx hoth
    simp [h2,h19,h20,h21,e4]
    exact ⟨k + 1,by omega,by omega,by omega,by rw [hst];simpa using hS,Bel.sl (by rw [hnx];exact Nat.lt_succ_self _)⟩
   ·simp [hm] at hst ⊢
    simp [h2,h19,h20,h21,e4]
    exact ⟨k + 1,by omega,by omega,by omega,by rw [hst];exact h91,hb1⟩
  ·have:k=f.blks.length:=by omega
   subst this
   simp [h20,h21]
   exact h9
 ·simp
  exact ⟨.nil,Bel.nil⟩
def Fun.start (f:Fun):Env:=some (startL f.par f.vars)
def Fun.cevTo (f:Fun) (x:List Env) (i:Nat) (m:List Int):Env:=m.foldl (fun e j=>e.join (pastL (x.getD j.toNat Option.none) (f.code j.toNat))) (if i=0 then f.start else Option.none)
def Fun.cev (f:Fun) (x:List Env) (i:Nat):Env:=f.cevTo x i (f.preds i)
theorem xLZ {n:Nat} {h:Int->Env} (hh:∀j,(h j).fit n) (m:List Int):∀{e:Env},e.fit n->(m.foldl (fun e j=>e.join (h j)) e).fit n:=by
 induction m with
 | nil=>intro e he;exact he
 | cons j m ih=>intro e he;exact ih (Env.join_fit he (hh j))
theorem xO3 {n:Nat} {h h':Int->Env} (hh:∀j,(h j).fit n) (hh':∀j,(h' j).fit n) (hle:∀j,(h j).le (h' j)) (m:List Int):∀{e e':Env},e.fit n->e'.fit n->e.le e'->(m.foldl (fun e j=>e.join (h j)) e).le (m.foldl (fun e j=>e.join (h' j)) e'):=by
 induction m with
 | nil=>intro e e' _ _ hee;exact hee
 | cons j m ih=>intro e e' he he' hee;exact ih (Env.join_fit he (hh j)) (Env.join_fit he' (hh' j)) (Env.join_mono he (hh j) he' (hh' j) hee (hle j))
theorem xGz {h h':Int->Env}:∀(m:List Int) (e:Env),(∀j ∈ m,h j=h' j)->m.foldl (fun e j=>e.join (h j)) e=m.foldl (fun e j=>e.join (h' j)) e
 | [],e,_=>rfl
 | j :: m,e,hm=>by
  rw [List.foldl_cons,List.foldl_cons,hm j (by simp)]
  exact xGz m _ fun k hk=>hm k (by simp [hk])
def Fun.wid (f:Fun):Nat:=capN f.vars
theorem Fun.start_fit (f:Fun):f.start.fit f.wid:=Env.fit_some (xES _ _) (xJL _ _)
theorem xGA {n:Nat} {x:List Env} (h:∀e ∈ x,Env.fit n e) (k:Nat):(x.getD k Option.none).fit n:=by
 rw [List.getD_eq_getElem?_getD]
 cases hx:x[k]? with
 | none=>exact Env.fit_none n
 | some e=>exact h e (xmG hx)
theorem Fun.cev_first (f:Fun) (i:Nat):(if i=0 then f.start else Option.none:Env).fit f.wid:=by
 split
 ·exact f.start_fit
 ·exact Env.fit_none _
theorem Fun.cevTo_fit (f:Fun) {x:List Env} (h:∀e ∈ x,Env.fit f.wid e) (i:Nat) (m:List Int):(f.cevTo x i m).fit f.wid :=
 xLZ (fun j=>xBN (xGA h _)) _ (f.cev_first i)
theorem Fun.cev_fit (f:Fun) {x:List Env} (h:∀e ∈ x,Env.fit f.wid e) (i:Nat):(f.cev x i).fit f.wid:=f.cevTo_fit h i _
theorem xS4 {n:Nat} {x y:List Env} (hl:x.length=y.length) (h:∀(k:Nat) a b,x[k]?=some a->y[k]?=some b->Env.le a b) (k:Nat):(x.getD k Option.none).le (y.getD k Option.none):=by
 rw [List.getD_eq_getElem?_getD,List.getD_eq_getElem?_getD]
 by_cases hk:k < x.length
 ·obtain ⟨a,ha⟩:∃ v,x[k]?=some v:=⟨_,xgG hk⟩
  obtain ⟨b,hb⟩:∃ v,y[k]?=some v:=⟨_,xgG (by omega)⟩
  rw [ha,hb];exact h k a b ha hb
 ·rw [List.getElem?_eq_none (by omega)];exact Env.le_none _
def Fun.csys (f:Fun):Sys Env where
 n:=f.blks.length
 ev:=f.cev
 rd i:=f.preds i
 ok:=Env.fit f.wid
 le:=Env.le
 bot:=Option.none
 ht:=Env.ht
 top:=1 + 2 * f.wid
 refl a _:=Env.le_refl a
 trans a b c ha hb hc h1 h2:=Env.le_trans hb hc h1 h2 ha
 anti a b ha hb h1 h2:=Env.le_anti ha hb h1 h2
 botOk:=Env.fit_none _
 botLe a _:=Env.le_none a
 htop a ha:=by
  cases a with
  | none=>simp [Env.ht]
  | some l =>
   have h1:=htL (ha l rfl).2 (ha l rfl).2 rfl (fun k a b h1 h2=>by rw [h1] at h2;cases h2;exact Val.le_refl a)
   have h2:=(ha l rfl).1
   simp only [Env.ht]
   omega
 hlt a b ha hb hle hne:=by
  cases a with
  | none =>
   cases b with
   | none=>exact absurd rfl hne
   | some m=>simp only [Env.ht];omega
  | some l =>
   obtain ⟨m,hm,h3⟩:=hle l rfl
   subst hm
   have h1:=htL (ha l rfl).2 (hb m rfl).2 (by rw [(ha l rfl).1,(hb m rfl).1]) h3
   have h2:=h1.2.1 fun e=>hne (by rw [e])
   simp only [Env.ht]
   omega
 evOk x i _ hx _:=f.cev_fit hx i
 mono x y i hx hy hxo hyo hle _:=xO3 (fun j=>xBN (xGA hxo _)) (fun j=>xBN (xGA hyo _)) (fun j=>xNb (xGA hxo _) (xGA hyo _) (xS4 (n:=f.wid) (by rw [hx,hy]) hle _)) _ (f.cev_first i) (f.cev_first i) (Env.le_refl _)
 dep x i k a hno:=xGz _ _ fun j hj=>by
  rw [List.getD_eq_getElem?_getD,List.getD_eq_getElem?_getD,List.getElem?_set_ne (Ne.symm (hno j hj))]
 nn i j hj:=by
  obtain ⟨k,_,rfl,_⟩:=Fun.preds_mem.1 hj
  exact Int.natCast_nonneg k
noncomputable def Fun.cin (f:Fun):List Env:=f.csys.sol
theorem Fun.cin_least (f:Fun):f.csys.Least f.cin:=f.csys.least
theorem Fun.cin_len (f:Fun):f.cin.length=f.blks.length:=f.cin_least.fit.len
theorem Fun.cin_fit (f:Fun) (k:Nat):(f.cin.getD k Option.none).fit f.wid:=xGA f.cin_least.fit.ok k
theorem Fun.wid_lt (f:Fun):f.wid < 2 ^ 20:=by unfold Fun.wid capN;omega
def envEl:El Env where
 c1 e:=.bool e.isSome
 c2 e:=match e with
  | none=>.nilsl
  | some l=>.fsl 2 (els valc l)
 o1 e:=rfl
 o2 e:=by cases e <;> rfl
 s1 e:=rfl
 s2 e:=by cases e <;> rfl
 d1 e:=rfl
 d2 e:=by cases e <;> rfl
theorem xIx (e:Env):envEl.e e=envc e:=by cases e <;> rfl
theorem xJM (x:List Env):els envEl.e x=els envc x:=by
 unfold els
 exact List.map_congr_left fun e _=>xIx e
inductive Rch (G:List (List Int)) (a0:Nat):Nat->Prop
 | base:Rch G a0 a0
 | step {a b:Nat} {l:List Int} (h:Rch G a0 a) (hl:G[a]?=some l) (hb:(b:Int) ∈ l):Rch G a0 b
structure Wlk (G:List (List Int)) (a0:Nat) (T:List Nat) (met:List Bool) (way:List (Nat × Nat)):Prop where
 m:∀x:Nat,met[x]?=some true ↔ x ∈ T \/ ∃ nx,(x,nx) ∈ way
 r:∀x:Nat,met[x]?=some true->Rch G a0 x
 c:∀x ∈ T,∀l,G[x]?=some l->∀b:Nat,(b:Int) ∈ l->met[b]?=some true
 w:∀a nx,(a,nx) ∈ way->∀l,G[a]?=some l->∀k,k < nx->∀b:Nat,l[k]?=some (b:Int)->met[b]?=some true
 z:met[a0]?=some true
theorem xCk {met:List Bool} {b x:Nat} (hb:met[b]?=some false):(met.set b true)[x]?=some true ↔ met[x]?=some true \/ x=b:=by
 have hl:=(xgS hb).1
 by_cases h:x=b
 ·subst h;simp [hl]
 ·rw [List.getElem?_set_ne (Ne.symm h)];simp [h]
theorem Wlk.start {G:List (List Int)} {a0:Nat} (h:a0 < G.length):Wlk G a0 [] ((List.replicate G.length false).set a0 true) [(a0,0)]:=by
 have hf:(List.replicate G.length false)[a0]?=some false:=by simp [h]
 have hn:∀x:Nat,¬ (List.replicate G.length false)[x]?=some true:=fun x hx=>by
  have:=xmG hx
  rw [List.mem_replicate] at this
  cases this.2
 refine ⟨fun x=>?_,fun x hx=>?_,fun x hx=>by (cases hx),fun a nx ha l hl k hk=>?_,?_⟩
 ·rw [xCk hf];simp [hn x]
 ·rw [xCk hf] at hx
  rcases hx with hx | rfl
  ·exact absurd hx (hn x)
  ·exact .base
 ·simp at ha;omega
 ·rw [xCk hf];exact .inr rfl
theorem Wlk.next {G:List (List Int)} {a0 a nx b:Nat} {T:List Nat} {met:List Bool} {pre:List (Nat × Nat)} {l:List Int} (h:Wlk G a0 T met (pre ++ [(a,nx)])) (hl:G[a]?=some l) (hx:l[nx]?=some (b:Int)) (hb:met[b]?=some true):Wlk G a0 T met (pre ++ [(a,nx + 1)]):=by
 refine ⟨fun x=>?_,h.r,h.c,fun a' nx' ha' l' hl' k hk c hc=>?_,h.z⟩
 ·rw [h.m x]
  constructor
  ·rintro (h1 | ⟨n,h1⟩)
   ·exact .inl h1
   ·rcases List.mem_append.1 h1 with h1 | h1
    ·exact .inr ⟨n,List.mem_append_left _ h1⟩
    ·simp at h1;exact .inr ⟨nx + 1,by simp [h1.1]⟩
  ·rintro (h1 | ⟨n,h1⟩)
   ·exact .inl h1
   ·rcases List.mem_append.1 h1 with h1 | h1
    ·exact .inr ⟨n,List.mem_append_left _ h1⟩
    ·simp at h1;exact .inr ⟨nx,by simp [h1.1]⟩
 ·rcases List.mem_append.1 ha' with h1 | h1
  ·exact h.w a' nx' (List.mem_append_left _ h1) l' hl' k hk c hc
  ·simp at h1
   obtain ⟨rfl,rfl⟩:=h1
   rw [hl] at hl';cases hl'
   by_cases hkn:k=nx
   ·subst hkn
    rw [hx] at hc
    have:b=c:=by simp at hc;omega
    rw [<- this];exact hb
   ·exact h.w a' nx (by simp) l hl k (by omega) c hc
noncomputable def marks (n:Nat) (T:Nat->Prop):List Bool:=open Classical in (List.range n).map fun x=>decide (T x)
def Blk.gout (b:Blk):List Int:=if b.on=true then b.out else []
def Blk.gvB (b:Blk):AV:=if b.on=true then b.outV else .nilsl
theorem Blk.gS (b:Blk):FSl intc 1 b.gvB b.gout:=by
 unfold Blk.gvB Blk.gout
 split
 ·exact b.outS
 ·exact .inr ⟨rfl,rfl⟩
def Fun.gv (f:Fun) (j:Nat):AV:=match f.blks[j]? with | some b=>b.gvB | none=>.nilsl
def Fun.gout (f:Fun):List (List Int):=f.blks.map Blk.gout
end Go.Proofs.YtnhfofmhkfdpgaaGreatDoor.Vm
namespace Go.Proofs.YtnhfofmhkfdpgaaGreatDoor.Vm
open Go Go.RowKit
set_option maxRecDepth 100000
variable {N:Nat} {g:Glob}
structure SFam (nf:Nat->Nat):Prop where
 c0:Fun' P (nf 0) 53 [] (sk0 nf)
 c1:Fun' P (nf 1) 18 [(.tmp 8)] (sk1 nf)
 c2:Fun' P (nf 2) 41 [(.tmp 12)] (sk2 nf)
 c3:Fun' P (nf 3) 34 [] (sk3 nf)
 c4:Fun' P (nf 4) 178 [(.tmp 10),(.tmp 11)] (sk4 nf)
 c5:Fun' P (nf 5) 90 [(.tmp 10)] (sk5 nf)
 c6:Fun' P (nf 6) 82 [] (sk6 nf)
 c7:Fun' P (nf 7) 60 [] (sk7 nf)
 c8:Fun' P (nf 8) 67 [] (sk8 nf)
 c9:Fun' P (nf 9) 63 [(.tmp 8),(.tmp 9)] (sk9 nf)
 c10:Fun' P (nf 10) 148 [] (sk10 nf)
 c11:Fun' P (nf 11) 141 [(.tmp 8)] (sk11 nf)
 c12:Fun' P (nf 12) 32 [(.tmp 10),(.tmp 11)] (sk12 nf)
 c13:Fun' P (nf 13) 14 [] (sk13 nf)
theorem famI:SFam nI:=⟨c254,c274,c275,c258,c261,c260,c273,c255,c256,c257,c231,c259,c283,c176⟩
theorem famR:SFam nR:=⟨c287,c296,c297,c291,c294,c293,c295,c288,c289,c290,c282,c292,c298,c271⟩
def Srt {α:Type} (c:α->AV) (S:St) (o:Nat) (l:List α) (S':St):Prop:=Keeps (·=o) S S'/\S'.obj o=some (.row 1 (els (cel c) l))
structure Cmp {α:Type} (g:Glob) (c:α->AV) (f:Nat) (cap:List AV) (L:List α) (o:Nat) (S:St) (cm:α->α->Int):Prop where
 one:∀x,(c x).one=true
 lt:o < S.next
 len:L.length < 2 ^ 40
 cal:∀a ∈ L,∀b ∈ L,∀(l':List α) (S':St),Srt c S o l' S'->Cal P g f ([c a,c b] ++ cap) S' (fun v S''=>v=.int .i64 (cm a b)/\S''=S')
section
variable {α:Type} {c:α->AV} {f:Nat} {cap:List AV} {L:List α} {o:Nat} {S:St} {cm:α->α->Int}
theorem Srt.put {l l':List α} {S':St} (h:Srt c S o l S'):Srt c S o l' (S'.set o (.row 1 (els (cel c) l'))):=by
 refine ⟨⟨by simpa using h.1.1,fun a ha hn=>?_⟩,by simp⟩
 rw [xKK,if_neg hn]
 exact h.1.2 a ha hn
theorem Srt.new {l:List α} {S':St} (h:Srt c S o l S') (hC:Cmp g c f cap L o S cm) (x:AObj):Srt c S o l (S'.new x):=by
 have hlt:=hC.lt
 have hn:=h.1.1
 refine ⟨⟨by simp;omega,fun a ha hn2=>?_⟩,?_⟩
 ·simp [show ¬ a=S'.next by omega]
  exact h.1.2 a ha hn2
 ·simp [show ¬ o=S'.next by omega]
  exact h.2
theorem Srt.set {l:List α} {S':St} (h:Srt c S o l S') {q:Nat} (hq:S.next<=q) (hC:Cmp g c f cap L o S cm) (x:AObj):Srt c S o l (S'.set q x):=by
 have hlt:=hC.lt
 refine ⟨⟨by simpa using h.1.1,fun a ha hn2=>?_⟩,?_⟩
 ·simp [show ¬ a=q by omega]
  exact h.1.2 a ha hn2
 ·simp [show ¬ o=q by omega]
  exact h.2
theorem Cmp.cells (hC:Cmp g c f cap L o S cm) (x:α):(c x).cells=[c x]:=xDb (hC.one x)
theorem xQ4 {nf:Nat->Nat} (H:SFam nf) (hC:Cmp g c f cap L o S cm) {a b:Nat} (hab:a<=b) (hb:b<=L.length) {l:List α} {S1:St} {K:AV->St->Prop} (hl:l.Perm L) (hS:Srt c S o l S1)
  (hk:∀l' S',l'.Perm L->Srt c S o l' S'->K (.tuple []) S'):Cal P g (nf 0) [.sl 1 o 0 L.length,.int .i64 (a:Int),.int .i64 (b:Int),.func (.func f) [] cap] S1 K:=by
 refine H.c0.in (by simp) ?_
 have hc1:=hC.one
 have hcc:=hC.cells
 have hlen:=hC.len
 have e1:=wrapS a (by omega)
 simp [sk0,e1]
 refine W.whileI (fun (i:Nat) F S'=>a + 1<=i/\i<=b + 1/\F 0=.sl 1 o 0 L.length/\F 1=.int .i64 a/\F 2=.int .i64 b/\F 3=.func (.func f) [] cap/\F 8=.int .i64 i/\∃ l':List α,l'.Perm L/\Srt c S o l' S') (fun i=>b + 1 - i) ?_ (a + 1) _ _ ?_
 ·rintro i F S' ⟨hi1,hi2,h0,h1,h2,h3,h8,l',hp,hs⟩
  by_cases hlt:i < b
  ·have e4:=wrapS i (by omega)
   simp [h2,h8,hlt]
   refine W.whileI (fun (j:Nat) F S'=>a<=j/\j<=i/\F 0=.sl 1 o 0 L.length/\F 1=.int .i64 a/\F 2=.int .i64 b/\F 3=.func (.func f) [] cap/\F 8=.int .i64 i/\F 9=.int .i64 j/\∃ l':List α,l'.Perm L/\Srt c S o l' S') (fun j=>j) ?_ i _ _ ?_
   ·clear h0 h1 h2 h3 h8 hp hs l'
    rintro j F S' ⟨hja,hj,h0,h1,h2,h3,h8,h9,l',hp,hs⟩
    have hpl:=hp.length_eq
    by_cases hj0:a < j
    ·have hjl:j < L.length:=by omega
     have hjl1:j - 1 < L.length:=by omega
     have e5:IntKind.i64.wrap ((j:Int) - 1)=((j - 1:Nat):Int):=by rw [xAa (by omega)];omega
     obtain ⟨x,hx⟩:∃ x,l'[j]?=some x:=⟨_,xgG (by omega)⟩
     obtain ⟨y,hy⟩:∃ y,l'[j - 1]?=some y:=⟨_,xgG (by omega)⟩
     have hxm:x ∈ L:=hp.mem_iff.1 (xmG hx)
     have hym:y ∈ L:=hp.mem_iff.1 (xmG hy)
     have ho:=hs.2
     simp
     refine Dra.auto [14] mix ?_ ?_
     ·kernel_rfl
     simp [classes,h0,h1,h3,h9,hj0,e5,xAd hjl,xAd hjl1,hx,hy,cel,ho]
     refine ⟨_,_,hC.cal x hxm y hym l' S' hs,?_⟩
     simp
     by_cases hc:cm x y < 0
     ·simp [hc]
      refine Dra.auto [] mix ?_ ?_
      ·kernel_rfl
      simp [classes,h0,h1,h3,h9,hj0,e5,xAd hjl,xAd hjl1,hx,hy,cel,hc1,hcc,ho,show ¬ j=j - 1 by omega]
      refine ⟨j - 1,by omega,by omega,by omega,h2,h8,rfl,(l'.set j y).set (j - 1) x,(xAn hx hy).trans hp,?_⟩
      have:=hs.put (l':=(l'.set j y).set (j - 1) x)
      rw [<- xAg,<- xAg] at this
      rw [xAk]
      exact this
     ·simp [hc,h8,e4,h0,h1,h2,h3]
      exact ⟨i + 1,by omega,by omega,by omega,by omega,l',hp,hs⟩
    ·simp
     refine Dra.auto [14] mix ?_ ?_
     ·kernel_rfl
     simp [classes,h1,h9,h8,e4,hj0]
     exact ⟨i + 1,by omega,by omega,by omega,h0,h2,h3,by omega,l',hp,hs⟩
   ·simp [h0,h1,h2,h3,h8]
    exact ⟨by omega,l',hp,hs⟩
  ·simp [h2,h8,hlt]
   exact hk l' S' hp hs
 ·simp
  exact ⟨by omega,l,hl,hS⟩
theorem xO6 {nf:Nat->Nat} (H:SFam nf) (hC:Cmp g c f cap L o S cm) {a b:Nat} (hab:a < b) (hb:b<=L.length) {l:List α} {S1:St} {K:AV->St->Prop} (hl:l.Perm L) (hS:Srt c S o l S1)
  (hk:∀l' S',l'.Perm L->Srt c S o l' S'->K (.tuple []) S'):Cal P g (nf 3) [.sl 1 o 0 L.length,.int .i64 (a:Int),.int .i64 (b:Int),.func (.func f) [] cap] S1 K:=by
 refine H.c3.in (by simp) ?_
 have hc1:=hC.one
 have hcc:=hC.cells
 have hlen:=hC.len
 have e1:IntKind.i64.wrap ((b:Int) - 1)=((b - 1:Nat):Int):=by rw [xAa (by omega)];omega
 simp [sk3,e1]
 refine W.whileI (fun (z:Nat) F S'=>∃ i j:Nat,z=j + 1 - i/\a<=i/\j < b/\F 0=.sl 1 o 0 L.length/\F 8=.int .i64 i/\F 9=.int .i64 j/\∃ l':List α,l'.Perm L/\Srt c S o l' S') (fun z=>z) ?_ (b - a) _ _ ?_
 ·rintro z F S' ⟨i,j,rfl,hi,hj,h0,h8,h9,l',hp,hs⟩
  have hpl:=hp.length_eq
  by_cases hlt:i < j
  ·have e4:=wrapS i (by omega)
   have e5:IntKind.i64.wrap ((j:Int) - 1)=((j - 1:Nat):Int):=by rw [xAa (by omega)];omega
   have hil:i < L.length:=by omega
   have hjl:j < L.length:=by omega
   obtain ⟨x,hx⟩:∃ x,l'[i]?=some x:=⟨_,xgG (by omega)⟩
   obtain ⟨y,hy⟩:∃ y,l'[j]?=some y:=⟨_,xgG (by omega)⟩
   have ho:=hs.2
   simp [h8,h9,hlt]
   refine Dra.auto [] mix ?_ ?_
   ·kernel_rfl
   simp [classes,h0,h8,h9,xAd hil,xAd hjl,hx,hy,cel,hc1,hcc,ho,e4,e5,show ¬ i=j by omega]
   refine ⟨j - 1 + 1 - (i + 1),by omega,i + 1,j - 1,rfl,by omega,by omega,by omega,by omega,(l'.set i y).set j x,(xAn hx hy).trans hp,?_⟩
   have:=hs.put (l':=(l'.set i y).set j x)
   rw [<- xAg,<- xAg] at this
   rw [xAk]
   exact this
  ·simp [h8,h9,hlt]
   exact hk l' S' hp hs
 ·simp
  exact ⟨a,b - 1,by omega,by omega,by omega,rfl,by omega,l,hl,hS⟩
theorem xIy {nf:Nat->Nat} (H:SFam nf) (hC:Cmp g c f cap L o S cm) {a b q:Nat} {n:Int} (ha:a < L.length) (hb:b < L.length) {l:List α} {S1:St} {K:AV->St->Prop} (hl:l.Perm L) (hS:Srt c S o l S1) (hq:S.next<=q) (hqo:S1.obj q=some (.row 1 [[.int .i64 n]]))
  (hk:∀(S':St) (a' b':Nat) (n':Int),a' < L.length->b' < L.length->(a'=a \/ a'=b)->(b'=a \/ b'=b)->Srt c S o l S'->S'.obj q=some (.row 1 [[.int .i64 n']])->S'.next=S1.next->K (.tuple [.int .i64 (a':Int),.int .i64 (b':Int)]) S') :
  Cal P g (nf 12) [.sl 1 o 0 L.length,.int .i64 (a:Int),.int .i64 (b:Int),.ptr q 0 0,.func (.func f) [] cap] S1 K:=by
 refine H.c12.in (by simp) ?_
 have hpl:=hl.length_eq
 have ho:=hS.2
 obtain ⟨x,hx⟩:∃ x,l[a]?=some x:=⟨_,xgG (by omega)⟩
 obtain ⟨y,hy⟩:∃ y,l[b]?=some y:=⟨_,xgG (by omega)⟩
 have hxm:x ∈ L:=hl.mem_iff.1 (xmG hx)
 have hym:y ∈ L:=hl.mem_iff.1 (xmG hy)
 simp [sk12]
 refine Dra.auto [9] mix ?_ ?_
 ·kernel_rfl
 simp [classes,xAd ha,xAd hb,hx,hy,cel,ho]
 refine ⟨_,_,hC.cal y hym x hxm l S1 hS,?_⟩
 simp
 by_cases hc:cm y x < 0
 ·simp [hc,hqo]
  exact hk _ b a (IntKind.i64.wrap (n + 1)) hb ha (.inr rfl) (.inl rfl) (hS.set hq hC _) (by simp) (by simp)
 ·simp [hc]
  exact hk _ a b n ha hb (.inl rfl) (.inr rfl) hS hqo rfl
theorem xIz {nf:Nat->Nat} (H:SFam nf) (hC:Cmp g c f cap L o S cm) {a b d q:Nat} {n:Int} (ha:a < L.length) (hb:b < L.length) (hd:d < L.length) {l:List α} {S1:St} {K:AV->St->Prop} (hl:l.Perm L) (hS:Srt c S o l S1) (hq:S.next<=q) (hqo:S1.obj q=some (.row 1 [[.int .i64 n]]))
  (hk:∀(S':St) (m:Nat) (n':Int),m < L.length->(m=a \/ m=b \/ m=d)->Srt c S o l S'->S'.obj q=some (.row 1 [[.int .i64 n']])->S'.next=S1.next->K (.int .i64 (m:Int)) S') :
  Cal P g (nf 2) [.sl 1 o 0 L.length,.int .i64 (a:Int),.int .i64 (b:Int),.int .i64 (d:Int),.ptr q 0 0,.func (.func f) [] cap] S1 K:=by
 refine H.c2.in (by simp) ?_
 simp [sk2]
 refine xIy H hC ha hb hl hS hq hqo fun S2 a2 b2 n2 ha2 hb2 ma mb hS2 hq2 hn2=>?_
 simp
 refine xIy H hC hb2 hd hl hS2 hq hq2 fun S3 b3 d3 n3 hb3 hd3 mb3 md3 hS3 hq3 hn3=>?_
 simp
 refine xIy H hC ha2 hb3 hl hS3 hq hq3 fun S4 a4 b4 n4 ha4 hb4 ma4 mb4 hS4 hq4 hn4=>?_
 simp
 exact hk S4 b4 n4 hb4 (by omega) hS4 hq4 (by omega)
theorem xEU {nf:Nat->Nat} (H:SFam nf) (hC:Cmp g c f cap L o S cm) {a q:Nat} {n:Int} (ha0:1<=a) (ha:a + 1 < L.length) {l:List α} {S1:St} {K:AV->St->Prop} (hl:l.Perm L) (hS:Srt c S o l S1) (hq:S.next<=q) (hqo:S1.obj q=some (.row 1 [[.int .i64 n]]))
  (hk:∀(S':St) (m:Nat) (n':Int),a - 1<=m->m<=a + 1->Srt c S o l S'->S'.obj q=some (.row 1 [[.int .i64 n']])->S'.next=S1.next->K (.int .i64 (m:Int)) S') :
  Cal P g (nf 1) [.sl 1 o 0 L.length,.int .i64 (a:Int),.ptr q 0 0,.func (.func f) [] cap] S1 K:=by
 refine H.c1.in (by simp) ?_
 have hlen:=hC.len
 have e1:IntKind.i64.wrap ((a:Int) - 1)=((a - 1:Nat):Int):=by rw [xAa (by omega)];omega
 have e2:=wrapS a (by omega)
 simp [sk1,e1,e2]
 refine xIz H hC (a:=a - 1) (b:=a) (d:=a + 1) (by omega) (by omega) ha hl hS hq hqo fun S2 m n2 hm hmm hS2 hq2 hn2=>?_
 simp
 exact hk S2 m n2 (by omega) (by omega) hS2 hq2 hn2
end
def onlyX (id:Nat) (R:AFrame->St->Prop):Res->Prop
 | .code (.exit k) F S=>k=id/\R F S
 | _=>False
@[simp] theorem xT6 {id k R F S}:onlyX id R (.code (.exit k) F S)=(k=id/\R F S):=_root_.id rfl
theorem W.cutL {P:Program} {c:VCode} {F:AFrame} {S:St} {Q:Res->Prop} (id:Nat) (R:AFrame->St->Prop) (h1:W P g (.code (.loop c) F S) (onlyX id R)) (h2:∀F S,R F S->Q (.code (.exit id) F S)):W P g (.code (.loop c) F S) Q :=
 W.mono h1 fun r h=>by
  cases r with
  | val v S=>exact h.elim
  | code e F S =>
   cases e with
   | normal=>exact h.elim
   | ret=>exact h.elim
   | exit k =>
    obtain ⟨rfl,h⟩:=h
    exact h2 F S h
section
variable {α:Type} {c:α->AV} {f:Nat} {cap:List AV} {L:List α} {o:Nat} {S:St} {cm:α->α->Int}
theorem Srt.swp {l:List α} {S':St} (h:Srt c S o l S') {i j:Nat} {x y:α}:Srt c S o ((l.set i y).set j x) (S'.set o (.row 1 (((els (cel c) l).set i [c y]).set j [c x]))):=by
 have:=h.put (l':=(l.set i y).set j x)
 rw [<- xAg,<- xAg] at this
 exact this
theorem xAV {l:List α} {a p:Nat} {y:α} (ha:a < l.length) (hy:l[p]?=some y):((els (cel c) l).set a [c y])[p]?=some [c y]:=by
 by_cases h:a=p
 ·subst h
  rw [List.getElem?_set_self (by simpa using ha)]
 ·rw [List.getElem?_set_ne h]
  simp [els,cel,hy]
structure Par (c:α->AV) (f:Nat) (cap:List AV) (L:List α) (o:Nat) (S:St) (a b k i j:Nat) (p q:Nat) (F:AFrame) (S':St):Prop where
 k:k<=i
 i1:a + 1<=i
 i2:i<=b
 j1:a<=j
 j2:j + 1<=b
 h0:F 0=.sl 1 o 0 L.length
 h1:F 1=.int .i64 a
 h4:F 4=.func (.func f) [] cap
 hi:F p=.int .i64 i
 hj:F q=.int .i64 j
 ex:∃ l',l'.Perm L/\Srt c S o l' S'
theorem xK3 {nf:Nat->Nat} (H:SFam nf) (hC:Cmp g c f cap L o S cm) {a b p:Nat} (hab:a < b) (hb:b<=L.length) (hp1:p < L.length) {l:List α} {S1:St} {K:AV->St->Prop} (hl:l.Perm L) (hS:Srt c S o l S1)
  (hk:∀l' S' (m:Nat) (t:Bool),a<=m->m < b->l'.Perm L->Srt c S o l' S'->K (.tuple [.int .i64 (m:Int),.bool t]) S'):Cal P g (nf 4) [.sl 1 o 0 L.length,.int .i64 (a:Int),.int .i64 (b:Int),.int .i64 (p:Int),.func (.func f) [] cap] S1 K:=by
 refine H.c4.in (by simp) ?_
 have hc1:=hC.one
 have hcc:=hC.cells
 have hlen:=hC.len
 have e1:=wrapS a (by omega)
 have e2:IntKind.i64.wrap ((b:Int) - 1)=((b - 1:Nat):Int):=by rw [xAa (by omega)];omega
 have hal:a < L.length:=by omega
 have hpl:=hl.length_eq
 have ho:=hS.2
 obtain ⟨x0,hx0⟩:∃ x,l[a]?=some x:=⟨_,xgG (by omega)⟩
 obtain ⟨y0,hy0⟩:∃ y,l[p]?=some y:=⟨_,xgG (by omega)⟩
 have hs1:=hS.swp (i:=a) (j:=p) (x:=x0) (y:=y0)
 have hp1':=(xAn hx0 hy0).trans hl
 have hg1:=xAV (c:=c) (l:=l) (a:=a) (by omega) hy0
 simp [sk4]
 refine Dra.auto [] mix ?_ ?_
 ·kernel_rfl
 simp [classes,xAd hal,xAd hp1,hx0,hy0,cel,hc1,hcc,ho,e1,e2,hg1,xAk]
 refine W.cutL 0 (fun F S'=>∃ i j,Par c f cap L o S a b 0 i j 12 13 F S') ?_ ?_
 ·refine W.whileI (fun (z:Nat × Nat) F S'=>Par c f cap L o S a b 0 z.1 z.2 12 13 F S') (fun z=>L.length - z.1) ?_ (a + 1,b - 1) _ _ ?_
  ·skip
   rintro ⟨i,j⟩ F S' ⟨k1,i1,i2,j1,j2,h0,h1,h4,hi,hj,l',hp,hs⟩
   simp only at k1 i1 i2 j1 j2 hi hj
   have hpl:=hp.length_eq
   have ho:=hs.2
   have e4:=wrapS i (by omega)
   simp
   refine Dra.auto [13] mix ?_ ?_
   ·kernel_rfl
   by_cases hij:i<=j
   ·have hil:i < L.length:=by omega
    obtain ⟨x,hx⟩:∃ x,l'[i]?=some x:=⟨_,xgG (by omega)⟩
    obtain ⟨y,hy⟩:∃ y,l'[a]?=some y:=⟨_,xgG (by omega)⟩
    have hxm:x ∈ L:=hp.mem_iff.1 (xmG hx)
    have hym:y ∈ L:=hp.mem_iff.1 (xmG hy)
    simp [classes,hi,hj,hij,h0,h1,h4,xAd hil,xAd hal,hx,hy,cel,ho]
    refine ⟨_,_,hC.cal x hxm y hym l' S' hs,?_⟩
    simp
    by_cases hc:cm x y < 0
    ·simp [hc,hi,e4]
     exact ⟨i + 1,by omega,j,⟨by omega,by omega,by omega,by omega,by omega,by simp [h0],by simp [h1],by simp [h4],by simp,by simp [hj],l',hp,hs⟩⟩
    ·simp [hc]
     exact ⟨i,j,⟨by omega,by omega,by omega,by omega,by omega,by simp [h0],by simp [h1],by simp [h4],by simp [hi],by simp [hj],l',hp,hs⟩⟩
   ·simp [classes,hi,hj,hij]
    exact ⟨i,j,⟨by omega,by omega,by omega,by omega,by omega,by simp [h0],by simp [h1],by simp [h4],by simp [hi],by simp [hj],l',hp,hs⟩⟩
  ·exact ⟨by omega,by simp,by simp;omega,by simp;omega,by simp;omega,by simp,by simp,by simp,by simp,by simp,_,hp1',hs1⟩
 ·rintro F S' ⟨i,j,k1,i1,i2,j1,j2,h0,h1,h4,hi,hj,l',hp,hs⟩
  simp
  refine W.cutL 2 (fun F S'=>∃ i j,Par c f cap L o S a b 0 i j 12 13 F S') ?_ ?_
  ·refine W.whileI (fun (z:Nat × Nat) F S'=>Par c f cap L o S a b 0 z.1 z.2 12 13 F S') (fun z=>z.2) ?_ (i,j) _ _ ?_
   ·skip
    rintro ⟨i,j⟩ F S' ⟨k1,i1,i2,j1,j2,h0,h1,h4,hi,hj,l',hp,hs⟩
    simp only at k1 i1 i2 j1 j2 hi hj
    have hpl:=hp.length_eq
    have ho:=hs.2
    have e4:i<=j->IntKind.i64.wrap ((j:Int) - 1)=((j - 1:Nat):Int):=fun h=>by rw [xAa (by omega)];omega
    simp
    refine Dra.auto [13] mix ?_ ?_
    ·kernel_rfl
    by_cases hij:i<=j
    ·have hil:j < L.length:=by omega
     obtain ⟨x,hx⟩:∃ x,l'[j]?=some x:=⟨_,xgG (by omega)⟩
     obtain ⟨y,hy⟩:∃ y,l'[a]?=some y:=⟨_,xgG (by omega)⟩
     have hxm:x ∈ L:=hp.mem_iff.1 (xmG hx)
     have hym:y ∈ L:=hp.mem_iff.1 (xmG hy)
     simp [classes,hi,hj,hij,h0,h1,h4,xAd hil,xAd hal,hx,hy,cel,ho]
     refine ⟨_,_,hC.cal x hxm y hym l' S' hs,?_⟩
     simp
     by_cases hc:cm x y < 0
     ·simp [hc]
      exact ⟨i,j,⟨by omega,by omega,by omega,by omega,by omega,by simp [h0],by simp [h1],by simp [h4],by simp [hi],by simp [hj],l',hp,hs⟩⟩
     ·simp [hc,hj,e4 hij]
      exact ⟨i,j - 1,by omega,⟨by omega,by omega,by omega,by omega,by omega,by simp [h0],by simp [h1],by simp [h4],by simp [hi],by simp,l',hp,hs⟩⟩
    ·simp [classes,hi,hj,hij]
     exact ⟨i,j,⟨by omega,by omega,by omega,by omega,by omega,by simp [h0],by simp [h1],by simp [h4],by simp [hi],by simp [hj],l',hp,hs⟩⟩
   ·exact ⟨by omega,by omega,by omega,by omega,by omega,by simp [h0],by simp [h1],by simp [h4],by simp [hi],by simp [hj],l',hp,hs⟩
  ·clear h0 h1 h4 hi hj hp hs k1 i1 i2 j1 j2
   rintro F S' ⟨i,j,k1,i1,i2,j1,j2,h0,h1,h4,hi,hj,l',hp,hs⟩
   have hpl:=hp.length_eq
   have ho:=hs.2
   have hjl:j < L.length:=by omega
   obtain ⟨xj,hxj⟩:∃ x,l'[j]?=some x:=⟨_,xgG (by omega)⟩
   obtain ⟨xa,hxa⟩:∃ x,l'[a]?=some x:=⟨_,xgG (by omega)⟩
   simp [hi,hj]
   by_cases hij:j < i
   ·have hg2:=xAV (c:=c) (l:=l') (a:=j) (by omega) hxa
    simp [hij]
    refine Dra.auto [] mix ?_ ?_
    ·kernel_rfl
    simp [classes,h0,h1,hj,xAd hjl,xAd hal,hxj,hxa,cel,hc1,hcc,ho,hg2,xAk]
    exact hk _ _ j true (by omega) (by omega) ((xAn hxj hxa).trans hp) hs.swp
   ·skip
    have hil:i < L.length:=by omega
    obtain ⟨xi,hxi⟩:∃ x,l'[i]?=some x:=⟨_,xgG (by omega)⟩
    have hg2:=xAV (c:=c) (l:=l') (a:=i) (by omega) hxj
    have hs2:=hs.swp (i:=i) (j:=j) (x:=xi) (y:=xj)
    have hp2:=(xAn hxi hxj).trans hp
    have e5:=wrapS i (by omega)
    have e6:IntKind.i64.wrap ((j:Int) - 1)=((j - 1:Nat):Int):=by rw [xAa (by omega)];omega
    simp [hij]
    refine Dra.auto [] mix ?_ ?_
    ·kernel_rfl
    simp [classes,h0,hi,hj,xAd hjl,xAd hil,hxj,hxi,cel,hc1,hcc,ho,hg2,xAk,e5,e6]
    refine W.whileI (fun (z:Nat × Nat) F S'=>Par c f cap L o S a b 0 z.1 z.2 12 13 F S') (fun z=>L.length + 1 - z.1) ?_ (i + 1,j - 1) _ _ ?_
    ·clear hs2 hp2 hg2 hxi hxj hxa hpl ho h0 h1 h4 hi hj hp hs hij e5 e6 hil hjl k1 i1 i2 j1 j2
     rintro ⟨k,j0⟩ F S' ⟨k1,i1,i2,j1,j2,h0,h1,h4,hi,hj,l',hp,hs⟩
     simp only at k1 i1 i2 j1 j2 hi hj
     simp
     refine W.cutL 6 (fun F S'=>∃ i j,Par c f cap L o S a b k i j 12 13 F S') ?_ ?_
     ·refine W.whileI (fun (z:Nat × Nat) F S'=>Par c f cap L o S a b k z.1 z.2 12 13 F S') (fun z=>L.length - z.1) ?_ (k,j0) _ _ ?_
      ·clear h0 h1 h4 hi hj hp hs k1 i1 i2 j1 j2
       rintro ⟨i,j⟩ F S' ⟨k1,i1,i2,j1,j2,h0,h1,h4,hi,hj,l',hp,hs⟩
       simp only at k1 i1 i2 j1 j2 hi hj
       have hpl:=hp.length_eq
       have ho:=hs.2
       have e4:=wrapS i (by omega)
       simp
       refine Dra.auto [13] mix ?_ ?_
       ·kernel_rfl
       by_cases hij:i<=j
       ·have hil:i < L.length:=by omega
        obtain ⟨x,hx⟩:∃ x,l'[i]?=some x:=⟨_,xgG (by omega)⟩
        obtain ⟨y,hy⟩:∃ y,l'[a]?=some y:=⟨_,xgG (by omega)⟩
        have hxm:x ∈ L:=hp.mem_iff.1 (xmG hx)
        have hym:y ∈ L:=hp.mem_iff.1 (xmG hy)
        simp [classes,hi,hj,hij,h0,h1,h4,xAd hil,xAd hal,hx,hy,cel,ho]
        refine ⟨_,_,hC.cal x hxm y hym l' S' hs,?_⟩
        simp
        by_cases hc:cm x y < 0
        ·simp [hc,hi,e4]
         exact ⟨i + 1,by omega,j,⟨by omega,by omega,by omega,by omega,by omega,by simp [h0],by simp [h1],by simp [h4],by simp,by simp [hj],l',hp,hs⟩⟩
        ·simp [hc]
         exact ⟨i,j,⟨by omega,by omega,by omega,by omega,by omega,by simp [h0],by simp [h1],by simp [h4],by simp [hi],by simp [hj],l',hp,hs⟩⟩
       ·simp [classes,hi,hj,hij]
        exact ⟨i,j,⟨by omega,by omega,by omega,by omega,by omega,by simp [h0],by simp [h1],by simp [h4],by simp [hi],by simp [hj],l',hp,hs⟩⟩
      ·exact ⟨by omega,by omega,by omega,by omega,by omega,by simp [h0],by simp [h1],by simp [h4],by simp [hi],by simp [hj],l',hp,hs⟩
     ·clear h0 h1 h4 hi hj hp hs k1 i1 i2 j1 j2
      rintro F S' ⟨i,j,k1,i1,i2,j1,j2,h0,h1,h4,hi,hj,l',hp,hs⟩
      simp
      refine W.cutL 8 (fun F S'=>∃ i j,Par c f cap L o S a b k i j 12 13 F S') ?_ ?_
      ·refine W.whileI (fun (z:Nat × Nat) F S'=>Par c f cap L o S a b k z.1 z.2 12 13 F S') (fun z=>z.2) ?_ (i,j) _ _ ?_
       ·clear h0 h1 h4 hi hj hp hs k1 i1 i2 j1 j2
        rintro ⟨i,j⟩ F S' ⟨k1,i1,i2,j1,j2,h0,h1,h4,hi,hj,l',hp,hs⟩
        simp only at k1 i1 i2 j1 j2 hi hj
        have hpl:=hp.length_eq
        have ho:=hs.2
        have e4:i<=j->IntKind.i64.wrap ((j:Int) - 1)=((j - 1:Nat):Int):=fun h=>by rw [xAa (by omega)];omega
        simp
        refine Dra.auto [13] mix ?_ ?_
        ·kernel_rfl
        by_cases hij:i<=j
        ·have hil:j < L.length:=by omega
         obtain ⟨x,hx⟩:∃ x,l'[j]?=some x:=⟨_,xgG (by omega)⟩
         obtain ⟨y,hy⟩:∃ y,l'[a]?=some y:=⟨_,xgG (by omega)⟩
         have hxm:x ∈ L:=hp.mem_iff.1 (xmG hx)
         have hym:y ∈ L:=hp.mem_iff.1 (xmG hy)
         simp [classes,hi,hj,hij,h0,h1,h4,xAd hil,xAd hal,hx,hy,cel,ho]
         refine ⟨_,_,hC.cal x hxm y hym l' S' hs,?_⟩
         simp
         by_cases hc:cm x y < 0
         ·simp [hc]
          exact ⟨i,j,⟨by omega,by omega,by omega,by omega,by omega,by simp [h0],by simp [h1],by simp [h4],by simp [hi],by simp [hj],l',hp,hs⟩⟩
         ·simp [hc,hj,e4 hij]
          exact ⟨i,j - 1,by omega,⟨by omega,by omega,by omega,by omega,by omega,by simp [h0],by simp [h1],by simp [h4],by simp [hi],by simp,l',hp,hs⟩⟩
        ·simp [classes,hi,hj,hij]
         exact ⟨i,j,⟨by omega,by omega,by omega,by omega,by omega,by simp [h0],by simp [h1],by simp [h4],by simp [hi],by simp [hj],l',hp,hs⟩⟩
       ·exact ⟨by omega,by omega,by omega,by omega,by omega,by simp [h0],by simp [h1],by simp [h4],by simp [hi],by simp [hj],l',hp,hs⟩
      ·clear h0 h1 h4 hi hj hp hs k1 i1 i2 j1 j2
       rintro F S' ⟨i,j,k1,i1,i2,j1,j2,h0,h1,h4,hi,hj,l',hp,hs⟩
       have hpl:=hp.length_eq
       have ho:=hs.2
       have hjl:j < L.length:=by omega
       obtain ⟨xj,hxj⟩:∃ x,l'[j]?=some x:=⟨_,xgG (by omega)⟩
       obtain ⟨xa,hxa⟩:∃ x,l'[a]?=some x:=⟨_,xgG (by omega)⟩
       simp [hi,hj]
       by_cases hij:j < i
       ·have hg2:=xAV (c:=c) (l:=l') (a:=j) (by omega) hxa
        simp [hij]
        refine Dra.auto [] mix ?_ ?_
        ·kernel_rfl
        simp [classes,h0,h1,hj,xAd hjl,xAd hal,hxj,hxa,cel,hc1,hcc,ho,hg2,xAk]
        exact hk _ _ j false (by omega) (by omega) ((xAn hxj hxa).trans hp) hs.swp
       ·have hil:i < L.length:=by omega
        obtain ⟨xi,hxi⟩:∃ x,l'[i]?=some x:=⟨_,xgG (by omega)⟩
        have hg2:=xAV (c:=c) (l:=l') (a:=i) (by omega) hxj
        have hs2:=hs.swp (i:=i) (j:=j) (x:=xi) (y:=xj)
        have hp2:=(xAn hxi hxj).trans hp
        have e5:=wrapS i (by omega)
        have e6:IntKind.i64.wrap ((j:Int) - 1)=((j - 1:Nat):Int):=by rw [xAa (by omega)];omega
        simp [hij]
        refine Dra.auto [] mix ?_ ?_
        ·kernel_rfl
        simp [classes,h0,hi,hj,xAd hjl,xAd hil,hxj,hxi,cel,hc1,hcc,ho,hg2,xAk,e5,e6]
        exact ⟨i + 1,by omega,j - 1,⟨by omega,by omega,by omega,by omega,by omega,by simp [h0],by simp [h1],by simp [h4],by simp,by simp,_,hp2,hs2⟩⟩
    ·exact ⟨by omega,by simp;omega,by simp;omega,by simp;omega,by simp;omega,by simp [h0],by simp [h1],by simp [h4],by simp,by simp,_,hp2,hs2⟩
end
section
variable {α:Type} {c:α->AV} {f:Nat} {cap:List AV} {L:List α} {o:Nat} {S:St} {cm:α->α->Int}
theorem xQ5 {nf:Nat->Nat} (H:SFam nf) (hC:Cmp g c f cap L o S cm) {a b p:Nat} (hab:a < b) (hb:b<=L.length) (hp1:p < L.length) {l:List α} {S1:St} {K:AV->St->Prop} (hl:l.Perm L) (hS:Srt c S o l S1)
  (hk:∀l' S' (m:Nat),a < m->m<=b->l'.Perm L->Srt c S o l' S'->K (.int .i64 (m:Int)) S'):Cal P g (nf 5) [.sl 1 o 0 L.length,.int .i64 (a:Int),.int .i64 (b:Int),.int .i64 (p:Int),.func (.func f) [] cap] S1 K:=by
 refine H.c5.in (by simp) ?_
 have hc1:=hC.one
 have hcc:=hC.cells
 have hlen:=hC.len
 have e1:=wrapS a (by omega)
 have e2:IntKind.i64.wrap ((b:Int) - 1)=((b - 1:Nat):Int):=by rw [xAa (by omega)];omega
 have hal:a < L.length:=by omega
 have hpl:=hl.length_eq
 have ho:=hS.2
 obtain ⟨x0,hx0⟩:∃ x,l[a]?=some x:=⟨_,xgG (by omega)⟩
 obtain ⟨y0,hy0⟩:∃ y,l[p]?=some y:=⟨_,xgG (by omega)⟩
 have hs1:=hS.swp (i:=a) (j:=p) (x:=x0) (y:=y0)
 have hp1':=(xAn hx0 hy0).trans hl
 have hg1:=xAV (c:=c) (l:=l) (a:=a) (by omega) hy0
 simp [sk5]
 refine Dra.auto [] mix ?_ ?_
 ·kernel_rfl
 simp [classes,xAd hal,xAd hp1,hx0,hy0,cel,hc1,hcc,ho,e1,e2,hg1,xAk]
 refine W.whileI (fun (z:Nat × Nat) F S'=>Par c f cap L o S a b 0 z.1 z.2 11 12 F S') (fun z=>L.length + 1 - z.1) ?_ (a + 1,b - 1) _ _ ?_
 ·skip
  rintro ⟨k,j0⟩ F S' ⟨k1,i1,i2,j1,j2,h0,h1,h4,hi,hj,l',hp,hs⟩
  simp only at k1 i1 i2 j1 j2 hi hj
  simp
  refine W.cutL 2 (fun F S'=>∃ i j,Par c f cap L o S a b k i j 11 12 F S') ?_ ?_
  ·refine W.whileI (fun (z:Nat × Nat) F S'=>Par c f cap L o S a b k z.1 z.2 11 12 F S') (fun z=>L.length - z.1) ?_ (k,j0) _ _ ?_
   ·clear h0 h1 h4 hi hj hp hs k1 i1 i2 j1 j2
    rintro ⟨i,j⟩ F S' ⟨k1,i1,i2,j1,j2,h0,h1,h4,hi,hj,l',hp,hs⟩
    simp only at k1 i1 i2 j1 j2 hi hj
    have hpl:=hp.length_eq
    have ho:=hs.2
    have e4:=wrapS i (by omega)
    simp
    refine Dra.auto [13] mix ?_ ?_
    ·kernel_rfl
    by_cases hij:i<=j
    ·have hil:i < L.length:=by omega
     obtain ⟨x,hx⟩:∃ x,l'[i]?=some x:=⟨_,xgG (by omega)⟩
     obtain ⟨y,hy⟩:∃ y,l'[a]?=some y:=⟨_,xgG (by omega)⟩
     have hxm:x ∈ L:=hp.mem_iff.1 (xmG hx)
     have hym:y ∈ L:=hp.mem_iff.1 (xmG hy)
     simp [classes,hi,hj,hij,h0,h1,h4,xAd hil,xAd hal,hx,hy,cel,ho]
     refine ⟨_,_,hC.cal y hym x hxm l' S' hs,?_⟩
     simp
     by_cases hc:¬ cm y x < 0
     ·simp [hc,hi,e4]
      exact ⟨i + 1,by omega,j,⟨by omega,by omega,by omega,by omega,by omega,by simp [h0],by simp [h1],by simp [h4],by simp,by simp [hj],l',hp,hs⟩⟩
     ·have hc:cm y x < 0:=by omega
      simp [hc]
      exact ⟨i,j,⟨by omega,by omega,by omega,by omega,by omega,by simp [h0],by simp [h1],by simp [h4],by simp [hi],by simp [hj],l',hp,hs⟩⟩
    ·simp [classes,hi,hj,hij]
     exact ⟨i,j,⟨by omega,by omega,by omega,by omega,by omega,by simp [h0],by simp [h1],by simp [h4],by simp [hi],by simp [hj],l',hp,hs⟩⟩
   ·exact ⟨by omega,by omega,by omega,by omega,by omega,by simp [h0],by simp [h1],by simp [h4],by simp [hi],by simp [hj],l',hp,hs⟩
  ·clear h0 h1 h4 hi hj hp hs k1 i1 i2 j1 j2
   rintro F S' ⟨i,j,k1,i1,i2,j1,j2,h0,h1,h4,hi,hj,l',hp,hs⟩
   simp
   refine W.cutL 4 (fun F S'=>∃ i j,Par c f cap L o S a b k i j 11 12 F S') ?_ ?_
   ·refine W.whileI (fun (z:Nat × Nat) F S'=>Par c f cap L o S a b k z.1 z.2 11 12 F S') (fun z=>z.2) ?_ (i,j) _ _ ?_
    ·clear h0 h1 h4 hi hj hp hs k1 i1 i2 j1 j2
     rintro ⟨i,j⟩ F S' ⟨k1,i1,i2,j1,j2,h0,h1,h4,hi,hj,l',hp,hs⟩
     simp only at k1 i1 i2 j1 j2 hi hj
     have hpl:=hp.length_eq
     have ho:=hs.2
     have e4:i<=j->IntKind.i64.wrap ((j:Int) - 1)=((j - 1:Nat):Int):=fun h=>by rw [xAa (by omega)];omega
     simp
     refine Dra.auto [13] mix ?_ ?_
     ·kernel_rfl
     by_cases hij:i<=j
     ·have hil:j < L.length:=by omega
      obtain ⟨x,hx⟩:∃ x,l'[j]?=some x:=⟨_,xgG (by omega)⟩
      obtain ⟨y,hy⟩:∃ y,l'[a]?=some y:=⟨_,xgG (by omega)⟩
      have hxm:x ∈ L:=hp.mem_iff.1 (xmG hx)
      have hym:y ∈ L:=hp.mem_iff.1 (xmG hy)
      simp [classes,hi,hj,hij,h0,h1,h4,xAd hil,xAd hal,hx,hy,cel,ho]
      refine ⟨_,_,hC.cal y hym x hxm l' S' hs,?_⟩
      simp
      by_cases hc:¬ cm y x < 0
      ·simp [hc]
       exact ⟨i,j,⟨by omega,by omega,by omega,by omega,by omega,by simp [h0],by simp [h1],by simp [h4],by simp [hi],by simp [hj],l',hp,hs⟩⟩
      ·have hc:cm y x < 0:=by omega
       simp [hc,hj,e4 hij]
       exact ⟨i,j - 1,by omega,⟨by omega,by omega,by omega,by omega,by omega,by simp [h0],by simp [h1],by simp [h4],by simp [hi],by simp,l',hp,hs⟩⟩
     ·simp [classes,hi,hj,hij]
      exact ⟨i,j,⟨by omega,by omega,by omega,by omega,by omega,by simp [h0],by simp [h1],by simp [h4],by simp [hi],by simp [hj],l',hp,hs⟩⟩
    ·exact ⟨by omega,by omega,by omega,by omega,by omega,by simp [h0],by simp [h1],by simp [h4],by simp [hi],by simp [hj],l',hp,hs⟩
   ·clear h0 h1 h4 hi hj hp hs k1 i1 i2 j1 j2
    rintro F S' ⟨i,j,k1,i1,i2,j1,j2,h0,h1,h4,hi,hj,l',hp,hs⟩
    have hpl:=hp.length_eq
    have ho:=hs.2
    have hjl:j < L.length:=by omega
    obtain ⟨xj,hxj⟩:∃ x,l'[j]?=some x:=⟨_,xgG (by omega)⟩
    obtain ⟨xa,hxa⟩:∃ x,l'[a]?=some x:=⟨_,xgG (by omega)⟩
    simp [hi,hj]
    by_cases hij:j < i
    ·simp [hij,hi]
     exact hk l' S' i (by omega) (by omega) hp hs
    ·have hil:i < L.length:=by omega
     obtain ⟨xi,hxi⟩:∃ x,l'[i]?=some x:=⟨_,xgG (by omega)⟩
     have hg2:=xAV (c:=c) (l:=l') (a:=i) (by omega) hxj
     have hs2:=hs.swp (i:=i) (j:=j) (x:=xi) (y:=xj)
     have hp2:=(xAn hxi hxj).trans hp
     have e5:=wrapS i (by omega)
     have e6:IntKind.i64.wrap ((j:Int) - 1)=((j - 1:Nat):Int):=by rw [xAa (by omega)];omega
     simp [hij]
     refine Dra.auto [] mix ?_ ?_
     ·kernel_rfl
     simp [classes,h0,hi,hj,xAd hjl,xAd hil,hxj,hxi,cel,hc1,hcc,ho,hg2,xAk,e5,e6]
     exact ⟨i + 1,by omega,j - 1,⟨by omega,by omega,by omega,by omega,by omega,by simp [h0],by simp [h1],by simp [h4],by simp,by simp,_,hp2,hs2⟩⟩
 ·exact ⟨by omega,by simp,by simp;omega,by simp;omega,by simp;omega,by simp,by simp,by simp,by simp,by simp,_,hp1',hs1⟩
end
end Go.Proofs.YtnhfofmhkfdpgaaGreatDoor.Vm
