/- A part of the proof: Ch Ci Cj Ck Cl. -/
import Derived.KernelRfl
import Derived.Test.YtnhfofmhkfdpgaaGreatDoorQ31
set_option linter.unusedVariables false
set_option linter.unusedSimpArgs false
set_option linter.constructorNameAsVariable false
namespace Go.Proofs.YtnhfofmhkfdpgaaGreatDoor.Vm
open Go Go.RowKit
variable {N:Nat} {g:Glob}
structure Prg.OK (p:Prg):Prop where
 fit:p.Fit
 sane:p.sane=true
theorem Prg.OK.fn {p:Prg} (h:p.OK) {f:Nat} {x:Fun} (hf:p.funs[f]?=some x):p.fn f=some x:=by
 unfold Prg.fn
 rw [if_pos ⟨by omega,h.sane⟩];simpa using hf
theorem Prg.OK.fun {p:Prg} (h:p.OK) {f:Nat} {x:Fun} (hf:p.funs[f]?=some x):FunOK p x:=sane_ok h.sane (xmG hf)
theorem Prg.OK.blk {p:Prg} (h:p.OK) {f b:Nat} {x:Fun} {y:Blk} (hf:p.funs[f]?=some x) (hy:x.blks[b]?=some y):y.ins.length<=16/\callsOk p y.ins/\∀i ∈ y.ins,i.okP:=by
 have h1:=(h.fun hf).blk (xmG hy)
 have hall:∀i ∈ y.ins,i.okP:=fun i hi=>by
  have h2:=h1.2.2.2.2 i hi
  simp only [Prg.insOK,Bool.and_eq_true] at h2
  simpa [Ins.ok] using h2.1.1
 refine ⟨h1.2.2.2.1,fun i hi hk=>?_,hall⟩
 have h2:=h1.2.2.2.2 i hi
 have h3:=hall i hi
 simp only [Prg.insOK,Bool.and_eq_true] at h2
 have h4:=h2.2
 simp [hk] at h4
 refine ⟨h3.2.2.2.2.2.2.2.2.2.2.1,?_⟩
 cases hx:p.funs[i.f.toNat]? with
 | none=>rw [hx] at h4;simp at h4
 | some z=>exact (xgS hx).1
theorem Prg.cd_of {p:Prg} {f b:Nat} {x:Fun} {y:Blk} (hf:p.funs[f]?=some x) (hy:x.blks[b]?=some y):p.cd f b=y.ins:=by
 simp [Prg.cd,hf,Fun.code,hy]
theorem xKh {p:Prg} {l:List Ins} (h:callsOk p l) (k:Nat):callsOk p (l.take k):=fun i hi=>h i (List.mem_of_mem_take hi)
theorem xFP {S:St} {p:Prg} {ps qm o f b k:Nat} {av:AV} {X:List SEnv} {x:Fun} {y:Blk} {K:AV->St->Prop} (hp:p.OK) (hS:SysO S p ps av qm) (hx:XRow S o p X) (hf:p.funs[f]?=some x) (hy:x.blks[b]?=some y) (hkl:k<=y.ins.length)
  (hk:K (.agg (envcS (hereX p X f b k))) (S.grow (3 + k))):Cal P (gl N) 42 [.ptr ps 0 0,.int .i64 (f:Int),.int .i64 (b:Int),.int .i64 (k:Int),.sl 2 o 0 p.unks.length] S K:=by
 refine Cal.less ?_
 refine c42.in (by simp) ?_
 obtain ⟨hil,hcl,_⟩:=hp.blk hf hy
 have hhas:p.has (.blk f b):=⟨x,hf,(xgS hy).1⟩
 have hfp:=xBZ hhas
 obtain ⟨hg1,hg2⟩:=hx.get hhas
 have hcd:=Prg.cd_of hf hy
 have hH:hereX p X f b k=pastX p X (X.getD (p.at' (.blk f b)) none) (y.ins.take k):=by unfold hereX;rw [hcd]
 have heo:=hx.ok (p.at' (.blk f b))
 generalize X.getD (p.at' (.blk f b)) none=eb at *
 obtain ⟨v',hv',hvf⟩:=y.insS.upto hkl
 have npq:¬ ps=S.next:=by have:=hS.lt;omega
 have nmq:¬ qm=S.next:=by have:=hS.lm;omega
 have noq:¬ o=S.next:=by have:=hx.lt;omega
 have hlk:(y.ins.take k).length=k:=by simp;omega
 simp [k42]
 refine Dra.autoR ⟨1,fun q=>if q=ps then S.obj ps else none⟩ (fun q z h=>?_) [20] [16] mix ?_ ?_
 ·simp only at h
  split at h
  ·rename_i e;subst e;simp [npq,h]
  ·cases h
 ·kernel_rfl
 simp [classes,hS.box,hS.map,npq,nmq,noq,xDY,-KK.fits,xCR,hfp,xAd hg2,hx.obj,hg1]
 refine ⟨y.insV,xGQ (av:=av) (mv:=.map qm) (by simp) hf hy,?_⟩
 simp [hv']
 generalize hS1:S.new (.row 2 [[.bool false,.nilsl]])=S1
 have hu1:Up S S1:=by rw [<- hS1];exact Up.new _ _
 have n1:S1.next=S.next + 1:=by rw [<- hS1];simp
 have o1:S1.obj S.next=some (.row 2 [[.bool false,.nilsl]]):=by rw [<- hS1];simp
 clear hS1
 refine ⟨_,_,xRC (hS.up hu1) (hx.up hu1) heo hvf (by omega) (xKh hcl k) ⟨rfl,rfl⟩,?_,?_⟩
 ·intro q z h
  simp only at h
  split at h
  ·rename_i e;subst e
   rw [(hu1.trans (xBt S1 (2 + (y.ins.take k).length))).2 q hS.lt,hS.box];exact h
  ·cases h
 ·have og:∀m,(S1.grow m).obj S.next=some (.row 2 [[.bool false,.nilsl]]):=fun m=>by
   rw [(xBt S1 m).2 S.next (by omega)];exact o1
  simp [og]
  refine ⟨trivial,?_⟩
  ·simp
   refine ⟨_,Up.grow (S:=S) (k:=3 + k) ?_ ?_,by rw [hH] at hk;exact hk⟩
   ·exact (hu1.trans (xBt S1 _)).put (Nat.le_refl _) _
   ·simp [n1];omega
theorem xPV {α:Type} {e:α->List AV} {sz:Nat} {S:St} {v:AV} {l m:List α} {K:AV × St->Prop} (h:Has e sz S v l) (hb:Bel S v) (hok:okAll sz (els e m)) (hr:l.length + m.length<=room)
  (hk:∀v' S',Has e sz S' v' (l ++ m)->Bel S' v'->S.next<=S'.next->(∀q,q < S.next->(∀c,v ≠ .sl sz q 0 c)->S'.obj q=S.obj q)->(v'=v \/ ∀q c,v'=.sl sz q 0 c->S.next<=q)->K (v',S')):Ok (appV sz v S (els e m)) K:=by
 by_cases hm:m=[]
 ·subst hm
  have hl:(lenV v).isSome=true:=by rw [h.len];rfl
  have:appV sz v S (els e ([]:List α))=some (v,S):=by
   unfold appV
   rw [if_pos (by simp [els]),if_pos hl]
  rw [this,ok_some]
  exact hk v S (by rw [List.append_nil];exact h) hb (Nat.le_refl _) (fun _ _ _=>rfl) (.inl rfl)
 ·have h0:¬ (els e m).length=0:=by rw [xBf];simpa using hm
  have h1:¬ ((els e m).length > room \/ ¬ okAll sz (els e m)):=by
   rw [xBf]
   rintro (h | h)
   ·omega
   ·exact h hok
  rcases h with ⟨rfl,rfl⟩ | ⟨o,rfl,ho,hne⟩
  ·rw [xFG,if_neg h0,if_neg h1,ok_some]
   refine hk _ _ (.inr ⟨S.next,by simp,?_,by simpa using hm⟩) (Bel.sl (by simp)) (by simp) (fun q hq _=>xA5 (by omega)) (.inr fun q c e=>by cases e;exact Nat.le_refl _)
   rw [xCg];simp
  ·rw [xH8,if_neg h0,if_neg h1,ho,xGd,Option.bind_some,if_pos ⟨rfl,rfl,by simp,by simpa using hr⟩,ok_some]
   refine hk _ _ (.inr ⟨S.next,by simp,?_,by simp [hm]⟩) (Bel.sl (by simp)) (by simp) (fun q hq hv=>?_) (.inr fun q c e=>by cases e;exact Nat.le_refl _)
   ·have:(S.drop o).next=S.next:=rfl
    rw [<- this,xCg];simp [xAu,xA2]
   ·rw [xA5 (by show q ≠ S.next;omega)]
    simp only [xH7]
    rw [if_neg (by rintro rfl;exact hv _ rfl)]
theorem xNG (m:List Int):okAll 1 (els intc m):=by
 unfold okAll
 simp only [els,List.all_map,List.all_eq_true,Function.comp]
 intro x _;rfl
structure NewL (S0 S:St) (v:AV) (l:List Int):Prop where
 has:Has intc 1 S v l
 bel:Bel S v
 new:∀q c,v=.sl 1 q 0 c->S0.next<=q
theorem NewL.nil (S0 S:St):NewL S0 S .nilsl []:=⟨.nil,Bel.nil,fun q c h=>by cases h⟩
theorem NewL.keep {S0 S S':St} {v:AV} {l:List Int} (h:NewL S0 S v l) (hu:Up S S'):NewL S0 S' v l:=⟨h.has.keep fun q ⟨len,hq⟩=>hu.2 q (h.bel _ _ _ hq),h.bel.mono hu.1,h.new⟩
theorem NewL.app {S0 S:St} {v:AV} {l m:List Int} {K:AV × St->Prop} (h:NewL S0 S v l) (hu:S0.next<=S.next) (hr:l.length + m.length<=room) (hk:∀v' S',NewL S0 S' v' (l ++ m)->S.next<=S'.next->(∀q,q < S0.next->S'.obj q=S.obj q)->(∀q,q < S.next->(∀c,v ≠ .sl 1 q 0 c)->S'.obj q=S.obj q)->K (v',S')):Ok (appV 1 v S (els intc m)) K:=by
 refine xPV h.has h.bel (xNG m) hr fun v' S' h1 h2 h3 h4 h5=>?_
 refine hk v' S' ⟨h1,h2,fun q c hq=>?_⟩ h3 (fun q hq=>h4 q (by omega) fun c hv=>by have:=h.new q c hv;omega) h4
 rcases h5 with rfl | h5
 ·exact h.new q c hq
 ·have:=h5 q c hq;omega
def isC (i:Ins):Bool:=decide (i.kind=7)
def Prg.wl (p:Prg) (f b:Nat) (l:List Ins):List Int:=((p.at' (.blk f b):Nat):Int) :: (l.filter isC).map fun i=>((p.at' (.ans i.f.toNat):Nat):Int)
theorem Prg.wl_all {p:Prg} {f b:Nat} {x:Fun} {y:Blk} (hf:p.funs[f]?=some x) (hy:x.blks[b]?=some y):p.withinL f b=p.wl f b y.ins:=by
 unfold Prg.withinL Prg.wl
 rw [Prg.cd_of hf hy];rfl
theorem Prg.wl_succ {p:Prg} {f b k:Nat} {l:List Ins} {i:Ins} (h:l[k]?=some i):p.wl f b (l.take (k + 1))=p.wl f b (l.take k) ++ if isC i=true then [((p.at' (.ans i.f.toNat):Nat):Int)] else []:=by
 unfold Prg.wl
 rw [xAe h,List.filter_append,List.map_append,List.cons_append]
 congr 2
 by_cases hc:isC i=true <;> simp [hc]
theorem Prg.wl_len {p:Prg} {f b:Nat} {l:List Ins}:(p.wl f b l).length<=l.length + 1:=by
 unfold Prg.wl
 have:=List.length_filter_le isC l
 simp;omega
theorem xE9 {S:St} {p:Prg} {ps qm f b:Nat} {av:AV} {x:Fun} {y:Blk} {K:AV->St->Prop} (hp:p.OK) (hS:SysO S p ps av qm) (hf:p.funs[f]?=some x) (hy:x.blks[b]?=some y)
  (hk:∀q S',Up S S'->S.next<=q->q < S'.next->S'.obj q=some (.row 1 (els intc (p.withinL f b)))->K (.sl 1 q 0 (p.withinL f b).length) S'):Cal P (gl N) 117 [.ptr ps 0 0,.int .i64 (f:Int),.int .i64 (b:Int)] S K:=by
 refine c117.in (by simp) ?_
 obtain ⟨hil,hcl,_⟩:=hp.blk hf hy
 have hhas:p.has (.blk f b):=⟨x,hf,(xgS hy).1⟩
 have hfp:=xBZ hhas
 have npq:¬ ps=S.next:=by have:=hS.lt;omega
 have nmq:¬ qm=S.next:=by have:=hS.lm;omega
 have hW:=Prg.wl_all hf hy
 rw [hW] at hk
 simp [k117,hS.box,hS.map,xDY,-KK.fits,xCR,hfp]
 refine xMr (av:=av) (mv:=.map qm) (by simp [npq,hS.box]) hf hy ?_
 simp [y.insS.len]
 refine W.whileI (fun (k:Nat) F S2=>k<=y.ins.length/\F 0=.ptr ps 0 0/\F 23=y.insV/\F 24=.int .i64 y.ins.length/\F 25=.int .i64 k/\Up S S2/\NewL S S2 (F 7) (p.wl f b (y.ins.take k))) (fun k=>y.ins.length - k) ?_ 0 _ _ ?_
 ·rintro k F S2 ⟨hkl,f0,f23,f24,f25,hu,hN⟩
  by_cases hlt:k < y.ins.length
  ·obtain ⟨i,hi⟩:∃ i,y.ins[k]?=some i:=⟨_,xgG hlt⟩
   have e4:=wrapS k (by omega)
   have hst:=Prg.wl_succ (p:=p) (f:=f) (b:=b) hi
   have hwl:=Prg.wl_len (p:=p) (f:=f) (b:=b) (l:=y.ins.take k)
   have htl:(y.ins.take k).length<=16:=by simp;omega
   have hS2:=hS.up hu
   generalize p.wl f b (y.ins.take k)=wk at *
   simp [f24,f25,hlt]
   simp [f23,f25,y.insS.idx hi]
   generalize hS3:(S2.new (.row 11 [[.int .i64 0,.int .i64 0,.int .i64 0,.int .i64 0,.int .i64 0,.int .i64 0,.int .i64 0,.int .i64 0,.int .i64 0,.int .i64 0,.int .i64 0]])).set S2.next (.row 11 [[.int .i64 i.id,.int .i64 i.kind,.int .i64 i.dst,.int .i64 i.a,.int .i64 i.b,.int .i64 i.c,.int .i64 i.f,.int .i64 i.n,.int .i64 i.x0,.int .i64 i.x1,.int .i64 i.x2]])=S3
   have hu3:Up S2 S3:=by rw [<- hS3];exact (Up.new _ _).put (Nat.le_refl _) _
   have o3:S3.obj S2.next=some (.row 11 [[.int .i64 i.id,.int .i64 i.kind,.int .i64 i.dst,.int .i64 i.a,.int .i64 i.b,.int .i64 i.c,.int .i64 i.f,.int .i64 i.n,.int .i64 i.x0,.int .i64 i.x1,.int .i64 i.x2]]):=by rw [<- hS3];simp
   clear hS3
   have hN3:=hN.keep hu3
   have hu03:=hu.trans hu3
   have hS3:=hS.up hu03
   by_cases h7:i.kind=7
   ·obtain ⟨hf0,hfl⟩:=hcl i (xmG hi) h7
    obtain ⟨m,hm⟩:∃ m:Nat,i.f=(m:Int):=⟨i.f.toNat,by omega⟩
    have hml:m < p.funs.length:=by omega
    have hfm:=xBZ (p:=p) (u:=.ans m) hml
    have hic:isC i=true:=by simp [isC,h7]
    rw [hic,if_pos rfl,hm] at hst
    simp only [Int.toNat_natCast] at hst
    have h7':decide (i.kind=7)=true:=by simp [h7]
    rw [hm] at o3
    simp [o3,h7]
    refine Dra.auto [] mix ?_ ?_
    ·kernel_rfl
    simp [classes,f0,o3,hS3.box,hS3.map,xDY,-KK.fits,xCR,hfm]
    refine xA7 (e:=intc) (x:=((p.at' (.ans m):Nat):Int)) (hN3.has.new hN3.bel) rfl (by simp [room];omega) fun S' k1 k2 k3=>?_
    simp only [xCL] at k1 k2 k3
    simp [f0,f23,f24,f25,e4]
    have h0:=hu03.1
    refine ⟨k + 1,by omega,by omega,by omega,⟨by omega,fun r hr=>?_⟩,by rw [hst];exact k1,Bel.sl (by omega),fun q c h=>by cases h;omega⟩
    rw [k3 r (by omega) fun len h=>by have:=hN.new _ _ h;omega]
    simp [show ¬ r=S3.next by omega]
    exact hu03.2 r hr
   ·have hic:isC i=false:=by simp [isC,h7]
    rw [hic] at hst
    simp at hst
    simp [o3,h7,f0,f23,f24,f25,e4]
    exact ⟨k + 1,by omega,by omega,by omega,hu03,by rw [hst];exact hN3⟩
  ·have:k=y.ins.length:=by omega
   subst this
   rw [List.take_length] at hN
   obtain ⟨q,f7,hq3,_⟩:∃ q,F 7=.sl 1 q 0 (p.wl f b y.ins).length/\S2.obj q=some (.row 1 (els intc (p.wl f b y.ins)))/\p.wl f b y.ins ≠ []:=by
    rcases hN.has with ⟨_,h⟩ | h
    ·simp [Prg.wl] at h
    ·exact h
   simp [f24,f25,f7]
   exact hk q _ hu (hN.new q _ f7) (hN.bel _ _ _ f7) hq3
 ·simp [Prg.wl]
  exact ⟨Up.new _ _,.inr ⟨S.next,by simp,by simp [els,intc],by simp⟩,Bel.sl (by simp),fun q c h=>by cases h;exact Nat.le_refl _⟩
theorem xB9 {α β:Type} {h:α->List β} {B:Nat}:∀(l:List α),(∀x ∈ l,(h x).length<=B)->(l.flatMap h).length<=l.length * B
 | [],_=>by simp
 | x :: l,hb=>by
  have h1:=xB9 l fun y hy=>hb y (by simp [hy])
  have h2:=hb x (by simp)
  simp only [List.flatMap_cons,List.length_append,List.length_cons,Nat.succ_mul]
  omega
theorem xAS {p:Prg} (hp:p.OK) (f b:Nat):(p.withinL f b).length<=17:=by
 unfold Prg.withinL
 have h1:=List.length_filter_le (fun i:Ins=>decide (i.kind=7)) (p.cd f b)
 have h2:(p.cd f b).length<=16:=by
  unfold Prg.cd Fun.code
  cases hf:p.funs[f]? with
  | none=>simp
  | some x =>
   simp only
   cases hy:x.blks[b]? with
   | none=>simp
   | some y=>simp;exact (hp.blk hf hy).1
 simp;omega
theorem xCE {α β:Type} {h:α->List β} {l:List α} {k:Nat} {x:α} (hx:l[k]?=some x):(l.take (k + 1)).flatMap h=(l.take k).flatMap h ++ h x:=by
 rw [xAe hx,List.flatMap_append];simp
theorem Prg.predsN_of {p:Prg} (hp:p.OK) {f b:Nat} {x:Fun} (hf:p.funs[f]?=some x):p.preds f b=x.preds b/\p.predsN f b=x.preds b:=by
 simp [Prg.preds,Prg.predsN,hp.fn hf,hf]
theorem NewL.older {S0 S1 S:St} {v:AV} {l:List Int} (h:NewL S1 S v l) (hn:S0.next<=S1.next):NewL S0 S v l:=⟨h.has,h.bel,fun q c hq=>Nat.le_trans hn (h.new q c hq)⟩
theorem xPW {S:St} {p:Prg} {ps qm:Nat} {av:AV} {u:Unk} {K:AV->St->Prop} (hp:p.OK) (hS:SysO S p ps av qm) (hu:p.has u)
  (hk:∀v S',Up S S'->NewL S S' v (p.rdU u)->K v S'):Cal P (gl N) 79 [.ptr ps 0 0,unkV u] S K:=by
 refine c79.in (by simp) ?_
 have npq:¬ ps=S.next:=by have:=hS.lt;omega
 have nmq:¬ qm=S.next:=by have:=hS.lm;omega
 cases u with
 | par f =>
  obtain ⟨x,hx⟩:∃ x,p.funs[f]?=some x:=⟨_,xgG hu⟩
  have hL:p.rdU (.par f)=(p.callsTo f).flatMap fun s=>p.withinL s.1 s.2.1:=rfl
  rw [hL] at hk
  have hmem:∀s ∈ p.callsTo f,∃ z y,p.funs[s.1]?=some z/\z.blks[s.2.1]?=some y:=fun s hs=>by
   obtain ⟨z,y,h1,h2,_⟩:=Prg.pos_mem.1 ((List.mem_filter.1 hs).1)
   exact ⟨z,y,h1,h2⟩
  have hlen:(p.callsTo f).length<=1152:=Nat.le_trans (List.length_filter_le _ _) (by have:=(Prg.pos_len hp.sane).1;omega)
  have hC:=(xE8 (N:=N) hp.fit (hp.fn hx)).ret
  generalize p.callsTo f=L at *
  have hLf:FSl trc 3 (encF trc 3 L) L:=xAl
  have hcl:(encF trc 3 L).cells=[encF trc 3 L]:=hLf.cells
  simp [k79]
  refine Dra.auto [] mix ?_ ?_
  ·kernel_rfl
  simp [classes,hS.box,npq]
  refine hC.b (n:=9) (by simp [mapOpt,xAc p.funsS.stab]) (by simp [solids,AV.solid,p.funsS.solid]) ?_
  simp [hLf.len]
  refine W.whileI (fun (k:Nat) F S2=>k<=L.length/\F 0=.ptr ps 0 0/\F 24=encF trc 3 L/\F 25=.int .i64 L.length/\F 26=.int .i64 k/\Up S S2/\NewL S S2 (F 5) ((L.take k).flatMap fun s=>p.withinL s.1 s.2.1)) (fun k=>L.length - k) ?_ 0 _ _ ?_
  ·rintro k F S2 ⟨hkl,f0,f24,f25,f26,hup,hN⟩
   by_cases hlt:k < L.length
   ·obtain ⟨s,hs⟩:∃ s,L[k]?=some s:=⟨_,xgG hlt⟩
    have e4:=wrapS k (by omega)
    obtain ⟨z,y,hz,hy⟩:=hmem s (xmG hs)
    have hst:=xCE (h:=fun s:Step=>p.withinL s.1 s.2.1) hs
    have hw:=xAS hp s.1 s.2.1
    have hacc:=xB9 (h:=fun s:Step=>p.withinL s.1 s.2.1) (B:=17) (L.take k) fun t _=>xAS hp t.1 t.2.1
    have hkt:(L.take k).length<=1152:=by simp;omega
    generalize (L.take k).flatMap (fun s=>p.withinL s.1 s.2.1)=acc at *
    simp [f25,f26,hlt]
    simp [f24,f26,hLf.idx hs,f0,xAG]
    generalize hS3:(S2.new (.row 3 [[.int .i64 0,.int .i64 0,.int .i64 0]])).set S2.next (.row 3 [[.int .i64 s.1,.int .i64 s.2.1,.int .i64 s.2.2.1]])=S3
    have hu3:Up S2 S3:=by rw [<- hS3];exact (Up.new _ _).put (Nat.le_refl _) _
    clear hS3
    refine xE9 hp (hS.up (hup.trans hu3)) hz hy fun q S4 k1 k2 k3 k4=>?_
    have hN4:=hN.keep (hu3.trans k1)
    have hup4:=(hup.trans hu3).trans k1
    have hel:elems S4 (.sl 1 q 0 (p.withinL s.1 s.2.1).length)=some (els intc (p.withinL s.1 s.2.1)):=by rw [xCN k4 (by simp),List.drop_zero,List.take_of_length_le (by simp)]
    simp [hel]
    refine hN4.app hup4.1 (by simp [room];omega) fun v' S5 m1 m2 m3 m4=>?_
    simp [f0,f24,f25,f26,e4]
    exact ⟨k + 1,by omega,by omega,by omega,⟨Nat.le_trans hup4.1 m2,fun q hq=>by rw [m3 q hq];exact hup4.2 q hq⟩,by rw [hst];exact m1⟩
   ·have:k=L.length:=by omega
    subst this
    rw [List.take_length] at hN
    simp [f25,f26]
    exact hk _ _ hup hN
  ·simp
   exact ⟨(Up.new _ _).put (Nat.le_refl _) _,NewL.nil _ _⟩
 | ans f =>
  obtain ⟨x,hx⟩:∃ x,p.funs[f]?=some x:=⟨_,xgG hu⟩
  have hL:p.rdU (.ans f)=(List.range x.blks.length).flatMap fun b=>p.withinL f b:=by simp [Prg.rdU,hx]
  rw [hL] at hk
  have hbl:=(hp.fun hx).len.2
  simp [k79]
  refine Dra.auto [] mix ?_ ?_
  ·kernel_rfl
  simp [classes,hS.box,npq,p.funsS.idx hx,x.blksS.len]
  generalize hS0:(S.new (.row 1 [[.int .i64 0]])).set S.next (.row 1 [[.int .i64 (f:Int)]])=S0
  have hu0:Up S S0:=by rw [<- hS0];exact (Up.new _ _).put (Nat.le_refl _) _
  have o0:S0.obj S.next=some (.row 1 [[.int .i64 (f:Int)]]):=by rw [<- hS0];simp
  have n0:S0.next=S.next + 1:=by rw [<- hS0];simp
  clear hS0
  refine W.whileI (fun (k:Nat) F S2=>k<=x.blks.length/\F 0=.ptr ps 0 0/\F 9=.ptr S.next 0 0/\F 52=.int .i64 x.blks.length/\F 53=.int .i64 k/\Up S0 S2/\NewL S0 S2 (F 5) ((List.range k).flatMap fun b=>p.withinL f b)) (fun k=>x.blks.length - k) ?_ 0 _ _ ?_
  ·rintro k F S2 ⟨hkl,f0,f9,f52,f53,hup,hN⟩
   have o2:S2.obj S.next=some (.row 1 [[.int .i64 (f:Int)]]):=by rw [hup.2 _ (by omega)];exact o0
   by_cases hlt:k < x.blks.length
   ·obtain ⟨y,hy⟩:∃ y,x.blks[k]?=some y:=⟨_,xgG hlt⟩
    have e4:=wrapS k (by omega)
    have hst:(List.range (k + 1)).flatMap (fun b=>p.withinL f b)=(List.range k).flatMap (fun b=>p.withinL f b) ++ p.withinL f k:=by rw [List.range_succ,List.flatMap_append];simp
    have hw:=xAS hp f k
    have hacc:=xB9 (h:=fun b:Nat=>p.withinL f b) (B:=17) (List.range k) fun t _=>xAS hp f t
    have hkt:(List.range k).length<=12:=by simp;omega
    generalize (List.range k).flatMap (fun b=>p.withinL f b)=acc at *
    simp [f52,f53,hlt]
    simp [f0,f9,f53,o2]
    refine xE9 hp (hS.up (hu0.trans hup)) hx hy fun q S4 k1 k2 k3 k4=>?_
    have hN4:=hN.keep k1
    have hup4:=hup.trans k1
    have hel:elems S4 (.sl 1 q 0 (p.withinL f k).length)=some (els intc (p.withinL f k)):=by rw [xCN k4 (by simp),List.drop_zero,List.take_of_length_le (by simp)]
    simp [hel]
    refine hN4.app hup4.1 (by simp [room];omega) fun v' S5 m1 m2 m3 m4=>?_
    simp [f0,f9,f52,f53,e4]
    exact ⟨k + 1,by omega,by omega,by omega,⟨Nat.le_trans hup4.1 m2,fun q hq=>by rw [m3 q hq];exact hup4.2 q hq⟩,by rw [hst];exact m1⟩
   ·have:k=x.blks.length:=by omega
    subst this
    simp [f52,f53]
    exact hk _ _ (hu0.trans hup) (hN.older hu0.1)
  ·simp
   exact ⟨Up.refl _,NewL.nil _ _⟩
 | blk f b =>
  obtain ⟨x,hx,hb⟩:=hu
  obtain ⟨hP,hPN⟩:=Prg.predsN_of hp (f:=f) (b:=b) hx
  have hL:p.rdU (.blk f b)=(if b=0 then [((p.at' (.par f):Nat):Int)] else []) ++ (x.preds b).flatMap fun j=>p.withinL f j.toNat:=by simp only [Prg.rdU];rw [hPN]
  rw [hL] at hk
  have hbl:=(hp.fun hx).len.2
  have hpl:(x.preds (b:Int)).length<=12:=Nat.le_trans (x.predsTo_len _ _) hbl
  have hpm:∀j ∈ x.preds (b:Int),∃ (m:Nat) (y:Blk),j=(m:Int)/\x.blks[m]?=some y:=fun j hj=>by
   obtain ⟨m,y,h1,h2,_⟩:=Fun.preds_mem.1 hj
   exact ⟨m,y,h1,h2⟩
  have hC:=(xET (N:=N) p f b hp.fit).ret
  rw [hP] at hC
  generalize x.preds (b:Int)=L at *
  have hLf:FSl intc 1 (encF intc 1 L) L:=xAl
  have hcl:(encF intc 1 L).cells=[encF intc 1 L]:=hLf.cells
  have hpar:p.has (.par f):=(xgS hx).1
  have hfp:=xBZ hpar
  simp [k79]
  generalize hS0:(S.new (.row 2 [[.int .i64 0,.int .i64 0]])).set S.next (.row 2 [[.int .i64 (f:Int),.int .i64 (b:Int)]])=S0
  have hu0:Up S S0:=by rw [<- hS0];exact (Up.new _ _).put (Nat.le_refl _) _
  have o0:S0.obj S.next=some (.row 2 [[.int .i64 (f:Int),.int .i64 (b:Int)]]):=by rw [<- hS0];simp
  have n0:S0.next=S.next + 1:=by rw [<- hS0];simp
  clear hS0
  have hS0:=hS.up hu0
  refine Bra.cut (fun F' S1=>F' 0=.ptr ps 0 0/\F' 11=.ptr S.next 0 0/\Up S0 S1/\NewL S0 S1 (F' 5) (if b=0 then [((p.at' (.par f):Nat):Int)] else [])) ?_ ?_
  ·refine xAj (fun h0=>?_) (fun h0=>?_)
   ·simp [h0]
    refine Dra.auto [] mix ?_ ?_
    ·kernel_rfl
    simp [classes,o0,hS0.box,hS0.map,xDY,-KK.fits,xCR,hfp,show ¬ room=0 by simp [room]]
    refine ⟨⟨by simp;omega,fun q hq=>by simp [show ¬ q=S0.next by omega,show ¬ q=S0.next + 1 by omega]⟩,.inr ⟨S0.next + 1,rfl,by simp [els,intc],by simp⟩,Bel.sl (by simp),fun q c h=>by cases h;omega⟩
   ·simp [h0]
    exact ⟨Up.refl _,NewL.nil _ _⟩
  ·rintro F S1 ⟨f0,f11,hup1,hN1⟩
   have hinit:(if b=0 then [((p.at' (.par f):Nat):Int)] else []).length<=1:=by split <;> simp
   generalize (if b=0 then [((p.at' (.par f):Nat):Int)] else [])=init at *
   have hS1:=hS0.up hup1
   have o1:S1.obj S.next=some (.row 2 [[.int .i64 (f:Int),.int .i64 (b:Int)]]):=by rw [hup1.2 _ (by omega)];exact o0
   simp
   refine Dra.auto [] mix ?_ ?_
   ·kernel_rfl
   simp [classes,f0,f11,o1,hS1.box]
   refine hC.b (n:=9) (by simp [mapOpt,xAc p.funsS.stab]) (by simp [solids,AV.solid,p.funsS.solid]) ?_
   simp [hLf.len]
   refine W.whileI (fun (k:Nat) F S2=>k<=L.length/\F 0=.ptr ps 0 0/\F 11=.ptr S.next 0 0/\F 90=encF intc 1 L/\F 91=.int .i64 L.length/\F 92=.int .i64 k/\Up S0 S2/\NewL S0 S2 (F 5) (init ++ (L.take k).flatMap fun j=>p.withinL f j.toNat)) (fun k=>L.length - k) ?_ 0 _ _ ?_
   ·rintro k F S2 ⟨hkl,f0,f11,f90,f91,f92,hup,hN⟩
    have o2:S2.obj S.next=some (.row 2 [[.int .i64 (f:Int),.int .i64 (b:Int)]]):=by rw [hup.2 _ (by omega)];exact o0
    by_cases hlt:k < L.length
    ·obtain ⟨j,hj⟩:∃ j,L[k]?=some j:=⟨_,xgG hlt⟩
     have e4:=wrapS k (by omega)
     obtain ⟨m,y,rfl,hy⟩:=hpm j (xmG hj)
     have hst:=xCE (h:=fun j:Int=>p.withinL f j.toNat) hj
     have hw:=xAS hp f m
     have hacc:=xB9 (h:=fun j:Int=>p.withinL f j.toNat) (B:=17) (L.take k) fun t _=>xAS hp f t.toNat
     have hkt:(L.take k).length<=12:=by simp;omega
     simp only [Int.toNat_natCast] at hst
     generalize (L.take k).flatMap (fun j=>p.withinL f j.toNat)=acc at *
     simp [f91,f92,hlt]
     simp [f90,f92,hLf.idx hj,intc,f0,f11,o2]
     refine xE9 hp (hS.up (hu0.trans hup)) hx hy fun q S4 k1 k2 k3 k4=>?_
     have hN4:=hN.keep k1
     have hup4:=hup.trans k1
     have hel:elems S4 (.sl 1 q 0 (p.withinL f m).length)=some (els intc (p.withinL f m)):=by rw [xCN k4 (by simp),List.drop_zero,List.take_of_length_le (by simp)]
     simp [hel]
     refine hN4.app hup4.1 (by simp [room];omega) fun v' S5 m1 m2 m3 m4=>?_
     simp [f0,f11,f90,f91,f92,e4]
     exact ⟨k + 1,by omega,by omega,by omega,⟨Nat.le_trans hup4.1 m2,fun q hq=>by rw [m3 q hq];exact hup4.2 q hq⟩,by rw [hst,<- List.append_assoc];exact m1⟩
    ·have:k=L.length:=by omega
     subst this
     rw [List.take_length] at hN
     simp [f91,f92]
     exact hk _ _ (hu0.trans hup) (hN.older hu0.1)
   ·simp [f0,f11]
    exact ⟨hup1,hN1⟩
end Go.Proofs.YtnhfofmhkfdpgaaGreatDoor.Vm
namespace Go.Proofs.YtnhfofmhkfdpgaaGreatDoor.Vm
set_option maxRecDepth 100000
open Go Go.RowKit
variable {N:Nat} {g:Glob}
theorem xKi (a:SEnv) (m:List Int) (ha:a.ok) (hb:SEnv.ok (some m)) {r:List Int} (hr:a.join (some m)=some r):Own P g 52 [opsS,encES a,encES (some m)] (.agg [.bool true,.sl 1 0 0 r.length]) (St.ofL [.row 1 (els intc r)]):=by
 refine Own.in [4] c52 (by simp) (by simp) ?_
 simp [k52]
 cases a with
 | none =>
  have hr':r=ownS m 0:=by simpa [SEnv.join,SEnv.own] using hr.symm
  subst hr'
  have hol:=xA3 m 0
  simp only [Nat.zero_max] at hol
  simp
  refine (xEv m 0 (hb m rfl) (by omega)).use' (n:=9) ?_ ?_ ?_ <;> simp [xAY]
  simp [RO,hol]
 | some l =>
  have hr':r=joinS l m:=by simpa [SEnv.join] using hr.symm
  subst hr'
  simp
  have hl:l.length < 2 ^ 20:=by have:=(ha l rfl).1;omega
  have hm:m.length < 2 ^ 20:=by have:=(hb m rfl).1;omega
  refine (xEv l m.length (ha l rfl) hm).use' (n:=9) ?_ ?_ ?_ <;> simp [xAY]
  have hn:max m.length l.length < 2 ^ 20:=Nat.max_lt.2 ⟨hm,hl⟩
  have hol:=xA3 l m.length
  have hcast:(max (m.length:Int) l.length)=((max m.length l.length:Nat):Int):=by omega
  try simp only [hcast]
  have hJ:(joinS l m).length=max m.length l.length:=by simp [joinS]
  have hget:∀k,k < max m.length l.length->(ownS l m.length)[k]?=some (gS l k):=fun k hk=>by simp [ownS,hk]
  have hjg:∀k,k < max m.length l.length->(joinS l m)[k]?=some (sgJ (gS l k) (gS m k)):=fun k hk=>by simp [joinS,hk]
  generalize max m.length l.length=n at *
  refine W.whileI (fun (a:Nat) F S=>a<=n/\F 3=.ptr 0 0 0/\F 5=.ptr 2 0 0/\F 6=.ptr 3 0 0/\F 7=.ptr 5 0 0/\F 28=.int .i64 n/\F 29=.int .i64 a/\S.obj 0=some (.row 2 [opsS.cells])/\S.obj 2=some (.row 2 [envcS (some m)]) /\
   S.obj 3=some (.row 2 [[.bool false,.nilsl]])/\S.obj 5=some (.row 2 [[.bool true,.sl 1 4 0 n]])/\∃ o:List Int,o.length=n/\o.take a=(joinS l m).take a/\o.drop a=(ownS l m.length).drop a/\S.obj 4=some (.row 1 (els intc o))) (fun a=>n - a) ?_ 0 _ _ ?_
  ·rintro a F S ⟨ha,h3,h5,h6,h7,h28,h29,s0,s2,s3,s5,o,ho,hot,hod,s4⟩
   by_cases hlt:a < n
   ·have e4:=wrapS a (by omega)
    have hoa:o[a]?=some (gS l a):=by
     have h1:=hget a hlt
     have h2:(o.drop a)[0]?=((ownS l m.length).drop a)[0]?:=by rw [hod]
     simp only [List.getElem?_drop,Nat.add_zero] at h2
     rw [h2,h1]
    simp [h28,h29,hlt]
    refine Dra.auto [] mix ?_ ?_
    ·kernel_rfl
    simp only [xDt,xBh] at s0 s2
    simp [classes,h3,h5,h6,h7,h28,h29,s0,s2,s5,xAd hlt,s4,hoa,intc]
    refine (xDu (some m) a (SEnv.ok_some (hb m rfl))).b (n:=9) ?_ rfl ?_ <;> simp [xAY]
    refine (xEs (xBO l a) (SEnv.get_ok (some m) a)).b (n:=9) ?_ rfl ?_ <;> simp
    simp [intc,xAd hlt,s4,hoa,h3,h5,h6,h7,h28,h29,e4]
    refine ⟨a + 1,by omega,by omega,by omega,by simpa using s0,by simpa using s2,by simpa using s3,by simpa using s5,o.set a (sgJ (gS l a) (gS m a)),by simp [ho],?_,?_,by rw [<- xAg];rfl⟩
    ·rw [xAo (by omega),hot,xAe (hjg a hlt)]
    ·rw [List.drop_set_of_lt (by omega)]
     have h2:(o.drop a).drop 1=((ownS l m.length).drop a).drop 1:=by rw [hod]
     simpa [List.drop_drop,Nat.add_comm] using h2
   ·have:a=n:=by omega
    subst this
    have hoR:o=joinS l m:=by rw [List.take_of_length_le (by omega),List.take_of_length_le (by omega)] at hot;exact hot
    subst hoR
    simp [h28,h29,h7,h6,s5,s3]
    simp [RO,s4,hJ]
  ·simp
   exact ⟨ownS l m.length,by simp [hol],rfl,rfl⟩
theorem xG9 (a:SEnv) (m:List Int) (ha:a.ok) (hb:SEnv.ok (some m)):Ret P g true 20 [encES a,encES (some m)] (encES (a.join (some m))):=by
 obtain ⟨r,hr⟩:∃ r,a.join (some m)=some r:=by cases a <;> exact ⟨_,rfl⟩
 have h:Own P g 20 [encES a,encES (some m)] (.agg [.bool true,.sl 1 0 0 r.length]) (St.ofL [.row 1 (els intc r)]):=by
  refine Own.in [3] c20 (by simp) (by simp) ?_
  simp [k20]
  refine Dra.auto [] mix ?_ ?_
  ·kernel_rfl
  simp [classes]
  refine xBY.b (n:=9) ?_ rfl ?_ <;> simp
  refine (xKi a m ha hb hr).b' (n:=9) ?_ ?_ ?_ <;> simp
  simp [RO]
 rw [hr]
 refine h.ret (m:=9) ?_
 have:=xA6 (e:=intc) (S:=St.ofL [.row 1 (els intc r)]) (o:=0) (n:=6) rfl rfl
 simp only [xB4,mapOpt,xCv,this]
 rfl
theorem xGR (n:Int) {v:Int} (hv:sgOk v):Ret P g true 17 [.int .i64 n,.int .i64 v] (.agg (envcS (some (allS n v)))):=by
 have hc:(List.replicate (capN n) v).length=capN n:=by simp
 refine (xE5 n hv).ret (m:=9) ?_
 have:=xA6 (e:=intc) (S:=St.ofL [.row 1 (els intc (List.replicate (capN n) v))]) (o:=0) (n:=6) rfl hc
 simp only [xB4,mapOpt,xCv,this,allS,xAw hv]
 rfl
theorem xMs (i:Ins) {j:Nat} (hj:j < 3):(insc i)[8 + j]?=some (.int .i64 (i.arg j)):=by
 have:j=0 \/ j=1 \/ j=2:=by omega
 rcases this with rfl | rfl | rfl <;> rfl
theorem xGS (i:Ins) (l:List Int):(handS i l).length=capN i.n:=by simp [handS]
theorem xKj {i:Ins} {l:List Int} {j:Nat} (hj:j < capN i.n):(handS i l)[j]?=some (gS l (i.arg j)):=by simp [handS,hj]
set_option maxHeartbeats 1000000 in
theorem xNH {S:St} {p:Prg} {ps qm o f:Nat} {av:AV} {X:List SEnv} {z:Fun} {K:AV->St->Prop} (hp:p.OK) (hS:SysO S p ps av qm) (hx:XRow S o p X) (hf:p.funs[f]?=some z)
  (hk:∀S',Up S S'->K (.agg (envcS (parX p X f))) S'):Cal P (gl N) 123 [.ptr ps 0 0,.int .i64 (f:Int),.sl 2 o 0 p.unks.length] S K:=by
 refine Cal.inF (by kernel_rfl) ?_
 have hlen:(p.callsTo f).length<=1152:=Nat.le_trans (List.length_filter_le _ _) (by have:=(Prg.pos_len hp.sane).1;omega)
 have hmem:∀s ∈ p.callsTo f,∃ w y,p.funs[s.1]?=some w/\w.blks[s.2.1]?=some y/\y.ins[s.2.2.1]?=some s.2.2.2:=fun s hs=>Prg.pos_mem.1 (List.mem_filter.1 hs).1
 have hC:=(xE8 (N:=N) hp.fit (hp.fn hf)).ret
 have hP:parX p X f=(p.callsTo f).foldl (callX p X) (parX0 p f):=rfl
 have h0ok:=xMp p f
 have hpar0:f=0->parX0 p f=some (allS z.par 7):=fun h=>by unfold parX0;rw [if_pos h];simp [Prg.parOf,hf]
 have hpar1:f ≠ 0->parX0 p f=none:=fun h=>by unfold parX0;rw [if_neg h]
 rw [hP] at hk
 generalize p.callsTo f=L at *
 generalize parX0 p f=e0 at *
 have hLf:FSl trc 3 (encF trc 3 L) L:=xAl
 conv=>arg 3;reduce
 simp
 generalize hSA:(((S.new (.row 2 [[.bool false,.nilsl]])).new (.row 2 [[.bool false,.nilsl]])).set (S.next + 1) (.row 2 [[.bool false,.nilsl]]))=SA
 have huA:Up S SA:=by rw [<- hSA];exact ((Up.new _ _).trans (Up.new _ _)).put (by omega) _
 have nA:SA.next=S.next + 2:=by rw [<- hSA];simp
 have oA:SA.obj S.next=some (.row 2 [[.bool false,.nilsl]]):=by rw [<- hSA];simp
 have oB:SA.obj (S.next + 1)=some (.row 2 [[.bool false,.nilsl]]):=by rw [<- hSA];simp
 clear hSA
 have hSA:=hS.up huA
 refine Bra.cut (fun F' S1=>F' 0=.ptr ps 0 0/\F' 1=.int .i64 (f:Int)/\F' 2=.sl 2 o 0 p.unks.length/\F' 6=.ptr S.next 0 0/\F' 7=.ptr (S.next + 1) 0 0/\Up S S1/\S.next + 2<=S1.next/\S1.obj S.next=some (.row 2 [[.bool false,.nilsl]])/\S1.obj (S.next + 1)=some (.row 2 [envcS e0])) ?_ ?_
 ·refine xAj (fun h0=>?_) (fun h0=>?_)
  ·subst h0
   rw [hpar0 rfl]
   have hfi:pk (.indexAddr 3) [p.funsV,.int .i64 0]=some (.fptr (func z) 0):=p.funsS.idx hf
   simp [hSA.box,hfi]
   refine (xGR z.par (v:=7) ⟨by omega,by omega⟩).use (n:=9) (by simp [mapOpt]) (by simp [solids,AV.solid]) ?_
   simp [oB]
   exact ⟨huA.put (by omega) _,by omega,oA⟩
  ·rw [hpar1 h0]
   simp
   exact ⟨huA,by omega,oA,oB⟩
 ·rintro F S1 ⟨f0,f1,f2,f6,f7,hu1,hn1,o1A,o1B⟩
  have hS1:=hS.up hu1
  simp [f0,f1,hS1.box]
  refine hC.use (n:=9) (by simp [mapOpt,xAc p.funsS.stab]) (by simp [solids,AV.solid,p.funsS.solid]) ?_
  simp [hLf.len]
  refine W.whileI (fun (k:Nat) F S2=>k<=L.length/\F 0=.ptr ps 0 0/\F 2=.sl 2 o 0 p.unks.length/\F 6=.ptr S.next 0 0/\F 7=.ptr (S.next + 1) 0 0/\F 32=encF trc 3 L/\F 33=.int .i64 L.length/\F 34=.int .i64 k/\Up S S2/\S.next + 2<=S2.next/\S2.obj S.next=some (.row 2 [[.bool false,.nilsl]])/\S2.obj (S.next + 1)=some (.row 2 [envcS ((L.take k).foldl (callX p X) e0)])) (fun k=>L.length - k) ?_ 0 _ _ ?_
  ·rintro k F S2 ⟨hkl,f0,f2,f6,f7,f32,f33,f34,hu,hn,oA,oB⟩
   by_cases hlt:k < L.length
   ·obtain ⟨s,hs⟩:∃ s,L[k]?=some s:=⟨_,xgG hlt⟩
    have e4:=wrapS k (by omega)
    obtain ⟨w,y,hw,hy,hi⟩:=hmem s (xmG hs)
    obtain ⟨gf,gb,gk,i⟩:=s
    simp only at hw hy hi
    have hst:(L.take (k + 1)).foldl (callX p X) e0=callX p X ((L.take k).foldl (callX p X) e0) (gf,gb,gk,i):=xAi _ _ _ _ _ hs
    have hok:((L.take k).foldl (callX p X) e0).ok:=xFO (fun s e he=>xMo s he) _ h0ok
    have hgk:gk < y.ins.length:=(xgS hi).1
    obtain ⟨hil,_,hokI⟩:=hp.blk hw hy
    have hio:=hokI i (xmG hi)
    generalize (L.take k).foldl (callX p X) e0=ee at *
    simp [f33,f34,hlt]
    simp [f32,f34,hLf.idx hs,f0,f2,xAG]
    generalize hS3:(S2.new (.row 3 [[.int .i64 0,.int .i64 0,.int .i64 0]])).set S2.next (.row 3 [[.int .i64 (gf:Int),.int .i64 (gb:Int),.int .i64 (gk:Int)]])=S3
    have hu3:Up S2 S3:=by rw [<- hS3];exact (Up.new _ _).put (Nat.le_refl _) _
    have o3:S3.obj S2.next=some (.row 3 [[.int .i64 (gf:Int),.int .i64 (gb:Int),.int .i64 (gk:Int)]]):=by rw [<- hS3];simp
    have n3:S3.next=S2.next + 1:=by rw [<- hS3];simp
    clear hS3
    refine xFP hp (hS.up (hu.trans hu3)) (hx.up (hu.trans hu3)) hw hy (Nat.le_of_lt hgk) ?_
    have hgu:=xBt S3 (3 + gk)
    have hH:=xCn (p:=p) hx.ok gf gb gk
    have hcx:callX p X ee (gf,gb,gk,i)=match hereX p X gf gb gk with
     | none=>ee
     | some l=>ee.join (some (handS i l)):=rfl
    rw [hcx] at hst
    generalize hereX p X gf gb gk=eh at *
    generalize S3.grow (3 + gk)=S4 at *
    have hu4:=hu3.trans hgu
    have hu04:=hu.trans hu4
    have o4:S4.obj S2.next=some (.row 3 [[.int .i64 (gf:Int),.int .i64 (gb:Int),.int .i64 (gk:Int)]]):=by rw [hgu.2 _ (by omega)];exact o3
    have n4:S2.next + 1<=S4.next:=by have:=hgu.1;omega
    have oA4:S4.obj S.next=some (.row 2 [[.bool false,.nilsl]]):=by rw [hu4.2 _ (by omega)];exact oA
    have oB4:S4.obj (S.next + 1)=some (.row 2 [envcS ee]):=by rw [hu4.2 _ (by omega)];exact oB
    cases eh with
    | none =>
     simp [f0,f2,f6,f7,f32,f33,f34,e4]
     exact ⟨k + 1,by omega,by omega,by omega,hu04.trans ((Up.new _ _).put (Nat.le_refl _) _),by omega,by simp [show ¬ S.next=S4.next by omega,oA4],by simp [show ¬ S.next + 1=S4.next by omega,oB4,hst]⟩
    | some l =>
     simp
     generalize hS5:(S4.new (.row 2 [[.bool false,.nilsl]])).set S4.next (.row 2 [[.bool true,.fsl 1 (els intc l)]])=S5
     have hu5:Up S4 S5:=by rw [<- hS5];exact (Up.new _ _).put (Nat.le_refl _) _
     have o5:S5.obj S4.next=some (.row 2 [[.bool true,.fsl 1 (els intc l)]]):=by rw [<- hS5];simp
     have n5:S5.next=S4.next + 1:=by rw [<- hS5];simp
     clear hS5
     have o59:S5.obj S2.next=some (.row 3 [[.int .i64 (gf:Int),.int .i64 (gb:Int),.int .i64 (gk:Int)]]):=by rw [hu5.2 _ (by omega)];exact o4
     have hS5:=hS.up (hu04.trans hu5)
     have npq:¬ ps=S5.next:=by have:=hS5.lt;omega
     refine Dra.autoR ⟨1,fun q=>if q=ps then S5.obj ps else none⟩ (fun q z h=>?_) [] [5] mix ?_ ?_
     ·simp only at h
      split at h
      ·rename_i e;subst e;exact h
      ·cases h
     ·kernel_rfl
     simp [classes,f0,o59,xAG,hS5.box]
     refine ⟨y.insV,xGQ (av:=av) (mv:=.map qm) (by simp) hw hy,?_⟩
     simp [y.insS.idx hi]
     refine ⟨trivial,?_⟩
     simp
     generalize hS6:(S5.new (.row 11 [[.int .i64 0,.int .i64 0,.int .i64 0,.int .i64 0,.int .i64 0,.int .i64 0,.int .i64 0,.int .i64 0,.int .i64 0,.int .i64 0,.int .i64 0]])).set S5.next (.row 11 [[.int .i64 i.id,.int .i64 i.kind,.int .i64 i.dst,.int .i64 i.a,.int .i64 i.b,.int .i64 i.c,.int .i64 i.f,.int .i64 i.n,.int .i64 i.x0,.int .i64 i.x1,.int .i64 i.x2]])=S6
     have hu6:Up S5 S6:=by rw [<- hS6];exact (Up.new _ _).put (Nat.le_refl _) _
     have o6:S6.obj S5.next=some (.row 11 [insc i]):=by rw [<- hS6];simp
     have n6:S6.next=S5.next + 1:=by rw [<- hS6];simp
     clear hS6
     have hu46:=hu5.trans hu6
     have o6l:S6.obj S4.next=some (.row 2 [envcS (some l)]):=by rw [hu6.2 _ (by omega)];exact o5
     have oA6:S6.obj S.next=some (.row 2 [[.bool false,.nilsl]]):=by rw [hu46.2 _ (by omega)];exact oA4
     have oB6:S6.obj (S.next + 1)=some (.row 2 [envcS ee]):=by rw [hu46.2 _ (by omega)];exact oB4
     have hu06:=hu04.trans hu46
     simp only [insc] at o6
     have hhl:=xGS i l
     have hhg:=fun j=>@xKj i l j
     have hn3:i.n=((capN i.n:Nat):Int)/\capN i.n<=3:=by
      have h1:=hio.2.2.2.1
      have h2:=hio.2.2.2.2.1
      unfold capN;omega
     refine (xE5 i.n (v:=0) xAv).use' (n:=9) ?_ ?_ ?_ <;> simp
     generalize hm:capN i.n=m at *
     have nq5:¬ S5.next=S6.next:=by omega
     have nq5':¬ S5.next=S6.next + 1:=by omega
     simp [nq5,nq5',o6]
     have hin:=hn3.1
     refine W.whileI (fun (j:Nat) F S7=>j<=m/\F 0=.ptr ps 0 0/\F 2=.sl 2 o 0 p.unks.length/\F 6=.ptr S.next 0 0/\F 7=.ptr (S.next + 1) 0 0/\F 10=.ptr S4.next 0 0/\F 11=.ptr S5.next 0 0/\F 12=.ptr (S6.next + 1) 0 0/\F 32=encF trc 3 L/\F 33=.int .i64 L.length/\F 34=.int .i64 k/\F 64=.int .i64 i.n/\F 65=.int .i64 j/\Up S6 S7/\S6.next + 2<=S7.next/\S7.obj (S6.next + 1)=some (.row 2 [[.bool true,.sl 1 S6.next 0 m]])/\∃ q:List Int,q.length=m/\q.take j=(handS i l).take j/\S7.obj S6.next=some (.row 1 (els intc q))) (fun j=>m - j) ?_ 0 _ _ ?_
     ·rintro j F S7 ⟨hj,f0,f2,f6,f7,f10,f11,f12,f32,f33,f34,f64,f65,hu7,hn7,o12,q,hq,hqt,oq⟩
      have oi:S7.obj S5.next=some (.row 11 [insc i]):=by rw [hu7.2 _ (by omega)];exact o6
      have ol:S7.obj S4.next=some (.row 2 [envcS (some l)]):=by rw [hu7.2 _ (by omega)];exact o6l
      have oB7:S7.obj (S.next + 1)=some (.row 2 [envcS ee]):=by rw [hu7.2 _ (by omega)];exact oB6
      have oA7:S7.obj S.next=some (.row 2 [[.bool false,.nilsl]]):=by rw [hu7.2 _ (by omega)];exact oA6
      by_cases hjl:j < m
      ·have e5:=wrapS j (by omega)
       obtain ⟨u,hu'⟩:∃ u,q[j]?=some u:=⟨_,xgG (by omega)⟩
       have hjn:(j:Int) < i.n:=by omega
       have hj3:(j:Int) < 3:=by omega
       have harg:=xMs i (j:=j) (by omega)
       simp only [insc] at oi harg
       simp [f64,f65,hjn]
       refine Dra.auto [] mix ?_ ?_
       ·kernel_rfl
       simp [classes,f10,f11,f12,f65,o12,ol,oi,xAG,hj3,harg]
       refine (xAC (some l) (i.arg j) hH).b (n:=9) (by simp) (by simp [solids,AV.solid]) ?_
       simp [intc,xAd hjl,oq,hu',SEnv.get]
       simp [f0,f2,f6,f7,f10,f11,f12,f32,f33,f34,f64,f65,e5]
       refine ⟨j + 1,by omega,by omega,by omega,hu7.put (Nat.le_refl _) _,by omega,by simp [o12],q.set j (gS l (i.arg j)),by simp [hq],?_,by simp [<- xAg,intc]⟩
       rw [xAo (by omega),hqt,xAe (hhg j hjl)]
      ·have:j=m:=by omega
       subst this
       have hqR:q=handS i l:=by rw [List.take_of_length_le (by omega),List.take_of_length_le (by omega)] at hqt;exact hqt
       subst hqR
       have hjn:¬ (j:Int) < i.n:=by omega
       have hpr:=fun n=>xA6 (e:=intc) (S:=S7) (n:=n) oq hq
       simp [f64,f65,hjn]
       simp [f7,f12,oB7,o12]
       refine (xG9 ee (handS i l) hok (SEnv.ok_some (xMm i l))).use (n:=9) (by simp [mapOpt,hpr]) rfl ?_
       simp [f7,oB7]
       simp [f0,f2,f6,f7,f32,f33,f34,e4]
       refine ⟨k + 1,by omega,by omega,by omega,(hu06.trans hu7).put (by omega) _,by omega,by simp [oA7],by rw [hst]⟩
     ·simp [f0,f2,f6,f7,f32,f33,f34]
      refine ⟨⟨by simp;omega,fun q hq=>by simp [show ¬ q=S6.next by omega,show ¬ q=S6.next + 1 by omega]⟩,List.replicate m 0,by simp,rfl⟩
   ·have:k=L.length:=by omega
    subst this
    rw [List.take_length] at oB
    simp [f33,f34,f6,f7,oA,oB]
    exact hk _ (hu.put (Nat.le_refl _) _)
  ·simp [f0,f2,f6,f7]
   exact ⟨hu1,hn1,o1A,o1B⟩
def retAcc (p:Prg) (X:List SEnv) (l:List Step):Int:=l.foldl (retX p X) 0
set_option maxHeartbeats 1000000 in
theorem xNI {S:St} {p:Prg} {ps qm o f:Nat} {av:AV} {X:List SEnv} {z:Fun} {K:AV->St->Prop} (hp:p.OK) (hS:SysO S p ps av qm) (hx:XRow S o p X) (hf:p.funs[f]?=some z)
  (hk:∀S',Up S S'->K (.agg (envcS (some [sgS (answX p X f)]))) S'):Cal P (gl N) 124 [.ptr ps 0 0,.int .i64 (f:Int),.sl 2 o 0 p.unks.length] S K:=by
 refine Cal.inF (by kernel_rfl) ?_
 have hA:answX p X f=retAcc p X (z.posTo f z.blks.length):=by unfold answX Prg.posF;rw [hf];rfl
 rw [hA] at hk
 have hbl:=(hp.fun hf).len.2
 have npq:¬ ps=S.next:=by have:=hS.lt;omega
 conv=>arg 3;reduce
 simp [hS.box,npq,p.funsS.idx hf,z.blksS.len]
 generalize hS0:S.new (.row 2 [[.bool false,.nilsl]])=S0
 have hu0:Up S S0:=by rw [<- hS0];exact Up.new _ _
 have o0:S0.obj S.next=some (.row 2 [[.bool false,.nilsl]]):=by rw [<- hS0];simp
 have n0:S0.next=S.next + 1:=by rw [<- hS0];simp
 clear hS0
 refine W.whileI (fun (b:Nat) F S2=>b<=z.blks.length/\F 0=.ptr ps 0 0/\F 1=.int .i64 (f:Int)/\F 2=.sl 2 o 0 p.unks.length/\F 6=.ptr S.next 0 0/\F 7=.int .i64 (retAcc p X (z.posTo f b))/\F 20=.int .i64 z.blks.length/\F 21=.int .i64 b/\Up S0 S2) (fun b=>z.blks.length - b) ?_ 0 _ _ ?_
 ·rintro b F S2 ⟨hb,f0,f1,f2,f6,f7,f20,f21,hu⟩
  by_cases hlt:b < z.blks.length
  ·obtain ⟨y,hy⟩:∃ y,z.blks[b]?=some y:=⟨_,xgG hlt⟩
   have e4:=wrapS b (by omega)
   obtain ⟨hil,_,hokI⟩:=hp.blk hf hy
   have hst:=Fun.posTo_succ (g:=f) hy
   simp [f20,f21,hlt]
   simp [f0,f1,f21]
   refine xMr (av:=av) (mv:=.map qm) (hS.up (hu0.trans hu)).box hf hy ?_
   simp [y.insS.len]
   refine W.whileI (fun (c:Nat) F S3=>c<=y.ins.length/\F 0=.ptr ps 0 0/\F 1=.int .i64 (f:Int)/\F 2=.sl 2 o 0 p.unks.length/\F 6=.ptr S.next 0 0/\F 7=.int .i64 (retAcc p X (z.posTo f b ++ y.posTo f b c))/\F 8=.int .i64 b/\F 20=.int .i64 z.blks.length/\F 21=.int .i64 b/\F 27=y.insV/\F 28=.int .i64 y.ins.length/\F 29=.int .i64 c/\Up S0 S3) (fun c=>y.ins.length - c) ?_ 0 _ _ ?_
   ·rintro c F S3 ⟨hc,f0,f1,f2,f6,f7,f8,f20,f21,f27,f28,f29,hu3⟩
    by_cases hltc:c < y.ins.length
    ·obtain ⟨i,hi⟩:∃ i,y.ins[c]?=some i:=⟨_,xgG hltc⟩
     have e5:=wrapS c (by omega)
     have hst2:=Blk.posTo_succ (g:=f) (b:=b) hi
     have hacc:sgOk (retAcc p X (z.posTo f b ++ y.posTo f b c)):=(xCD (p:=p) (XLe.refl X) _ xAv xAv (xAx xAv)).2
     have hnext:retAcc p X (z.posTo f b ++ y.posTo f b (c + 1))=retX p X (retAcc p X (z.posTo f b ++ y.posTo f b c)) (f,b,c,i):=by unfold retAcc;rw [hst2,<- List.append_assoc,List.foldl_append];rfl
     generalize retAcc p X (z.posTo f b ++ y.posTo f b c)=acc at *
     simp [f28,f29,hltc]
     simp [f27,f29,y.insS.idx hi]
     generalize hS4:(S3.new (.row 11 [[.int .i64 0,.int .i64 0,.int .i64 0,.int .i64 0,.int .i64 0,.int .i64 0,.int .i64 0,.int .i64 0,.int .i64 0,.int .i64 0,.int .i64 0]])).set S3.next (.row 11 [[.int .i64 i.id,.int .i64 i.kind,.int .i64 i.dst,.int .i64 i.a,.int .i64 i.b,.int .i64 i.c,.int .i64 i.f,.int .i64 i.n,.int .i64 i.x0,.int .i64 i.x1,.int .i64 i.x2]])=S4
     have hu4:Up S3 S4:=by rw [<- hS4];exact (Up.new _ _).put (Nat.le_refl _) _
     have o4:S4.obj S3.next=some (.row 11 [[.int .i64 i.id,.int .i64 i.kind,.int .i64 i.dst,.int .i64 i.a,.int .i64 i.b,.int .i64 i.c,.int .i64 i.f,.int .i64 i.n,.int .i64 i.x0,.int .i64 i.x1,.int .i64 i.x2]]):=by rw [<- hS4];simp
     have n4:S4.next=S3.next + 1:=by rw [<- hS4];simp
     clear hS4
     have hu04:=(hu0.trans hu3).trans hu4
     by_cases h9:i.kind=9
     ·have hH:=xCn (p:=p) hx.ok f b c
      have hret:retX p X acc (f,b,c,i)=sgJ acc ((hereX p X f b c).get i.a):=by unfold retX;rw [if_pos h9]
      simp [o4,h9]
      refine Dra.autoR ⟨1,fun q=>if q=S3.next then S4.obj S3.next else none⟩ (fun q z h=>?_) [6] [8] mix ?_ ?_
      ·simp only at h
       split at h
       ·rename_i e;subst e;exact h
       ·cases h
      ·kernel_rfl
      simp [classes,f0,f1,f2,f7,f8,o4]
      refine ⟨_,_,xFP hp (hS.up hu04) (hx.up hu04) hf hy hc ⟨rfl,rfl⟩,?_,?_⟩
      ·intro q z h
       simp only at h
       split at h
       ·rename_i e;subst e
        rw [(xBt S4 (3 + c)).2 _ (by omega),o4];exact h
       ·cases h
      ·simp
       have sub:∀m,Sub (⟨1,fun q=>if q=S3.next then some (.row 11 [[.int .i64 i.id,.int .i64 i.kind,.int .i64 i.dst,.int .i64 i.a,.int .i64 i.b,.int .i64 i.c,.int .i64 i.f,.int .i64 i.n,.int .i64 i.x0,.int .i64 i.x1,.int .i64 i.x2]]) else none⟩:St) (S4.grow m):=fun m q z h=>by
        simp only at h
        split at h
        ·rename_i e;subst e
         rw [(xBt S4 m).2 _ (by omega),o4];exact h
        ·cases h
       refine ⟨_,_,(xAC (hereX p X f b c) i.a hH).use (n:=9) (by simp) (by simp [solids,AV.solid]) ⟨rfl,rfl⟩,sub _,?_⟩
       simp
       refine ⟨_,_,(xEs hacc (SEnv.get_ok (hereX p X f b c) i.a)).use (n:=9) (by simp [mapOpt]) (by simp [solids,AV.solid]) ⟨rfl,rfl⟩,sub _,?_⟩
       simp [f0,f1,f2,f6,f8,f20,f21,f27,f28,f29,e5]
       exact ⟨c + 1,by omega,by omega,by rw [hnext,hret],by omega,(hu3.trans hu4).trans (xBt S4 _)⟩
     ·have hret:retX p X acc (f,b,c,i)=acc:=by unfold retX;rw [if_neg h9]
      simp [o4,h9,f0,f1,f2,f6,f7,f8,f20,f21,f27,f28,f29,e5]
      exact ⟨c + 1,by omega,by omega,by rw [hnext,hret],by omega,hu3.trans hu4⟩
    ·have:c=y.ins.length:=by omega
     subst this
     simp [f28,f29,f0,f1,f2,f6,f7,f20,f21,e4]
     exact ⟨b + 1,by omega,by omega,by rw [hst],by omega,hu3⟩
   ·simp [f0,f1,f2,f6,f7,f20,f21]
    exact ⟨by simp [Blk.posTo],hu⟩
  ·have:b=z.blks.length:=by omega
   subst this
   have hacc:sgOk (retAcc p X (z.posTo f z.blks.length)):=(xCD (p:=p) (XLe.refl X) _ xAv xAv (xAx xAv)).2
   generalize retAcc p X (z.posTo f z.blks.length)=acc at *
   have hall:allS 1 acc=[sgS acc]:=rfl
   simp [f20,f21,f7]
   refine (xGR 1 (v:=acc) hacc).use (n:=9) (by simp [mapOpt]) (by simp [solids,AV.solid]) ?_
   rw [hall]
   have o2:S2.obj S.next=some (.row 2 [[.bool false,.nilsl]]):=by rw [hu.2 _ (by omega)];exact o0
   simp [f6,o2]
   exact hk _ ((hu0.trans hu).put (Nat.le_refl _) _)
 ·simp
  exact ⟨rfl,Up.refl _⟩
end Go.Proofs.YtnhfofmhkfdpgaaGreatDoor.Vm
