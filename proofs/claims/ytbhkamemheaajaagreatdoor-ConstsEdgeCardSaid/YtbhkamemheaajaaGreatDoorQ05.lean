/- A part of the proof: Vn Vo Vp. -/
import Derived.LoopN
import Derived.OrdersIn
import Derived.RangeFuncIn
import Derived.RangeFuncRecord
import Derived.RangeFuncNested
import Derived.Test.YtbhkamemheaajaaGreatDoorQ04
set_option linter.unusedVariables false
set_option linter.unusedSimpArgs false
set_option linter.constructorNameAsVariable false
namespace Go.Proofs.YtbhkamemheaajaaGreatDoor.Vm
open Go Go.RowKit
theorem solids_iff:∀{xs:List AV},solids xs=true ↔ ∀x ∈ xs,x.solid=true
 | []=>by simp [solids]
 | x :: xs=>by simp [solids,solids_iff (xs:=xs)]
theorem youngs_iff:∀{xs:List AV},youngs xs=true ↔ ∀x ∈ xs,x.young=true
 | []=>by simp [youngs]
 | x :: xs=>by simp [youngs,youngs_iff (xs:=xs)]
theorem youngss_iff:∀{xs:List (List AV)},youngss xs=true ↔ ∀x ∈ xs.flatten,x.young=true
 | []=>by simp [youngss]
 | x :: xs=>by
  simp only [youngss,Bool.and_eq_true,youngs_iff,youngss_iff (xs:=xs),List.flatten_cons,List.mem_append]
  exact ⟨fun h y hy=>hy.elim (h.1 y) (h.2 y),fun h=>⟨fun y hy=>h y (.inl hy),fun y hy=>h y (.inr hy)⟩⟩
theorem youngo_get {E:St} (h:youngo E) {i:Nat} {x:AObj} (hx:E.obj i=some x):x.young=true:=h i x hx
def YoungS (S:St):Prop:=∀o x,S.obj o=some x→x.young=true
theorem mapOpt_mem {α β:Type} {f:α→Option β}:∀{l:List α} {m:List β},mapOpt f l=some m→∀y ∈ m,∃ x ∈ l,f x=some y
 | l,m,h,y,hy=>by
  rcases mapOpt_some h with ⟨rfl,rfl⟩ | ⟨x,xs,z,zs,rfl,rfl,h1,h2⟩
  ·simp at hy
  ·rcases List.mem_cons.1 hy with rfl | hy
   ·exact ⟨x,by simp,h1⟩
   ·obtain ⟨u,hu,hf⟩:=mapOpt_mem h2 y hy
    exact ⟨u,by simp [hu],hf⟩
 termination_by l=>l.length
theorem mapOpt_flat {f:AV→Option AV}:∀{es:List (List AV)} {fs:List (List AV)},mapOpt (mapOpt f) es=some fs→mapOpt f es.flatten=some fs.flatten
 | es,fs,h=>by
  rcases mapOpt_some h with ⟨rfl,rfl⟩ | ⟨e,es',g,fs',rfl,rfl,h1,h2⟩
  ·rfl
  ·have:=mapOpt_flat h2
   simp only [List.flatten_cons]
   have key:∀{a b:List AV} {c d:List AV},mapOpt f a=some c→mapOpt f b=some d→mapOpt f (a ++ b)=some (c ++ d):=by
    intro a
    induction a with
    | nil=>intro b c d h1 h2;simp [mapOpt] at h1;subst h1;simpa using h2
    | cons x a ih =>
     intro b c d h1 h2
     simp only [mapOpt] at h1
     split at h1
     ·rename_i y ys hy hys
      simp only [Option.some.injEq] at h1;subst h1
      simp [mapOpt,hy,ih hys h2]
     ·cases h1
   exact key h1 this
 termination_by es=>es.length
theorem mapOpt_lens {f:AV→Option AV} {sz:Nat}:∀{es fs:List (List AV)},mapOpt (mapOpt f) es=some fs→(∀e ∈ es,e.length=sz)→fs.length=es.length∧∀e ∈ fs,e.length=sz:=by
 intro es fs h hs
 refine ⟨mapOpt_length h,fun e he=>?_⟩
 obtain ⟨x,hx,hf⟩:=mapOpt_mem h e he
 rw [mapOpt_length hf,hs x hx]
section
variable {C D:Ctx}
theorem picts_vr' {p:AV→Prop} (f:AV→Option AV) (hf:∀x y v,p x→f x=some y→VR C v x→VR D v y∧y.solid=true):∀{vs:List Value} {xs ys:List AV},VRs C vs xs→(∀x ∈ xs,p x)→mapOpt f xs=some ys→VRs D vs ys∧∀y ∈ ys,y.solid=true
 | _,_,ys,.nil,hp,h=>by simp [mapOpt] at h;subst h;exact ⟨.nil,by simp⟩
 | _,_,ys,.cons v x vs xs hv hvs,hp,h=>by
  rcases mapOpt_some h with ⟨h1,_⟩ | ⟨x',xs',y,ys',h1,rfl,h2,h3⟩
  ·cases h1
  ·cases h1
   obtain ⟨a1,a2⟩:=hf x y v (hp x (by simp)) h2 hv
   obtain ⟨b1,b2⟩:=picts_vr' f hf hvs (fun z hz=>hp z (by simp [hz])) h3
   exact ⟨.cons _ _ _ _ a1 b1,by intro z hz;rcases List.mem_cons.1 hz with rfl | hz;exact a2;exact b2 z hz⟩
mutual
theorem frozen_vr (hw:D.w=C.w) (hD:∀b,b < C.w.heap.size→¬ C.bad b→¬ D.bad b):∀{v:Value} {x:AV},VR C v x→x.solid=true→VR D v x
 | _,_,.int k n,_=>.int k n
 | _,_,.bool b,_=>.bool b
 | _,_,.str s,_=>.str s
 | _,_,.nilptr,_=>.nilptr
 | _,_,.ptr o i off l h,hs=>by simp [AV.solid] at hs
 | _,_,.fptr b q off vs cells hc hv hso hb hl,hs=>by simp [AV.solid] at hs
 | _,_,.nilsl a,_=>.nilsl a
 | _,_,.fsl b q cap sz vs es hc hs hv hso hb hl hcap,_=>.fsl b q cap sz vs es (hw ▸ hc) hs (frozen_vrs hw hD hv hso) hso (hD b hl hb) (hw ▸ hl) hcap
 | _,_,.fnil a cap sz,_=>.fnil a cap sz
 | _,_,.sl sz o off len cap l c e f h hz hh hm hcap,hs=>by simp [AV.solid] at hs
 | _,_,.slnil a sz o off,hs=>by simp [AV.solid] at hs
 | _,_,.asl sz o i off len cap l h hcap,hs=>by simp [AV.solid] at hs
 | _,_,.aslnil a cap sz o i off,hs=>by simp [AV.solid] at hs
 | _,_,.nilmap,_=>.nilmap
 | _,_,.map o l h,hs=>by simp [AV.solid] at hs
 | _,_,.nilfunc,_=>.nilfunc
 | _,_,.func fn a c xs ys ha hc,hs=>by
  simp only [AV.solid,Bool.and_eq_true,solids_iff] at hs
  exact .func fn a c xs ys (frozen_vrs hw hD ha hs.1) (frozen_vrs hw hD hc hs.2)
 | _,_,.niliface,_=>.niliface
 | _,_,.anyi k n,_=>.anyi k n
 | _,_,.iface t v x h,hs=>.iface t v x (frozen_vr hw hD h (by simpa [AV.solid] using hs))
 | _,_,.agg vs cs h,hs=>.agg vs cs (frozen_vrs hw hD h (by simpa [AV.solid,solids_iff] using hs))
 | _,_,.tuple vs cs h,hs=>.tuple vs cs (frozen_vrs hw hD h (by simpa [AV.solid,solids_iff] using hs))
 | _,_,.yield o l h,hs=>by simp [AV.solid] at hs
theorem frozen_vrs (hw:D.w=C.w) (hD:∀b,b < C.w.heap.size→¬ C.bad b→¬ D.bad b):∀{vs:List Value} {xs:List AV},VRs C vs xs→(∀x ∈ xs,x.solid=true)→VRs D vs xs
 | _,_,.nil,_=>.nil
 | _,_,.cons v x vs xs h hs,hx=>.cons v x vs xs (frozen_vr hw hD h (hx x (by simp))) (frozen_vrs hw hD hs (fun y hy=>hx y (by simp [hy])))
end
theorem pict_vr (hR:Rel C) (hw:D.w=C.w) (n:Nat):∀(x y:AV) (v:Value),
  ((∀b,b < C.w.heap.size→¬ C.bad b→¬ D.bad b) ∨ (x.young=true∧YoungS C.S))→((∀b,C.own b→¬ D.bad b) ∨ x.solid=true)→pict C.S [] n x=some y→VR C v x→VR D v y∧y.solid=true:=by
 induction n with
 | zero=>intro x y v _ _ h;simp [pict] at h
 | succ n ih =>
  intro x y v hfr hown hp hv
  have rows:∀(sz:Nat) (es fs:List (List AV)) (vs:List Value),(∀b,C.own b→¬ D.bad b)→((∀b,b < C.w.heap.size→¬ C.bad b→¬ D.bad b) ∨ ((∀z ∈ es.flatten,z.young=true)∧YoungS C.S))→(∀e ∈ es,e.length=sz)→mapOpt (mapOpt (pict C.S [] n)) es=some fs→VRs C vs es.flatten →
    VRs D vs fs.flatten∧(∀z ∈ fs.flatten,z.solid=true)∧fs.length=es.length∧∀e ∈ fs,e.length=sz:=by
   intro sz es fs vs ho hfr hs hm hvs
   have hm':=mapOpt_flat hm
   obtain ⟨l1,l2⟩:=mapOpt_lens hm hs
   rcases hfr with hfr | ⟨hy,hY⟩
   ·obtain ⟨a1,a2⟩:=picts_vr' (p:=fun _=>True) (pict C.S [] n) (fun x y v _ h1 h2=>ih x y v (.inl hfr) (.inl ho) h1 h2) hvs (fun _ _=>trivial) hm'
    exact ⟨a1,a2,l1,l2⟩
   ·obtain ⟨a1,a2⟩:=picts_vr' (p:=fun z=>z.young=true) (pict C.S [] n) (fun x y v hx h1 h2=>ih x y v (.inr ⟨hx,hY⟩) (.inl ho) h1 h2) hvs hy hm'
    exact ⟨a1,a2,l1,l2⟩
  have many:∀(xs ys:List AV) (vs:List Value),((∀b,b < C.w.heap.size→¬ C.bad b→¬ D.bad b) ∨ (youngs xs=true∧YoungS C.S))→((∀b,C.own b→¬ D.bad b) ∨ solids xs=true)→mapOpt (pict C.S [] n) xs=some ys→VRs C vs xs→VRs D vs ys∧∀z ∈ ys,z.solid=true:=by
   intro xs ys vs hfr ho hm hvs
   refine picts_vr' (p:=fun z=>z ∈ xs) (pict C.S [] n) (fun x y v hx h1 h2=>ih x y v ?_ ?_ h1 h2) hvs (fun _ h=>h) hm
   ·rcases hfr with h | ⟨h,hY⟩
    ·exact .inl h
    ·exact .inr ⟨youngs_iff.1 h x hx,hY⟩
   ·rcases ho with h | h
    ·exact .inl h
    ·exact .inr (solids_iff.1 h x hx)
  have slices:∀(sz o off len:Nat) (es fs:List (List AV)) (l:Loc) (cap:Nat),(∀b,C.own b→¬ D.bad b)→C.μ o=some l→l.sz=sz→len≤cap→elems C.S (.sl sz o off len)=some es→((∀b,b < C.w.heap.size→¬ C.bad b→¬ D.bad b) ∨ YoungS C.S)→mapOpt (mapOpt (pict C.S [] n)) es=some fs →
    VR D (.slice (some ⟨l.blk,l.off + off * sz,none⟩) len cap) (.fsl sz fs)∧(AV.fsl sz fs).solid=true:=by
   intro sz o off len es fs l cap ho hl hlz hcap he hfr hm
   refine ⟨?_,rfl⟩
   rcases elems_absent he with ⟨es0,h1,h2,rfl⟩ | ⟨rfl,rfl⟩
   ·by_cases hlen:len=0
    ·subst hlen;simp [mapOpt] at hm;subst hm;exact .fnil _ _ _
    ·have hlt:off < es0.length:=by omega
     obtain ⟨l',c',ty,vs,k1,k2,k3,k4,k5,k6,k7,k8,_⟩:=row_elem hR h1 (List.getElem?_eq_getElem hlt)
     rw [hl] at k1;cases k1
     have hrel:VRs C ((vs.drop (off * sz)).take (len * sz)) ((es0.drop off).take len).flatten:=by
      rw [flat_take _ (fun x hx=>k6 x (List.mem_of_mem_drop hx)),flat_drop _ k6]
      exact (k8.drop _).take _
     have hs:∀e ∈ (es0.drop off).take len,e.length=sz:=fun x hx=>k6 x (List.mem_of_mem_drop (List.mem_of_mem_take hx))
     obtain ⟨a1,a2,a3,a4⟩:=rows sz _ fs _ ho (hfr.imp id fun hY=>⟨fun z hz=>by
      have:=hY o _ h1
      simp only [AObj.young,youngss_iff] at this
      refine this z ?_
      obtain ⟨m,hm1,hm2⟩:=List.mem_flatten.1 hz
      exact List.mem_flatten.2 ⟨m,List.mem_of_mem_drop (List.mem_of_mem_take hm1),hm2⟩,hY⟩) hs hm hrel
     have hlen':fs.length=len:=by rw [a3];simp;omega
     have hc:Cells C.w l.blk (l.off + off * sz) ((vs.drop (off * sz)).take (len * sz)):=by
      have:Cells C.w l.blk l.off vs:=by
       intro j v hj
       rw [cell_of_row C.w l.blk _ c' ty (0,0) k4]
       exact k7 j v hj
      exact (this.drop _).take _
     have:=VR.fsl (C:=D) l.blk (l.off + off * sz) cap sz _ fs (hw ▸ hc) a4 a1 a2 (ho l.blk ⟨o,l,_,h1,hl,rfl⟩) (by rw [hw];exact (Array.getElem?_eq_some_iff.1 k4).1) (by omega)
     rwa [hlen'] at this
   ·simp [mapOpt] at hm;subst hm;exact .fnil _ _ _
  cases hv with
  | int k m=>simp [pict] at hp;subst hp;exact ⟨.int _ _,rfl⟩
  | bool b=>simp [pict] at hp;subst hp;exact ⟨.bool _,rfl⟩
  | str s=>simp [pict] at hp;subst hp;exact ⟨.str _,rfl⟩
  | nilptr=>simp [pict] at hp;subst hp;exact ⟨.nilptr,rfl⟩
  | ptr o i off l h=>simp [pict] at hp
  | fptr b q off vs cells hc hv hso hb hl=>simp [pict] at hp
  | nilsl a=>simp [pict] at hp;subst hp;exact ⟨.nilsl _,rfl⟩
  | fsl b q cap sz vs es hc hs hv hso hb hl hcap =>
   simp [pict] at hp;subst hp
   refine ⟨?_,rfl⟩
   rcases hfr with hfr | ⟨hy,_⟩
   ·exact frozen_vr hw hfr (.fsl b q cap sz vs es hc hs hv hso hb hl hcap) rfl
   ·simp only [AV.young,List.isEmpty_iff] at hy
    subst hy;exact .fnil _ _ _
  | fnil a cap sz=>simp [pict] at hp;subst hp;exact ⟨.fnil _ _ _,rfl⟩
  | sl sz o off len cap l c e f h hz hh hm hcap =>
   simp only [pict,List.idxOf?_nil] at hp
   rcases hown with hown | hs
   ·split at hp
    ·rename_i es he
     simp only [Option.map_eq_some_iff] at hp
     obtain ⟨fs,hm',rfl⟩:=hp
     exact slices sz o off len es fs l cap hown h hz hcap he (hfr.imp id (·.2)) hm'
    ·cases hp
   ·simp [AV.solid] at hs
  | slnil a sz o off =>
   simp only [pict,List.idxOf?_nil] at hp
   split at hp
   ·rename_i es he
    simp only [Option.map_eq_some_iff] at hp
    obtain ⟨fs,hm',rfl⟩:=hp
    have hes:es=[]:=by
     rcases elems_absent he with ⟨es0,h1,h2,rfl⟩ | ⟨_,rfl⟩
     ·simp
     ·rfl
    subst hes
    simp [mapOpt] at hm';subst hm'
    exact ⟨.fnil _ _ _,rfl⟩
   ·cases hp
  | asl sz o i off len cap l h hcap =>
   simp only [pict] at hp
   rcases hown with hown | hs
   ·split at hp
    ·rename_i es he
     simp only [Option.map_eq_some_iff] at hp
     obtain ⟨fs,hm',rfl⟩:=hp
     refine ⟨?_,rfl⟩
     simp only [elems] at he
     split at he
     ·rename_i sz'' es0 hobj
      split at he
      ·rename_i e hel
       split at he
       ·rename_i hle
        simp only [Option.some.injEq] at he;subst he
        obtain ⟨l',c',ty,vs,k1,k2,k3,k4,k5,k6,k7,k8,k9,k10,k11,k12⟩:=row_elem hR hobj hel
        rw [h] at k1;cases k1
        have hflat:∀(k:Nat) (m:List AV),k * sz≤m.length→(cutL sz k m).flatten=m.take (k * sz)∧(cutL sz k m).length=k∧∀e ∈ cutL sz k m,e.length=sz:=by
         intro k
         induction k with
         | zero=>intro m _;simp [cutL]
         | succ k ihk =>
          intro m hm
          rw [Nat.add_mul] at hm
          obtain ⟨i1,i2,i3⟩:=ihk (m.drop sz) (by simp;omega)
          refine ⟨?_,by simp [cutL,i2],?_⟩
          ·simp only [cutL,List.flatten_cons,i1]
           rw [Nat.add_mul,Nat.one_mul,Nat.add_comm (k * sz) sz,List.take_add]
          ·intro e he
           simp only [cutL,List.mem_cons] at he
           rcases he with rfl | he
           ·simp;omega
           ·exact i3 e he
        obtain ⟨f1,f2,f3⟩:=hflat len (e.drop off) (by simp;omega)
        have hrel:=(k10.drop off).take (len * sz)
        rw [← f1] at hrel
        obtain ⟨a1,a2,a3,a4⟩:=rows sz _ fs _ hown (hfr.imp id fun hY=>⟨fun z hz=>by
         have:=hY.2 o _ hobj
         simp only [AObj.young,youngss_iff] at this
         rw [f1] at hz
         exact this z (List.mem_flatten.2 ⟨e,List.mem_of_getElem? hel,List.mem_of_mem_drop (List.mem_of_mem_take hz)⟩),hY.2⟩) f3 hm' hrel
        rw [← k2] at k9
        have:=VR.fsl (C:=D) l.blk (l.off + i * l.sz + off) cap sz _ fs (hw ▸ ((k9.drop off).take (len * sz))) a4 (by rw [k2];exact a1) a2 (hown l.blk ⟨o,l,_,hobj,h,rfl⟩) (by rw [hw];exact (Array.getElem?_eq_some_iff.1 k4).1) (by rw [a3,f2];exact hcap)
        rwa [a3,f2] at this
       ·cases he
      ·cases he
     ·cases he
    ·cases hp
   ·simp [AV.solid] at hs
  | aslnil a cap sz o i off =>
   simp only [pict] at hp
   split at hp
   ·rename_i es he
    simp only [Option.map_eq_some_iff] at hp
    obtain ⟨fs,hm',rfl⟩:=hp
    have hes:es=[]:=by
     simp only [elems] at he
     split at he
     ·split at he
      ·split at he
       ·simp only [Option.some.injEq] at he;rw [← he];rfl
       ·cases he
      ·cases he
     ·cases he
    subst hes
    simp [mapOpt] at hm';subst hm'
    exact ⟨.fnil _ _ _,rfl⟩
   ·cases hp
  | nilmap=>simp [pict] at hp;subst hp;exact ⟨.nilmap,rfl⟩
  | map o l h=>simp [pict] at hp
  | yield o l h=>simp [pict] at hp
  | nilfunc=>simp [pict] at hp;subst hp;exact ⟨.nilfunc,rfl⟩
  | func fn a c xs ys ha hc =>
   simp only [pict] at hp
   split at hp
   ·rename_i a' b' h1 h2
    simp only [Option.some.injEq] at hp;subst hp
    obtain ⟨p1,p2⟩:=many xs a' a (hfr.imp id fun h=>⟨by simpa [AV.young] using (by simpa [AV.young] using h.1:youngs xs=true∧youngs ys=true).1,h.2⟩) (hown.imp id fun h=>(by simpa [AV.solid] using h:solids xs=true∧solids ys=true).1) h1 ha
    obtain ⟨q1,q2⟩:=many ys b' c (hfr.imp id fun h=>⟨(by simpa [AV.young] using h.1:youngs xs=true∧youngs ys=true).2,h.2⟩) (hown.imp id fun h=>(by simpa [AV.solid] using h:solids xs=true∧solids ys=true).2) h2 hc
    exact ⟨.func _ _ _ _ _ p1 q1,by simp [AV.solid,solids_iff];exact ⟨p2,q2⟩⟩
   ·cases hp
  | niliface=>simp [pict] at hp;subst hp;exact ⟨.niliface,rfl⟩
  | anyi k m=>simp [pict] at hp;subst hp;exact ⟨.anyi k m,rfl⟩
  | iface t v x h =>
   simp only [pict,Option.map_eq_some_iff] at hp
   obtain ⟨y',h1,rfl⟩:=hp
   obtain ⟨p1,p2⟩:=ih x y' v (hfr.imp id fun h=>⟨by simpa [AV.young] using h.1,h.2⟩) (hown.imp id fun h=>by simpa [AV.solid] using h) h1 h
   exact ⟨.iface _ _ _ p1,by simpa [AV.solid] using p2⟩
  | agg vs cs h =>
   simp only [pict,Option.map_eq_some_iff] at hp
   obtain ⟨y',h1,rfl⟩:=hp
   obtain ⟨p1,p2⟩:=many cs y' vs (hfr.imp id fun h=>⟨by simpa [AV.young] using h.1,h.2⟩) (hown.imp id fun h=>by simpa [AV.solid] using h) h1 h
   exact ⟨.agg _ _ p1,by simpa [AV.solid,solids_iff] using p2⟩
  | tuple vs cs h =>
   simp only [pict,Option.map_eq_some_iff] at hp
   obtain ⟨y',h1,rfl⟩:=hp
   obtain ⟨p1,p2⟩:=many cs y' vs (hfr.imp id fun h=>⟨by simpa [AV.young] using h.1,h.2⟩) (hown.imp id fun h=>by simpa [AV.solid] using h) h1 h
   exact ⟨.tuple _ _ p1,by simpa [AV.solid,solids_iff] using p2⟩
end
end Go.Proofs.YtbhkamemheaajaaGreatDoor.Vm
namespace Go.Proofs.YtbhkamemheaajaaGreatDoor.Vm
open Go Go.RowKit
def Ctx.retAt (C:Ctx) (id nx:Nat) (w':World) (μ':Nat→Option Loc) (objs:St):Ctx :=
 ⟨w',C.base,C.av,fun q=>if id≤q∧q < id + objs.next then μ' (q - id) else C.μ q,⟨nx,fun q=>if id≤q∧q < id + objs.next then (objs.obj (q - id)).bind (AObj.shift id) else C.S.obj q⟩⟩
structure Free (C:Ctx) (id len nx:Nat):Prop where
 no:∀q,id≤q→q < id + len→C.S.obj q=none∧C.μ q=none
 le:id + len≤nx
 nx:C.S.next≤nx
theorem Rel.free {C:Ctx} (h:Rel C) (len:Nat):Free C C.S.next len (C.S.next + len) where
 no q h1 h2:=by
  refine ⟨?_,?_⟩
  ·cases e:C.S.obj q with
   | none=>rfl
   | some x=>have:=h.lt _ _ e;omega
  ·cases e:C.μ q with
   | none=>rfl
   | some l=>have:=h.fresh _ _ e;omega
 le:=by omega
 nx:=by omega
def Ctx.end (w0 w':World) (av':Nat→Prop) (μ':Nat→Option Loc) (objs:St):Ctx:=⟨w',w0.heap.size,av',μ',objs⟩
section
variable {C:Ctx} {w':World} {av':Nat→Prop} {μ':Nat→Option Loc} {objs:St} {id nx:Nat}
theorem ret_own (hR:Rel C) {b:Nat} (h:(C.retAt id nx w' μ' objs).own b):(C.own b∧b < C.w.heap.size) ∨ (Ctx.end C.w w' av' μ' objs).own b:=by
 obtain ⟨q,l,x,h1,h2,h3⟩:=h
 simp only [Ctx.retAt] at h1 h2
 by_cases e:¬ (id≤q∧q < id + objs.next)
 ·rw [if_neg e] at h1 h2
  exact .inl ⟨⟨q,l,x,h1,h2,h3⟩,h3 ▸ hR.blk_lt h1 h2⟩
 ·rw [if_pos (Decidable.not_not.1 e)] at h1 h2
  simp only [Option.bind_eq_some_iff] at h1
  obtain ⟨y,hy,hsh⟩:=h1
  exact .inr ⟨q - id,l,y,hy,h2,h3⟩
theorem ret_bad (hR:Rel C) {b:Nat} (hfr:∀b,b < C.w.heap.size→¬ av' b→¬ C.bad b) (h:¬ (Ctx.end C.w w' av' μ' objs).bad b):¬ (C.retAt id nx w' μ' objs).bad b:=by
 intro hb
 have hav:∀hlt:b < C.w.heap.size,¬ C.bad b:=fun hlt=>hfr b hlt fun ha=>h (.inl ⟨hlt,ha⟩)
 rcases hb with ⟨h1,h2⟩ | hb
 ·have h1':b < C.base:=h1
  have:=hR.basele
  exact hav (by omega) (.inl ⟨h1,h2⟩)
 ·rcases ret_own (av':=av') hR hb with ⟨h1,h2⟩ | h1
  ·exact hav h2 (.inr h1)
  ·exact h (.inr h1)
theorem ret_le (hR:Rel C) (hB:Below C.w.heap.size C.w w') (hE:Rel (Ctx.end C.w w' av' μ' objs)) (hfree:Free C id objs.next nx):Le C (C.retAt id nx w' μ' objs) where
 base:=rfl
 av:=rfl
 μ q l hl:=by
  simp only [Ctx.retAt]
  rw [if_neg (by rintro ⟨h1,h2⟩;rw [(hfree.no q h1 h2).2] at hl;cases hl)];exact hl
 size:=hB.size
 cells b c e f hb:=⟨c,f,(hB.block b (Array.getElem?_eq_some_iff.1 hb).1).trans hb,rfl⟩
 keep b hb hn:=by
  refine ⟨hB.block b hb,?_⟩
  rintro (⟨h1,h2⟩ | h)
  ·exact hn (.inl ⟨h1,h2⟩)
  ·rcases ret_own (av':=av') hR h with ⟨h1,_⟩ | ⟨q,l,x,h1,h2,h3⟩
   ·exact hn (.inr h1)
   ·have:=hE.low q x l h1 h2
    have:C.w.heap.size≤l.blk:=this
    omega
 below:=hB.mono hR.basele
 loops b r hb:=⟨r,(hB.block b (Array.getElem?_eq_some_iff.1 hb).1).trans hb⟩
theorem shifts_map (n:Nat):∀xs:List AV,shifts n xs=xs.map (AV.shift n)
 | []=>rfl
 | x :: xs=>by simp [shifts,shifts_map n xs]
theorem shiftss_flat (n:Nat):∀es:List (List AV),(shiftss n es).flatten=shifts n es.flatten
 | []=>rfl
 | e :: es=>by simp [shiftss,shiftss_flat n es,shifts_map]
theorem shiftss_map (n:Nat):∀es:List (List AV),shiftss n es=es.map (shifts n)
 | []=>rfl
 | e :: es=>by simp [shiftss,shiftss_map n es]
mutual
theorem back_vr (hR:Rel C) (hE:Rel (Ctx.end C.w w' av' μ' objs)):∀{v:Value} {x:AV},VR (Ctx.end C.w w' av' μ' objs) v x→((∀b,b < C.w.heap.size→¬ av' b→¬ C.bad b) ∨ x.young=true)→VR (C.retAt id nx w' μ' objs) v (x.shift id)
 | _,_,.int k n,_=>.int k n
 | _,_,.bool b,_=>.bool b
 | _,_,.str s,_=>.str s
 | _,_,.nilptr,_=>.nilptr
 | _,_,.ptr o i off l h,_=>.ptr (o + id) i off l (by have hlt:o < objs.next:=hE.fresh o l h;simp only [Ctx.retAt];rw [if_pos (by omega),Nat.add_sub_cancel];exact h)
 | _,_,.fptr b q off vs cells hc hv hso hb hl,hfr=>by
  rcases hfr with hfr | hy
  ·exact .fptr b q off vs cells hc (frozen_vrs (C:=Ctx.end C.w w' av' μ' objs) (D:=C.retAt id nx w' μ' objs) rfl (fun b _ hb=>ret_bad hR hfr hb) hv hso) hso (ret_bad hR hfr hb) hl
  ·simp [AV.young] at hy
 | _,_,.nilsl a,_=>.nilsl a
 | _,_,.fsl b q cap sz vs es hc hs hv hso hb hl hcap,hfr=>by
  rcases hfr with hfr | hy
  ·exact .fsl b q cap sz vs es hc hs (frozen_vrs (C:=Ctx.end C.w w' av' μ' objs) (D:=C.retAt id nx w' μ' objs) rfl (fun b _ hb=>ret_bad hR hfr hb) hv hso) hso (ret_bad hR hfr hb) hl hcap
  ·simp only [AV.young,List.isEmpty_iff] at hy
   subst hy;exact .fnil _ _ _
 | _,_,.fnil a cap sz,_=>.fnil a cap sz
 | _,_,.sl sz o off len cap l c e f h hz hh hm hcap,_=>.sl sz (o + id) off len cap l c e f (by have hlt:o < objs.next:=hE.fresh o l h;simp only [Ctx.retAt];rw [if_pos (by omega),Nat.add_sub_cancel];exact h) hz hh hm hcap
 | _,_,.slnil a sz o off,_=>.slnil a sz (o + id) off
 | _,_,.asl sz o i off len cap l h hcap,_=>.asl sz (o + id) i off len cap l (by have hlt:o < objs.next:=hE.fresh o l h;simp only [Ctx.retAt];rw [if_pos (by omega),Nat.add_sub_cancel];exact h) hcap
 | _,_,.aslnil a cap sz o i off,_=>.aslnil a cap sz (o + id) i off
 | _,_,.nilmap,_=>.nilmap
 | _,_,.map o l h,_=>.map (o + id) l (by have hlt:o < objs.next:=hE.fresh o l h;simp only [Ctx.retAt];rw [if_pos (by omega),Nat.add_sub_cancel];exact h)
 | _,_,.nilfunc,_=>.nilfunc
 | _,_,.func fn a c xs ys ha hc,hfr=>.func fn a c _ _ (back_vrs hR hE ha (hfr.imp (fun h=>h) fun h=>by simp only [AV.young,Bool.and_eq_true] at h;exact youngs_iff.1 h.1)) (back_vrs hR hE hc (hfr.imp (fun h=>h) fun h=>by simp only [AV.young,Bool.and_eq_true] at h;exact youngs_iff.1 h.2))
 | _,_,.niliface,_=>.niliface
 | _,_,.anyi k n,_=>.anyi k n
 | _,_,.iface t v x h,hfr=>.iface t v _ (back_vr hR hE h (hfr.imp (fun h=>h) fun h=>by simpa [AV.young] using h))
 | _,_,.agg vs cs h,hfr=>.agg vs _ (back_vrs hR hE h (hfr.imp (fun h=>h) fun h=>youngs_iff.1 (by simpa [AV.young] using h)))
 | _,_,.yield o l h,_=>.yield (o + id) l (by have hlt:o < objs.next:=hE.fresh o l h;simp only [Ctx.retAt];rw [if_pos (by omega),Nat.add_sub_cancel];exact h)
 | _,_,.tuple vs cs h,hfr=>.tuple vs _ (back_vrs hR hE h (hfr.imp (fun h=>h) fun h=>youngs_iff.1 (by simpa [AV.young] using h)))
theorem back_vrs (hR:Rel C) (hE:Rel (Ctx.end C.w w' av' μ' objs)):∀{vs:List Value} {xs:List AV},VRs (Ctx.end C.w w' av' μ' objs) vs xs→((∀b,b < C.w.heap.size→¬ av' b→¬ C.bad b) ∨ ∀x ∈ xs,x.young=true)→VRs (C.retAt id nx w' μ' objs) vs (shifts id xs)
 | _,_,.nil,_=>.nil
 | _,_,.cons v x vs xs h hs,hfr=>.cons v _ vs _ (back_vr hR hE h (hfr.imp (fun h=>h) fun h=>h x (by simp))) (back_vrs hR hE hs (hfr.imp (fun h=>h) fun h y hy=>h y (by simp [hy])))
end
theorem back_map (hR:Rel C) (hE:Rel (Ctx.end C.w w' av' μ' objs)):∀{ms:List MapEntry} {es:List (AV × AV)},MapRel (Ctx.end C.w w' av' μ' objs) ms es→((∀b,b < C.w.heap.size→¬ av' b→¬ C.bad b) ∨ youngm es=true)→MapRel (C.retAt id nx w' μ' objs) ms (shiftm id es)
 | _,_,.nil,_=>.nil
 | _,_,.cons m k v ms es hk hv h,hfr=>.cons m _ _ ms _ (back_vr hR hE hk (hfr.imp (fun h=>h) fun h=>by simp only [youngm,Bool.and_eq_true] at h;exact h.1.1)) (back_vr hR hE hv (hfr.imp (fun h=>h) fun h=>by simp only [youngm,Bool.and_eq_true] at h;exact h.1.2))
   (back_map hR hE h (hfr.imp (fun h=>h) fun h=>by simp only [youngm,Bool.and_eq_true] at h;exact h.2))
theorem shiftss_lens {n sz:Nat} {es:List (List AV)} (h:∀e ∈ es,e.length=sz):∀e ∈ shiftss n es,e.length=sz:=by
 intro e he
 rw [shiftss_map] at he
 obtain ⟨x,hx,rfl⟩:=List.mem_map.1 he
 rw [shifts_map,List.length_map];exact h x hx
theorem ret_rel (hR:Rel C) (hB:Below C.w.heap.size C.w w') (hE:Rel (Ctx.end C.w w' av' μ' objs)) (hfr:(∀b,b < C.w.heap.size→¬ av' b→¬ C.bad b) ∨ youngo objs) (hfree:Free C id objs.next nx):Rel (C.retAt id nx w' μ' objs) where
 obj q x hq:=by
  have hL:=ret_le hR hB hE hfree
  have hq0:=hq
  simp only [Ctx.retAt] at hq
  by_cases e:¬ (id≤q∧q < id + objs.next)
  ·rw [if_neg e] at hq
   refine (hR.obj q x hq).mono hL (fun hn=>by simp only [Ctx.retAt,if_neg e];exact hn) (fun l hl=>hB.block _ (hR.blk_lt hq hl))
  ·rw [if_pos (Decidable.not_not.1 e)] at hq
   simp only [Option.bind_eq_some_iff] at hq
   obtain ⟨y,hy,hsh⟩:=hq
   have hyg:(∀b,b < C.w.heap.size→¬ av' b→¬ C.bad b) ∨ y.young=true:=hfr.imp (fun h=>h) fun h=>youngo_get h hy
   have hobj:=hE.obj (q - id) y hy
   have hμ:∀l,μ' (q - id)=some l→(C.retAt id nx w' μ' objs).μ q=some l:=fun l hl=>by simp only [Ctx.retAt,if_pos (Decidable.not_not.1 e)];exact hl
   cases y with
   | loop n ps F asg body st=>simp [AObj.shift] at hsh
   | row sz es =>
    simp only [AObj.shift,Option.some.injEq] at hsh;subst hsh
    rcases hobj with ⟨h1,h2⟩ | ⟨l,c,ty,vs,h1,h2,h3,h4,h5,h6,h7,h8⟩
    ·exact .inl ⟨by rw [h1];rfl,by simp only [Ctx.retAt,if_pos (Decidable.not_not.1 e)];exact h2⟩
    ·refine .inr ⟨l,c,ty,vs,hμ l h1,h2,h3,h4,?_,shiftss_lens h6,h7,?_⟩
     ·rw [shiftss_map,List.length_map];exact h5
     ·rw [shiftss_flat]
      exact back_vrs hR hE h8 (hyg.imp (fun h=>h) fun h=>youngss_iff.1 h)
   | map es =>
    simp only [AObj.shift,Option.some.injEq] at hsh;subst hsh
    obtain ⟨l,ms,ck,h1,h2,h3⟩:=hobj
    exact ⟨l,ms,ck,hμ l h1,h2,back_map hR hE h3 (hyg.imp (fun h=>h) fun h=>h)⟩
 inj q q' l l' x x' hq hq' hl hl' hb:=by
  simp only [Ctx.retAt] at hq hq' hl hl'
  by_cases e:¬ (id≤q∧q < id + objs.next) <;> by_cases e':¬ (id≤q'∧q' < id + objs.next)
  ·rw [if_neg e] at hq hl;rw [if_neg e'] at hq' hl'
   exact hR.inj q q' l l' x x' hq hq' hl hl' hb
  ·rw [if_neg e] at hq hl;rw [if_pos (Decidable.not_not.1 e')] at hq' hl'
   simp only [Option.bind_eq_some_iff] at hq'
   obtain ⟨y,hy,hsh⟩:=hq'
   have h1:=hR.blk_lt hq hl
   have h2:C.w.heap.size≤l'.blk:=hE.low _ y l' hy hl'
   omega
  ·rw [if_pos (Decidable.not_not.1 e)] at hq hl;rw [if_neg e'] at hq' hl'
   simp only [Option.bind_eq_some_iff] at hq
   obtain ⟨y,hy,hsh⟩:=hq
   have h1:=hR.blk_lt hq' hl'
   have h2:C.w.heap.size≤l.blk:=hE.low _ y l hy hl
   omega
  ·rw [if_pos (Decidable.not_not.1 e)] at hq hl;rw [if_pos (Decidable.not_not.1 e')] at hq' hl'
   simp only [Option.bind_eq_some_iff] at hq hq'
   obtain ⟨y,hy,_⟩:=hq
   obtain ⟨y',hy',_⟩:=hq'
   have:=hE.inj _ _ l l' y y' hy hy' hl hl' hb
   omega
 lt q x hq:=by
  have:=hfree.le;have:=hfree.nx
  simp only [Ctx.retAt] at hq ⊢
  by_cases e:¬ (id≤q∧q < id + objs.next)
  ·rw [if_neg e] at hq;have:=hR.lt q x hq;omega
  ·rw [if_pos (Decidable.not_not.1 e)] at hq
   simp only [Option.bind_eq_some_iff] at hq
   obtain ⟨y,hy,hsh⟩:=hq
   have:=hE.lt _ _ hy
   omega
 fresh q l hl:=by
  have:=hfree.le;have:=hfree.nx
  simp only [Ctx.retAt] at hl ⊢
  by_cases e:¬ (id≤q∧q < id + objs.next)
  ·rw [if_neg e] at hl;have:=hR.fresh q l hl;omega
  ·rw [if_pos (Decidable.not_not.1 e)] at hl
   have h:q - id < objs.next:=hE.fresh _ l hl
   omega
 low q x l hq hl:=by
  simp only [Ctx.retAt] at hq hl ⊢
  by_cases e:¬ (id≤q∧q < id + objs.next)
  ·rw [if_neg e] at hq hl;exact hR.low q x l hq hl
  ·rw [if_pos (Decidable.not_not.1 e)] at hq hl
   simp only [Option.bind_eq_some_iff] at hq
   obtain ⟨y,hy,hsh⟩:=hq
   have h2:C.w.heap.size≤l.blk:=hE.low _ y l hy hl
   have:=hR.basele
   omega
 basele:=by have:=hR.basele;have:=hB.size;show C.base≤w'.heap.size;omega
end
def Ctx.at (C:Ctx) (w':World):Ctx:={ C with w:=w' }
theorem at_le {C:Ctx} (hR:Rel C) {w':World} (hB:Below C.w.heap.size C.w w'):Le C (C.at w') where
 base:=rfl
 av:=rfl
 μ q l hl:=hl
 size:=hB.size
 cells b c e f hb:=⟨c,f,(hB.block b (Array.getElem?_eq_some_iff.1 hb).1).trans hb,rfl⟩
 keep b hb hn:=⟨hB.block b hb,hn⟩
 below:=hB.mono hR.basele
 loops b r hb:=⟨r,(hB.block b (Array.getElem?_eq_some_iff.1 hb).1).trans hb⟩
theorem at_rel {C:Ctx} (hR:Rel C) {w':World} (hB:Below C.w.heap.size C.w w'):Rel (C.at w') where
 obj q x hq:=(hR.obj q x hq).mono (at_le hR hB) (fun h=>h) (fun l hl=>hB.block _ (hR.blk_lt hq hl))
 inj:=hR.inj
 lt:=hR.lt
 fresh:=hR.fresh
 low:=hR.low
 basele:=by have:=hR.basele;have:=hB.size;show C.base≤w'.heap.size;omega
end Go.Proofs.YtbhkamemheaajaaGreatDoor.Vm
namespace Go.Proofs.YtbhkamemheaajaaGreatDoor.Vm
open Go Go.RowKit
def exitRel:Exit→VExit→Prop
 | .normal,.normal=>True
 | .exit id,.exit id'=>id=id'
 | .ret,.ret=>True
 | _,_=>False
def fence:Option Nat→Fence
 | none=>Fence.wide
 | some l=>Fence.wide.inRound l
@[simp] theorem fence_round (ro:Option Nat):(fence ro).round=ro:=by cases ro <;> rfl
@[simp] theorem fence_fn (ro:Option Nat) (f:FuncId):(fence ro).fn f:=by cases ro <;> trivial
@[simp] theorem fence_depth (ro:Option Nat):(fence ro).depth=none:=by cases ro <;> rfl
theorem fence_room (ro:Option Nat) (k:Nat):(fence ro).room k:=by intro d hd;rw [fence_depth] at hd;cases hd
theorem callsIn_fence {ro:Option Nat} {n:Nat} {P:Program} {f:FuncId} {args:Array Value} {w:World} {R:Ending→World→Prop} (h:Calls P f args w R):CallsIn (fence ro) n P f args w R:=by
 cases ro with
 | none=>exact callsIn_wide.2 h
 | some l=>exact CallsIn.inRound l (callsIn_wide.2 h)
def mark (b:Nat):Deferred:={ target:=.collected b,args:=#[] }
inductive Marks (B:Nat) (C:Ctx):List Deferred→Prop
 | nil:Marks B C []
 | cons (b:Nat) (ds:List Deferred) (hB:B≤b) (hnb:¬ C.bad b) (hh:C.w.heap[b]?=some (.deferred (some []))) (hd:∀b',mark b' ∈ ds→b' ≠ b) (h:Marks B C ds):Marks B C (mark b :: ds)
theorem Marks.mono {B:Nat} {C C':Ctx} {ds:List Deferred} (h:Marks B C ds) (hL:Le C C'):Marks B C' ds:=by
 induction h with
 | nil=>exact .nil
 | cons b ds hB hnb hh hd h ih =>
  obtain ⟨h1,h2⟩:=hL.keep b (Array.getElem?_eq_some_iff.1 hh).1 hnb
  exact .cons b ds hB h2 (h1.trans hh) hd ih
def RoundOK (C:Ctx):Option Nat→Prop
 | none=>True
 | some l=>∃ r,C.w.heap[l]?=some (.loop r)
theorem RoundOK.mono {C C':Ctx} (hL:Le C C'):∀{ro:Option Nat},RoundOK C ro→RoundOK C' ro
 | none,_=>trivial
 | some l,⟨r,h⟩=>hL.loops l r h
structure AtC (g:Glob) (C:Ctx) (F:AFrame) (n B:Nat) (ro:Option Nat) (a:Act):Prop where
 size:a.tmps.size=n
 marks:Marks B C a.defers
 le:B≤C.w.heap.size
 round:RoundOK C ro
 rel:Rel C
 fr:FrameOK C F a
 lo:g.N≤C.base
 glob:g.G C.w
def PostC (C:Ctx) (n B:Nat) (Q:Res→Prop) (e:Exit) (a':Act) (w':World):Prop :=
 ∃ ve F' C',exitRel e ve∧Q (.code ve F' C'.S)∧C'.w=w'∧Le C C'∧Rel C'∧FrameOK C' F' a'∧a'.tmps.size=n∧Marks B C' a'.defers
def LoopWP (ro:Option Nat) (P:Program) (c:Code) (Q:Exit→Act→World→Prop) (a:Act) (w:World):Prop :=
 ∀(b:Frame) (k:List Item) (cs:List Frame),b.roundOf=ro→∃ e a' w',Q e a' w'∧ArrivesIn (Machine.fenced P (fence ro)) P (lone (b.atR a (.code c :: .inLoop c :: k)) cs w) b k cs e a' w'
def WP (ro:Option Nat) (P:Program) (c:Code) (Q:Exit→Act→World→Prop) (a:Act) (w:World):Prop :=
 match c with
 | .loop body=>LoopWP ro P body Q a w
 | c=>c.wpIn (fence ro) 0 P Q a w
theorem fenced_any {ro:Option Nat} {P:Program} {fr:Frame} {cs:List Frame} {w:World}:(lone fr cs w).fenced P (fence ro):=by
 cases ro with
 | none=>exact fenced_wide P _
 | some l =>
  intro g hg
  obtain ⟨h1,h2,h3,h4⟩:=fenced_wide P (lone fr cs w) g hg
  exact ⟨h1,h2,h3,h4⟩
theorem WP.wp {ro:Option Nat} {P:Program} {c:Code} {Q:Exit→Act→World→Prop} {a:Act} {w:World} (h:WP ro P c Q a w):c.wpIn (fence ro) 0 P Q a w:=by
 cases c with
 | loop body =>
  intro b k cs hb _ _
  obtain ⟨e,a',w',hq,harr⟩:=h b k cs (by simpa using hb)
  exact ⟨e,a',w',hq,.of_steps (.one fenced_any stepR_loop) harr⟩
 | _=>exact h
inductive OpsAt (P:Program) (n:Nat) (ops:Array Oper):List Nat→List VOper→Prop
 | nil:OpsAt P n ops [] []
 | cons (i:Nat) (o:Oper) (v:VOper) (idx:List Nat) (l:List VOper) (h:ops[i]?=some o) (hc:compOper P n ops o=some v) (ht:OpsAt P n ops idx l):OpsAt P n ops (i :: idx) (v :: l)
def W (P:Program) (g:Glob):Cfg→(Res→Prop)→Prop
 | .code c F S,Q=>∀(code:Code) (n B:Nat) (ro:Option Nat) (a:Act) (C:Ctx),compCode P n code=some c→C.S=S→AtC g C F n B ro a→WP ro P code (PostC C n B Q) a C.w
 | .ops l F S,Q=>∀(ops:Array Oper) (idx:List Nat) (n B:Nat) (ro:Option Nat) (a:Act) (C:Ctx) (Q':Exit→Act→World→Prop),(∀e a' w',PostC C n B Q e a' w'→Q' e a' w')→OpsAt P n ops idx l→C.S=S→AtC g C F n B ro a→wpOpsIn (fence ro) 0 P ops Q' idx a C.w
 | .call f args S,Q=>∀(vs:List Value) (C:Ctx),C.S=S→Rel C→VRs C vs args→g.N≤C.base→g.G C.w →
   Calls P f vs.toArray C.w fun e w'=>∃ v av C',e=.returned v∧Q (.val av C'.S)∧C'.w=w'∧Le C C'∧Rel C'∧VR C' v av
def WOp (P:Program) (g:Glob) (o:VOper) (F:AFrame) (S:St) (R:AV→St→Prop):Prop :=
 ∀(ops:Array Oper) (i n B:Nat) (ro:Option Nat) (a:Act) (C:Ctx) (oper:Oper) (K:Act→World→Prop) (Q':Exit→Act→World→Prop),ops[i]?=some oper→compOper P n ops oper=some o→C.S=S→AtC g C F n B ro a →
  (∀v y C',R y C'.S→Le C C'→Rel C'→VR C' v y→K (a.put o.dst v) C'.w)→wpOpIn (fence ro) 0 P ops Q' i K a C.w
theorem FrameOK.mono {C C':Ctx} {F:AFrame} {a:Act} (h:FrameOK C F a) (hL:Le C C'):FrameOK C' F a:=fun t=>(h t).mono hL
theorem FrameOK.put {C:Ctx} {F:AFrame} {a:Act} {v:Value} {x:AV} (h:FrameOK C F a) (hv:VR C v x) {d:Option Nat} (hd:∀t,d=some t→t < a.tmps.size):FrameOK C (put F d x) (a.put d v):=by
 intro t
 cases d with
 | none=>exact h t
 | some d =>
  have hlt:=hd d rfl
  simp only [Vm.put,upd,Act.put]
  by_cases e:t=d
  ·subst e
   rw [if_pos rfl]
   have:(a.tmps.setIfInBounds t v).getD t undef=v:=by simp [Array.getD,hlt]
   rw [this];exact hv
  ·rw [if_neg e]
   have:(a.tmps.setIfInBounds d v).getD t undef=a.tmps.getD t undef:=by
    simp only [Array.getD_eq_getD_getElem?,Array.getElem?_setIfInBounds]
    rw [if_neg (by omega)]
   rw [this];exact h t
theorem put_size (a:Act) (d:Option Nat) (v:Value):(a.put d v).tmps.size=a.tmps.size:=by cases d <;> simp [Act.put]
theorem put_defers (a:Act) (d:Option Nat) (v:Value):(a.put d v).defers=a.defers:=by cases d <;> simp [Act.put]
theorem Glob.stays (g:Glob) {C C':Ctx} (hN:g.N≤C.base) (hG:g.G C.w) (hL:Le C C'):g.N≤C'.base∧g.G C'.w:=⟨by rw [hL.base];exact hN,g.keep _ _ hG (hL.below.mono hN)⟩
theorem PostC.from {C C1:Ctx} {n B:Nat} {Q:Res→Prop} {e:Exit} {a:Act} {w:World} (hL:Le C C1) (h:PostC C1 n B Q e a w):PostC C n B Q e a w:=by
 obtain ⟨ve,F',C',h1,h2,h3,h4,h5⟩:=h
 exact ⟨ve,F',C',h1,h2,h3,hL.trans h4,h5⟩
theorem wanted_eq {P:Program} {n:Nat} {ops:Array Oper} {o:Oper} {v:VOper} (hc:compOper P n ops o=some v) {C:Ctx} {F:AFrame} {a:Act} (hF:FrameOK C F a):Region.wanted o (yielded ops a.tmps)=wantedV F v.guard:=by
 unfold compOper at hc
 simp only [Option.bind_eq_bind,Option.bind_eq_some_iff] at hc
 obtain ⟨gd,hg,hd⟩:=hc
 have hvg:v.guard=gd:=by
  split at hd
  ·simp only [Option.some.injEq] at hd;rw [← hd]
  ·split at hd
   ·simp only [Option.some.injEq] at hd;rw [← hd]
   ·cases hd
 rw [hvg]
 unfold guardSlot at hg
 split at hg
 ·rename_i he
  simp only [Option.some.injEq] at hg;subst hg
  simp [Region.wanted,he,wantedV]
 ·rename_i j b he
  split at hg
  ·rename_i t ht
   simp only [Option.some.injEq] at hg;subst hg
   simp only [Region.wanted,he,wantedV,yielded,ht,Option.bind_some]
   have hv:=hF t
   by_cases hlt:t < a.tmps.size
   ·have e1:a.tmps[t]?=some (a.tmps.getD t undef):=by simp [Array.getD,hlt]
    rw [e1]
    generalize a.tmps.getD t undef=u at hv
    generalize F t=x at hv
    cases hv <;> simp
   ·have e1:a.tmps[t]?=none:=Array.getElem?_eq_none (Nat.le_of_not_lt hlt)
    have e2:a.tmps.getD t undef=undef:=by simp [Array.getD,hlt]
    rw [e1]
    rw [e2] at hv
    generalize F t=x at hv
    unfold undef at hv
    cases hv
    simp
  ·cases hg
theorem compOper_op {P:Program} {n:Nat} {ops:Array Oper} {o:Oper} {v:VOper} (hc:compOper P n ops o=some v):((compOp P o.op).getD .bad=v.op)∧o.dst=v.dst∧∀t,v.dst=some t→t < n:=by
 unfold compOper at hc
 simp only [Option.bind_eq_bind,Option.bind_eq_some_iff] at hc
 obtain ⟨gd,hg,hd⟩:=hc
 split at hd
 ·rename_i hdst;simp only [Option.some.injEq] at hd;subst hd;exact ⟨rfl,hdst,by simp⟩
 ·rename_i d hdst
  split at hd
  ·rename_i hlt;simp only [Option.some.injEq] at hd;subst hd;exact ⟨rfl,hdst,by intro t ht;simp only [Option.some.injEq] at ht;subst ht;exact hlt⟩
  ·cases hd
section
variable {P:Program} {g:Glob}
theorem opsAt_range {n:Nat} {ops:Array Oper} {l:List VOper} (h:mapOpt (compOper P n ops) ops.toList=some l):OpsAt P n ops (List.range ops.size) l:=by
 have key:∀(k:Nat) (os:List Oper) (l:List VOper),mapOpt (compOper P n ops) os=some l→(∀i o,os[i]?=some o→ops[k + i]?=some o)→OpsAt P n ops ((List.range os.length).map (k + ·)) l:=by
  intro k os
  induction os generalizing k with
  | nil=>intro l h _;simp [mapOpt] at h;subst h;exact .nil
  | cons o os ih =>
   intro l h hi
   rcases mapOpt_some h with ⟨h1,_⟩ | ⟨o',os',v,l',h1,rfl,h2,h3⟩
   ·cases h1
   ·cases h1
    have:=ih (k + 1) l' h3 (fun i o ho=>by have:=hi (i + 1) o (by simpa using ho);rwa [show k + (i + 1)=k + 1 + i by omega] at this)
    simp only [List.length_cons,List.range_succ_eq_map,List.map_cons,Nat.add_zero,List.map_map]
    refine .cons k o v _ _ (by simpa using hi 0 o (by simp)) h2 ?_
    have e:(List.range os.length).map ((fun x=>k + x) ∘ Nat.succ)=(List.range os.length).map (k + 1 + ·):=by
     apply List.map_congr_left;intro x _;simp;omega
    rw [e];exact this
 have:=key 0 ops.toList l h (fun i o ho=>by simpa using ho)
 simpa using this
theorem compCode_inv_seq {n:Nat} {code:Code} {x y:VCode} (h:compCode P n code=some (.seq x y)):∃ a b,code=.seq a b∧compCode P n a=some x∧compCode P n b=some y:=by
 cases code <;> simp only [compCode,Option.bind_eq_bind,Option.bind_eq_some_iff,Option.some.injEq,reduceCtorEq,Option.map_eq_some_iff,and_false,exists_const,exists_false] at h
 case rangeFunc=>obtain ⟨_,_,h⟩:=h;split at h <;> cases h
 obtain ⟨p,h1,q,h2,h3⟩:=h;cases h3;exact ⟨_,_,rfl,h1,h2⟩
theorem compCode_inv_cond {n:Nat} {code:Code} {c:VX} {x y:VCode} (h:compCode P n code=some (.cond c x y)):∃ k a b,code=.cond k a b∧cx k=some c∧compCode P n a=some x∧compCode P n b=some y:=by
 cases code <;> simp only [compCode,Option.bind_eq_bind,Option.bind_eq_some_iff,Option.some.injEq,reduceCtorEq,Option.map_eq_some_iff,and_false,exists_const,exists_false] at h
 case rangeFunc=>obtain ⟨_,_,h⟩:=h;split at h <;> cases h
 obtain ⟨p,h1,q,h2,r,h3,h4⟩:=h;cases h4;exact ⟨_,_,_,rfl,h1,h2,h3⟩
theorem compCode_inv_block {n:Nat} {code:Code} {id:Nat} {x:VCode} (h:compCode P n code=some (.block id x)):∃ a,code=.block id a∧compCode P n a=some x:=by
 cases code <;> simp only [compCode,Option.bind_eq_bind,Option.bind_eq_some_iff,Option.some.injEq,reduceCtorEq,Option.map_eq_some_iff,and_false,exists_const,exists_false] at h
 case rangeFunc=>obtain ⟨_,_,h⟩:=h;split at h <;> cases h
 obtain ⟨p,h1,h2⟩:=h;cases h2;exact ⟨_,rfl,h1⟩
theorem compCode_inv_scope {n:Nat} {code:Code} {x:VCode} (h:compCode P n code=some (.scope x)):∃ a,code=.scope a∧compCode P n a=some x:=by
 cases code <;> simp only [compCode,Option.bind_eq_bind,Option.bind_eq_some_iff,Option.some.injEq,reduceCtorEq,Option.map_eq_some_iff,and_false,exists_const,exists_false] at h
 case rangeFunc=>obtain ⟨_,_,h⟩:=h;split at h <;> cases h
 obtain ⟨p,h1,h2⟩:=h;cases h2;exact ⟨_,rfl,h1⟩
theorem compCode_inv_loop {n:Nat} {code:Code} {x:VCode} (h:compCode P n code=some (.loop x)):∃ a,code=.loop a∧compCode P n a=some x:=by
 cases code <;> simp only [compCode,Option.bind_eq_bind,Option.bind_eq_some_iff,Option.some.injEq,reduceCtorEq,Option.map_eq_some_iff,and_false,exists_const,exists_false] at h
 case rangeFunc=>obtain ⟨_,_,h⟩:=h;split at h <;> cases h
 obtain ⟨p,h1,h2⟩:=h;cases h2;exact ⟨_,rfl,h1⟩
theorem compCode_inv_region {n:Nat} {code:Code} {d:Bool} {l:List VOper} {af:List (List Nat)} (h:compCode P n code=some (.region d l af)):∃ id ops,code=.region id ops d∧mapOpt (compOper P n ops) ops.toList=some l∧af=if d then afts ops else []:=by
 cases code <;> simp only [compCode,Option.bind_eq_bind,Option.bind_eq_some_iff,Option.some.injEq,reduceCtorEq,Option.map_eq_some_iff,and_false,exists_const,exists_false] at h
 case rangeFunc=>obtain ⟨_,_,h⟩:=h;split at h <;> cases h
 obtain ⟨p,h1,h2⟩:=h;cases h2;exact ⟨_,_,rfl,h1,rfl⟩
theorem run_callFunc {f:Nat} (h:callable P f=true) (args:Array Value) (w:World):(callFunc f args).run P w=.ok (.enter f args) w:=by
 unfold callable at h
 split at h
 ·rename_i fn hf
  simp only [Bool.and_eq_true,bne_iff_ne,ne_eq] at h
  have h1 : ¬ (fn.name = "runtime.NumGoroutine") := h.1
  cases hb:fn.body with
  | none=>rw [hb] at h;simp at h
  | some c=>simp [callFunc,hf,h1,hb]
 ·cases h
def VOp.isCall:VOp→Bool
 | .callF _ _=>true
 | .callV _ _=>true
 | .callI _ _ _=>true
 | _=>false
theorem compOp_call {op:Op} {v:VOp} (hc:compOp P op=some v) (hv:v.isCall=true):∃ c,op=.call c∧((∃ f xs,v=.callF f xs∧c.callee=.value (.func f)∧mapOpt cx c.args.toList=some xs) ∨
  (∃ x vx xs,v=.callV vx xs∧c.callee=.value x∧cx x=some vx∧mapOpt cx c.args.toList=some xs) ∨ (∃ x vx name xs,v=.callI vx name xs∧c.callee=.invoke x name∧cx x=some vx∧mapOpt cx c.args.toList=some xs)):=by
 cases op
 case call c =>
  refine ⟨c,rfl,?_⟩
  simp only [compOp] at hc
  split at hc
  ·exfalso
   unfold compBuiltin at hc
   split at hc <;> simp only [Option.bind_eq_bind,Option.bind_eq_some_iff,Option.some.injEq,reduceCtorEq] at hc
   ·obtain ⟨_,_,h⟩:=hc;split at h <;> simp only [Option.some.injEq,reduceCtorEq] at h <;> subst h <;> simp [VOp.isCall] at hv
   ·obtain ⟨_,_,_,_,h⟩:=hc;split at h <;> simp only [reduceCtorEq,Option.bind_eq_some_iff] at h;obtain ⟨_,_,_,_,h⟩:=h;split at h <;> simp only [Option.some.injEq,reduceCtorEq] at h;subst h;simp [VOp.isCall] at hv
   ·obtain ⟨_,_,_,_,h⟩:=hc;split at h <;> simp only [reduceCtorEq,Option.bind_eq_some_iff] at h;obtain ⟨_,_,h⟩:=h;split at h <;> simp only [Option.some.injEq,reduceCtorEq] at h;subst h;simp [VOp.isCall] at hv
   ·obtain ⟨_,_,h⟩:=hc;split at h <;> simp only [reduceCtorEq,Option.bind_eq_some_iff] at h;obtain ⟨_,_,h⟩:=h;split at h <;> simp only [Option.some.injEq,reduceCtorEq] at h;subst h;simp [VOp.isCall] at hv
   ·obtain ⟨_,_,h⟩:=hc;subst h;simp [VOp.isCall] at hv
   ·obtain ⟨_,_,h⟩:=hc;subst h;simp [VOp.isCall] at hv
  ·rename_i f hcl
   simp only [Option.bind_eq_bind,Option.bind_eq_some_iff,Option.some.injEq] at hc
   obtain ⟨xs,hxs,h⟩:=hc
   exact .inl ⟨f,xs,h.symm,hcl,hxs⟩
  ·rename_i x hnf hcl
   simp only [Option.bind_eq_bind,Option.bind_eq_some_iff,Option.some.injEq] at hc
   obtain ⟨vx,hx,xs,hxs,h⟩:=hc
   exact .inr (.inl ⟨x,vx,xs,h.symm,by assumption,hx,hxs⟩)
  ·rename_i x name hcl
   simp only [Option.bind_eq_bind,Option.bind_eq_some_iff,Option.some.injEq] at hc
   obtain ⟨vx,hx,xs,hxs,h⟩:=hc
   exact .inr (.inr ⟨x,vx,name,xs,h.symm,by assumption,hx,hxs⟩)
 case makeMap t r=>cases r <;> simp only [compOp,Option.some.injEq,reduceCtorEq] at hc;subst hc;simp [VOp.isCall] at hv
 all_goals exfalso
 case binOp op t x y t' =>
  simp only [compOp] at hc
  unfold compBin at hc
  split at hc <;> simp only [Option.bind_eq_bind,Option.bind_eq_some_iff,Option.some.injEq,reduceCtorEq] at hc
  ·obtain ⟨_,_,_,_,h⟩:=hc;subst h;simp [VOp.isCall] at hv
  ·obtain ⟨_,_,_,_,_,_,h⟩:=hc;subst h;simp [VOp.isCall] at hv
  ·obtain ⟨_,_,_,_,h⟩:=hc;subst h;simp [VOp.isCall] at hv
  case h_7=>obtain ⟨_,_,_,_,_,_,_,_,h⟩:=hc;split at h <;> simp only [Option.some.injEq,reduceCtorEq] at h;subst h;simp [VOp.isCall] at hv
  case h_8=>obtain ⟨_,_,_,_,_,_,_,_,h⟩:=hc;split at h <;> simp only [Option.some.injEq,reduceCtorEq] at h;subst h;simp [VOp.isCall] at hv
  all_goals (obtain ⟨_,_,h⟩:=hc;split at h <;> simp only [Option.bind_eq_some_iff,Option.some.injEq,reduceCtorEq] at h;obtain ⟨_,_,h⟩:=h;subst h;simp [VOp.isCall] at hv)
 all_goals (simp only [compOp,Option.bind_eq_bind,Option.bind_eq_some_iff,Option.some.injEq,reduceCtorEq] at hc)
 all_goals first
  | (obtain ⟨_,_,h⟩:=hc;subst h;simp [VOp.isCall] at hv;done)
  | (obtain ⟨_,_,_,_,h⟩:=hc;subst h;simp [VOp.isCall] at hv;done)
  | (obtain ⟨_,_,_,_,_,_,h⟩:=hc;subst h;simp [VOp.isCall] at hv;done)
  | (obtain ⟨_,_,_,_,_,_,_,_,h⟩:=hc;subst h;simp [VOp.isCall] at hv;done)
  | (obtain ⟨_,_,_,_,_,_,_,_,_,_,h⟩:=hc;subst h;simp [VOp.isCall] at hv;done)
  | (obtain ⟨_,_,_,_,_,_,_,_,_,_,_,_,h⟩:=hc;subst h;simp [VOp.isCall] at hv;done)
  | skip
 case alloc t=>obtain ⟨_,_,h⟩:=hc;split at h <;> simp only [Option.some.injEq,reduceCtorEq] at h;subst h;simp [VOp.isCall] at hv
 case buildSlice t len parts=>split at hc <;> simp only [Option.bind_eq_some_iff,reduceCtorEq] at hc;obtain ⟨_,_,_,_,_,_,h⟩:=hc;split at h <;> simp only [Option.some.injEq,reduceCtorEq] at h;subst h;simp [VOp.isCall] at hv
 case convert s d x=>split at hc <;> simp only [Option.bind_eq_some_iff,Option.some.injEq,reduceCtorEq] at hc;obtain ⟨_,_,h⟩:=hc;subst h;simp [VOp.isCall] at hv
 case makeInterface t x=>split at hc <;> simp only [Option.bind_eq_some_iff,Option.some.injEq,reduceCtorEq] at hc;obtain ⟨_,_,h⟩:=hc;subst h;simp [VOp.isCall] at hv
 case makeSlice t l c=>split at hc <;> simp only [Option.bind_eq_some_iff,reduceCtorEq] at hc;obtain ⟨_,_,_,_,_,_,_,_,h⟩:=hc;split at h <;> simp only [Option.some.injEq,reduceCtorEq] at h;subst h;simp [VOp.isCall] at hv
 case slice t x lo hi mx =>
  obtain ⟨_,_,_,_,h⟩:=hc
  split at h <;> (try simp only [Option.bind_eq_some_iff,reduceCtorEq] at h)
  ·obtain ⟨_,_,h⟩:=h;split at h <;> simp only [Option.some.injEq,reduceCtorEq] at h;subst h;simp [VOp.isCall] at hv
  ·split at h <;> simp only [Option.some.injEq,reduceCtorEq] at h;subst h;simp [VOp.isCall] at hv
  ·obtain ⟨_,_,h⟩:=h;split at h <;> simp only [Option.some.injEq,reduceCtorEq] at h;subst h;simp [VOp.isCall] at hv
 case fieldAddr t x i=>obtain ⟨_,_,_,_,h⟩:=hc;split at h <;> simp only [Option.bind_eq_some_iff,Option.some.injEq,reduceCtorEq] at h;obtain ⟨_,_,h⟩:=h;subst h;simp [VOp.isCall] at hv
 case indexAddr t x i =>
  split at hc <;> simp only [Option.bind_eq_some_iff,reduceCtorEq] at hc
  all_goals (obtain ⟨_,_,h⟩:=hc;split at h <;> simp only [Option.bind_eq_some_iff,Option.some.injEq,reduceCtorEq] at h;obtain ⟨_,_,_,_,h⟩:=h;subst h;simp [VOp.isCall] at hv)
 case index t x i=>split at hc <;> simp only [Option.bind_eq_some_iff,Option.some.injEq,reduceCtorEq] at hc;obtain ⟨_,_,_,_,h⟩:=hc;subst h;simp [VOp.isCall] at hv
 case typeAssert x xt t ok=>obtain ⟨_,_,h⟩:=hc;split at h <;> simp only [Option.bind_eq_some_iff,Option.some.injEq,reduceCtorEq] at h;obtain ⟨_,_,h⟩:=h;subst h;simp [VOp.isCall] at hv
theorem callee_sound {C:Ctx} {F:AFrame} {a:Act} (hF:FrameOK C F a) {o:Oper} {vo:VOp} (hc:compOp P o.op=some vo) {f:Nat} {args:List AV} (hcal:callee vo F=some (f,args)) (hf:callable P f=true) :
  ∃ vs,(execOp a.eval o).run P C.w=.ok (.enter f (vs:List Value).toArray) C.w∧VRs C vs args:=by
 unfold callee at hcal
 split at hcal
 ·rename_i f' xs
  simp only [Option.some.injEq,Prod.mk.injEq] at hcal
  obtain ⟨rfl,rfl⟩:=hcal
  obtain ⟨c,hop,⟨f2,xs2,h1,hcl,hxs⟩ | ⟨x,vx,xs2,h1,_⟩ | ⟨x,vx,nm,xs2,h1,_⟩⟩:=compOp_call hc rfl
  ·cases h1
   have hv:=cxs_sound hF hxs
   refine ⟨c.args.toList.map a.eval,?_,hv⟩
   have e1:c.args.map a.eval=(c.args.toList.map a.eval).toArray:=by apply Array.ext';simp
   have e2:a.eval (.func f')=.func (.func f') #[] #[]:=rfl
   simp only [execOp,hop,resolve,hcl,Sem.run_bind,e2,Deferred.ofValue,Sem.run_pure,Result.andThen_ok,invoke,e1]
   simp [run_callFunc hf]
  ·cases h1
  ·cases h1
 ·rename_i x xs
  split at hcal
  ·rename_i f' first captured hx
   simp only [Option.some.injEq,Prod.mk.injEq] at hcal
   obtain ⟨rfl,rfl⟩:=hcal
   obtain ⟨c,hop,⟨f2,xs2,h1,_⟩ | ⟨x',vx,xs2,h1,hcl,hcx,hxs⟩ | ⟨x',vx,nm,xs2,h1,_⟩⟩:=compOp_call hc rfl
   ·cases h1
   ·cases h1
    have hv:=cxs_sound hF hxs
    have hfv:=cx_sound hF hcx
    rw [hx] at hfv
    generalize hv':a.eval x'=v at hfv
    cases hfv
    rename_i va vc ha hcp
    refine ⟨va ++ c.args.toList.map a.eval ++ vc,?_,(ha.append hv).append hcp⟩
    have e1:c.args.map a.eval=(c.args.toList.map a.eval).toArray:=by apply Array.ext';simp
    simp only [execOp,hop,resolve,hcl,Sem.run_bind,hv',Deferred.ofValue,Sem.run_pure,Result.andThen_ok,invoke,e1]
    rw [run_callFunc hf]
    simp
   ·cases h1
  ·cases hcal
 ·cases hcal
theorem calleeI_sound {C:Ctx} {F:AFrame} {a:Act} (hF:FrameOK C F a) {o:Oper} {x:VX} {name:String} {xs:List VX} (hc:compOp P o.op=some (.callI x name xs)) {t p i q f:Nat} (hx:x.eval F=.iface t (.ptr p i q))
  (hm:∀ad w,(method (P.types.size + Made.depth) t (.pointer (some ad)) name).run P w=.ok (f,.pointer (some ad)) w) (hf:callable P f=true) :
  ∃ vs,(execOp a.eval o).run P C.w=.ok (.enter f (vs:List Value).toArray) C.w∧VRs C vs (.ptr p i q :: xs.map (VX.eval F)):=by
 obtain ⟨c,hop,⟨f2,xs2,h1,_⟩ | ⟨x',vx,xs2,h1,_⟩ | ⟨x',vx,nm,xs2,h1,hcl,hcx,hxs⟩⟩:=compOp_call hc rfl
 ·cases h1
 ·cases h1
 ·cases h1
  have hv:=cxs_sound hF hxs
  have hfv:=cx_sound hF hcx
  rw [hx] at hfv
  generalize hv':a.eval x'=v at hfv
  cases hfv
  rename_i u hu
  have hu':=hu
  cases hu
  rename_i l hl
  refine ⟨.pointer (some ⟨l.blk,l.off + i * l.sz + q,none⟩) :: c.args.toList.map a.eval,?_,.cons _ _ _ _ hu' hv⟩
  have e1:c.args.map a.eval=(c.args.toList.map a.eval).toArray:=by apply Array.ext';simp
  simp only [execOp,hop,resolve,hcl,Sem.run_bind,hv',Sem.run_pure,Result.andThen_ok,invoke,e1]
  simp [callMethod,hm,run_callFunc hf]
  rw [List.take_of_length_le (by simp)]
end
end Go.Proofs.YtbhkamemheaajaaGreatDoor.Vm
