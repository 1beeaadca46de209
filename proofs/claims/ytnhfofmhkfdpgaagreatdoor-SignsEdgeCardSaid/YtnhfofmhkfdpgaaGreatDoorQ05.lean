/- A part of the proof: Vl Vn Vo. -/
import Derived.Test.YtnhfofmhkfdpgaaGreatDoorQ04
set_option linter.unusedVariables false
set_option linter.unusedSimpArgs false
set_option linter.constructorNameAsVariable false
namespace Go.Proofs.YtnhfofmhkfdpgaaGreatDoor.Vm
open Go Go.RowKit
inductive Res where
 | code (e:VExit) (F:AFrame) (S:St)
 | val (v:AV) (S:St)
inductive Cfg where
 | code (c:VCode) (F:AFrame) (S:St)
 | ops (l:List VOper) (F:AFrame) (S:St)
 | call (f:Nat) (args:List AV) (S:St)
mutual
def AV.shift (n:Nat):AV->AV
 | .ptr o i off=>.ptr (o + n) i off
 | .sl sz o off len=>.sl sz (o + n) off len
 | .asl sz o i off len=>.asl sz (o + n) i off len
 | .map o=>.map (o + n)
 | .yield o=>.yield (o + n)
 | .func fn a b=>.func fn (shifts n a) (shifts n b)
 | .iface t v=>.iface t (AV.shift n v)
 | .agg cs=>.agg (shifts n cs)
 | .tuple vs=>.tuple (shifts n vs)
 | .int k m=>.int k m
 | .bool b=>.bool b
 | .str s=>.str s
 | .nilptr=>.nilptr
 | .fptr cs off=>.fptr cs off
 | .nilsl=>.nilsl
 | .fsl sz es=>.fsl sz es
 | .nilmap=>.nilmap
 | .nilfunc=>.nilfunc
 | .niliface=>.niliface
 | .anyi k=>.anyi k
def shifts (n:Nat):List AV->List AV
 | []=>[]
 | x :: xs=>AV.shift n x :: shifts n xs
end
def shiftss (n:Nat):List (List AV)->List (List AV)
 | []=>[]
 | x :: xs=>shifts n x :: shiftss n xs
def shiftm (n:Nat):List (AV × AV)->List (AV × AV)
 | []=>[]
 | (k,v) :: xs=>(AV.shift n k,AV.shift n v) :: shiftm n xs
def AObj.shift (n:Nat):AObj->Option AObj
 | .row sz es=>some (.row sz (shiftss n es))
 | .map es=>some (.map (shiftm n es))
 | .loop _ _ _ _ _ _=>none
def St.add (S E:St):St:=⟨S.next + E.next,fun q=>if S.next<=q/\q < S.next + E.next then (E.obj (q - S.next)).bind (AObj.shift S.next) else S.obj q⟩
mutual
def AV.young:AV->Bool
 | .fptr _ _=>false
 | .fsl _ es=>es.isEmpty
 | .func _ a b=>youngs a && youngs b
 | .iface _ v=>v.young
 | .agg cs=>youngs cs
 | .tuple vs=>youngs vs
 | .ptr _ _ _=>true
 | .sl _ _ _ _=>true
 | .asl _ _ _ _ _=>true
 | .map _=>true
 | .yield _=>true
 | .int _ _=>true
 | .bool _=>true
 | .str _=>true
 | .nilptr=>true
 | .nilsl=>true
 | .nilmap=>true
 | .nilfunc=>true
 | .niliface=>true
 | .anyi _=>true
def youngs:List AV->Bool
 | []=>true
 | x :: xs=>x.young && youngs xs
def youngss:List (List AV)->Bool
 | []=>true
 | x :: xs=>youngs x && youngss xs
end
def youngm:List (AV × AV)->Bool
 | []=>true
 | (k,v) :: xs=>k.young && v.young && youngm xs
def AObj.young:AObj->Bool
 | .row _ es=>youngss es
 | .map es=>youngm es
 | .loop _ _ _ _ _ _=>false
def youngo (E:St):Prop:=∀o x,E.obj o=some x->x.young=true
structure RCon where
 pre:List AV->Prop
 post:List AV->AV->St->Prop
structure Glob where
 G:World->Prop
 N:Nat
 size:∀w,G w->N<=w.heap.size
 keep:∀w w',G w->Below N w w'->G w'
def ConOK (P:Program) (g:Glob) (f:Nat) (c:RCon):Prop :=
 ∀(w:World) (av:Nat->Prop) (vs:List Value) (xs:List AV),g.G w->VRs ⟨w,w.heap.size,av,fun _=>none,St.empty⟩ vs xs->c.pre xs ->
  Calls P f vs.toArray w fun e w'=>∃ v res objs μ,e=.returned v/\c.post xs res objs/\Below w.heap.size w w'/\Rel ⟨w',w.heap.size,av,μ,objs⟩/\VR ⟨w',w.heap.size,av,μ,objs⟩ v res
def wantedV (F:AFrame):Option (Nat × Bool)->Bool
 | none=>true
 | some (t,b)=>match F t with
  | .bool x=>x == b
  | _=>false
def callee (o:VOp) (F:AFrame):Option (Nat × List AV) :=
 match o with
 | .callF f xs=>some (f,xs.map (VX.eval F))
 | .callV x xs=>match x.eval F with
  | .func (.func f) first captured=>some (f,first ++ xs.map (VX.eval F) ++ captured)
  | _=>none
 | _=>none
def callable (P:Program) (f:Nat):Bool :=
 match P.funcs[f]? with
 | some fn => fn.name != "runtime.NumGoroutine" && fn.body.isSome
 | none=>false
def entry (args:List AV):AFrame:=fun t=>args.getD t .none
def res1 (F:AFrame) (S:St):VRes->Option AV
 | .tmp t=>some (F t)
 | .cell t agg sz=>(sk (.load agg sz) [F t] S).map (·.1)
def resV (rs:List VRes) (F:AFrame) (S:St):Option AV :=
 match mapOpt (res1 F S) rs with
 | some [v]=>some v
 | some vs=>some (.tuple vs)
 | none=>none
structure Fun' (P:Program) (f:Nat) (n:Nat) (rs:List VRes) (c:VCode):Prop where
 call:callable P f=true
 code:(P.funcs[f]?).bind (compFunc P)=some ⟨n,rs,c⟩
def rngs:Code->List (Code × Code)
 | .seq a b=>rngs a ++ rngs b
 | .cond _ a b=>rngs a ++ rngs b
 | .block _ c=>rngs c
 | .loop c=>rngs c
 | .scope c=>rngs c
 | .rangeFunc _ _ a b=>[(a,b)]
 | _=>[]
def rngA (f:Func) (k:Nat):Code:=((rngs (f.body.getD .skip)).getD k (.skip,.skip)).1
def rngB (f:Func) (k:Nat):Code:=((rngs (f.body.getD .skip)).getD k (.skip,.skip)).2
def bs (l:List Nat):ByteArray:=⟨(l.map UInt8.ofNat).toArray⟩
end Go.Proofs.YtnhfofmhkfdpgaaGreatDoor.Vm
namespace Go.Proofs.YtnhfofmhkfdpgaaGreatDoor.Vm
open Go Go.RowKit
theorem xA0:∀{xs:List AV},solids xs=true ↔ ∀x ∈ xs,x.solid=true
 | []=>by simp [solids]
 | x :: xs=>by simp [solids,xA0 (xs:=xs)]
theorem xBp:∀{xs:List AV},youngs xs=true ↔ ∀x ∈ xs,x.young=true
 | []=>by simp [youngs]
 | x :: xs=>by simp [youngs,xBp (xs:=xs)]
theorem xAM:∀{xs:List (List AV)},youngss xs=true ↔ ∀x ∈ xs.flatten,x.young=true
 | []=>by simp [youngss]
 | x :: xs=>by
  simp only [youngss,Bool.and_eq_true,xBp,xAM (xs:=xs),List.flatten_cons,List.mem_append]
  exact ⟨fun h y hy=>hy.elim (h.1 y) (h.2 y),fun h=>⟨fun y hy=>h y (.inl hy),fun y hy=>h y (.inr hy)⟩⟩
theorem xHi {E:St} (h:youngo E) {i:Nat} {x:AObj} (hx:E.obj i=some x):x.young=true:=h i x hx
def YoungS (S:St):Prop:=∀o x,S.obj o=some x->x.young=true
theorem xHj {α β:Type} {f:α->Option β}:∀{l:List α} {m:List β},mapOpt f l=some m->∀y ∈ m,∃ x ∈ l,f x=some y
 | l,m,h,y,hy=>by
  rcases xAs h with ⟨rfl,rfl⟩ | ⟨x,xs,z,zs,rfl,rfl,h1,h2⟩
  ·simp at hy
  ·rcases List.mem_cons.1 hy with rfl | hy
   ·exact ⟨x,by simp,h1⟩
   ·obtain ⟨u,hu,hf⟩:=xHj h2 y hy
    exact ⟨u,by simp [hu],hf⟩
 termination_by l=>l.length
theorem xF3 {f:AV->Option AV}:∀{es:List (List AV)} {fs:List (List AV)},mapOpt (mapOpt f) es=some fs->mapOpt f es.flatten=some fs.flatten
 | es,fs,h=>by
  rcases xAs h with ⟨rfl,rfl⟩ | ⟨e,es',g,fs',rfl,rfl,h1,h2⟩
  ·rfl
  ·have:=xF3 h2
   simp only [List.flatten_cons]
   have key:∀{a b:List AV} {c d:List AV},mapOpt f a=some c->mapOpt f b=some d->mapOpt f (a ++ b)=some (c ++ d):=by
    intro a
    induction a with
    | nil=>intro b c d h1 h2;simp [mapOpt] at h1;subst h1;simpa using h2
    | cons x a ih =>
     intro b c d h1 h2
     simp only [mapOpt] at h1
     split at h1
     ·rename_i y ys hy hys
      simp only [xoI] at h1;subst h1
      simp [mapOpt,hy,ih hys h2]
     ·cases h1
   exact key h1 this
 termination_by es=>es.length
theorem xKG {f:AV->Option AV} {sz:Nat}:∀{es fs:List (List AV)},mapOpt (mapOpt f) es=some fs->(∀e ∈ es,e.length=sz)->fs.length=es.length/\∀e ∈ fs,e.length=sz:=by
 intro es fs h hs
 refine ⟨xBk h,fun e he=>?_⟩
 obtain ⟨x,hx,hf⟩:=xHj h e he
 rw [xBk hf,hs x hx]
section
variable {C D:Ctx}
theorem xB3 {p:AV->Prop} (f:AV->Option AV) (hf:∀x y v,p x->f x=some y->VR C v x->VR D v y/\y.solid=true):∀{vs:List Value} {xs ys:List AV},VRs C vs xs->(∀x ∈ xs,p x)->mapOpt f xs=some ys->VRs D vs ys/\∀y ∈ ys,y.solid=true
 | _,_,ys,.nil,hp,h=>by simp [mapOpt] at h;subst h;exact ⟨.nil,by simp⟩
 | _,_,ys,.cons v x vs xs hv hvs,hp,h=>by
  rcases xAs h with ⟨h1,_⟩ | ⟨x',xs',y,ys',h1,rfl,h2,h3⟩
  ·cases h1
  ·cases h1
   obtain ⟨a1,a2⟩:=hf x y v (hp x (by simp)) h2 hv
   obtain ⟨b1,b2⟩:=xB3 f hf hvs (fun z hz=>hp z (by simp [hz])) h3
   exact ⟨.cons _ _ _ _ a1 b1,by intro z hz;rcases List.mem_cons.1 hz with rfl | hz;exact a2;exact b2 z hz⟩
mutual
theorem xF4 (hw:D.w=C.w) (hD:∀b,b < C.w.heap.size->¬ C.bad b->¬ D.bad b):∀{v:Value} {x:AV},VR C v x->x.solid=true->VR D v x
 | _,_,.int k n,_=>.int k n
 | _,_,.bool b,_=>.bool b
 | _,_,.str s,_=>.str s
 | _,_,.nilptr,_=>.nilptr
 | _,_,.ptr o i off l h,hs=>by simp [AV.solid] at hs
 | _,_,.fptr b q off vs cells hc hv hso hb hl,hs=>by simp [AV.solid] at hs
 | _,_,.nilsl a,_=>.nilsl a
 | _,_,.fsl b q cap sz vs es hc hs hv hso hb hl hcap,_=>.fsl b q cap sz vs es (hw ▸ hc) hs (xBd hw hD hv hso) hso (hD b hl hb) (hw ▸ hl) hcap
 | _,_,.fnil a cap sz,_=>.fnil a cap sz
 | _,_,.sl sz o off len cap l c e f h hz hh hm hcap,hs=>by simp [AV.solid] at hs
 | _,_,.slnil a sz o off,hs=>by simp [AV.solid] at hs
 | _,_,.asl sz o i off len cap l h hcap,hs=>by simp [AV.solid] at hs
 | _,_,.aslnil a cap sz o i off,hs=>by simp [AV.solid] at hs
 | _,_,.nilmap,_=>.nilmap
 | _,_,.map o l h,hs=>by simp [AV.solid] at hs
 | _,_,.nilfunc,_=>.nilfunc
 | _,_,.func fn a c xs ys ha hc,hs=>by
  simp only [AV.solid,Bool.and_eq_true,xA0] at hs
  exact .func fn a c xs ys (xBd hw hD ha hs.1) (xBd hw hD hc hs.2)
 | _,_,.niliface,_=>.niliface
 | _,_,.anyi k n,_=>.anyi k n
 | _,_,.iface t v x h,hs=>.iface t v x (xF4 hw hD h (by simpa [AV.solid] using hs))
 | _,_,.agg vs cs h,hs=>.agg vs cs (xBd hw hD h (by simpa [AV.solid,xA0] using hs))
 | _,_,.tuple vs cs h,hs=>.tuple vs cs (xBd hw hD h (by simpa [AV.solid,xA0] using hs))
 | _,_,.yield o l h,hs=>by simp [AV.solid] at hs
theorem xBd (hw:D.w=C.w) (hD:∀b,b < C.w.heap.size->¬ C.bad b->¬ D.bad b):∀{vs:List Value} {xs:List AV},VRs C vs xs->(∀x ∈ xs,x.solid=true)->VRs D vs xs
 | _,_,.nil,_=>.nil
 | _,_,.cons v x vs xs h hs,hx=>.cons v x vs xs (xF4 hw hD h (hx x (by simp))) (xBd hw hD hs (fun y hy=>hx y (by simp [hy])))
end
theorem xH0 (hR:Rel C) (hw:D.w=C.w) (n:Nat):∀(x y:AV) (v:Value),
  ((∀b,b < C.w.heap.size->¬ C.bad b->¬ D.bad b) \/ (x.young=true/\YoungS C.S))->((∀b,C.own b->¬ D.bad b) \/ x.solid=true)->pict C.S [] n x=some y->VR C v x->VR D v y/\y.solid=true:=by
 induction n with
 | zero=>intro x y v _ _ h;simp [pict] at h
 | succ n ih =>
  intro x y v hfr hown hp hv
  have rows:∀(sz:Nat) (es fs:List (List AV)) (vs:List Value),(∀b,C.own b->¬ D.bad b)->((∀b,b < C.w.heap.size->¬ C.bad b->¬ D.bad b) \/ ((∀z ∈ es.flatten,z.young=true)/\YoungS C.S))->(∀e ∈ es,e.length=sz)->mapOpt (mapOpt (pict C.S [] n)) es=some fs->VRs C vs es.flatten ->
    VRs D vs fs.flatten/\(∀z ∈ fs.flatten,z.solid=true)/\fs.length=es.length/\∀e ∈ fs,e.length=sz:=by
   intro sz es fs vs ho hfr hs hm hvs
   have hm':=xF3 hm
   obtain ⟨l1,l2⟩:=xKG hm hs
   rcases hfr with hfr | ⟨hy,hY⟩
   ·obtain ⟨a1,a2⟩:=xB3 (p:=fun _=>True) (pict C.S [] n) (fun x y v _ h1 h2=>ih x y v (.inl hfr) (.inl ho) h1 h2) hvs (fun _ _=>trivial) hm'
    exact ⟨a1,a2,l1,l2⟩
   ·obtain ⟨a1,a2⟩:=xB3 (p:=fun z=>z.young=true) (pict C.S [] n) (fun x y v hx h1 h2=>ih x y v (.inr ⟨hx,hY⟩) (.inl ho) h1 h2) hvs hy hm'
    exact ⟨a1,a2,l1,l2⟩
  have many:∀(xs ys:List AV) (vs:List Value),((∀b,b < C.w.heap.size->¬ C.bad b->¬ D.bad b) \/ (youngs xs=true/\YoungS C.S))->((∀b,C.own b->¬ D.bad b) \/ solids xs=true)->mapOpt (pict C.S [] n) xs=some ys->VRs C vs xs->VRs D vs ys/\∀z ∈ ys,z.solid=true:=by
   intro xs ys vs hfr ho hm hvs
   refine xB3 (p:=fun z=>z ∈ xs) (pict C.S [] n) (fun x y v hx h1 h2=>ih x y v ?_ ?_ h1 h2) hvs (fun _ h=>h) hm
   ·rcases hfr with h | ⟨h,hY⟩
    ·exact .inl h
    ·exact .inr ⟨xBp.1 h x hx,hY⟩
   ·rcases ho with h | h
    ·exact .inl h
    ·exact .inr (xA0.1 h x hx)
  have slices:∀(sz o off len:Nat) (es fs:List (List AV)) (l:Loc) (cap:Nat),(∀b,C.own b->¬ D.bad b)->C.μ o=some l->l.sz=sz->len<=cap->elems C.S (.sl sz o off len)=some es->((∀b,b < C.w.heap.size->¬ C.bad b->¬ D.bad b) \/ YoungS C.S)->mapOpt (mapOpt (pict C.S [] n)) es=some fs ->
    VR D (.slice (some ⟨l.blk,l.off + off * sz,none⟩) len cap) (.fsl sz fs)/\(AV.fsl sz fs).solid=true:=by
   intro sz o off len es fs l cap ho hl hlz hcap he hfr hm
   refine ⟨?_,rfl⟩
   rcases xCb he with ⟨es0,h1,h2,rfl⟩ | ⟨rfl,rfl⟩
   ·by_cases hlen:len=0
    ·subst hlen;simp [mapOpt] at hm;subst hm;exact .fnil _ _ _
    ·have hlt:off < es0.length:=by omega
     obtain ⟨l',c',ty,vs,k1,k2,k3,k4,k5,k6,k7,k8,_⟩:=xBy hR h1 (xgG hlt)
     rw [hl] at k1;cases k1
     have hrel:VRs C ((vs.drop (off * sz)).take (len * sz)) ((es0.drop off).take len).flatten:=by
      rw [xBi _ (fun x hx=>k6 x (List.mem_of_mem_drop hx)),xBE _ k6]
      exact (k8.drop _).take _
     have hs:∀e ∈ (es0.drop off).take len,e.length=sz:=fun x hx=>k6 x (List.mem_of_mem_drop (List.mem_of_mem_take hx))
     obtain ⟨a1,a2,a3,a4⟩:=rows sz _ fs _ ho (hfr.imp id fun hY=>⟨fun z hz=>by
      have:=hY o _ h1
      simp only [AObj.young,xAM] at this
      refine this z ?_
      obtain ⟨m,hm1,hm2⟩:=List.mem_flatten.1 hz
      exact List.mem_flatten.2 ⟨m,List.mem_of_mem_drop (List.mem_of_mem_take hm1),hm2⟩,hY⟩) hs hm hrel
     have hlen':fs.length=len:=by rw [a3];simp;omega
     have hc:Cells C.w l.blk (l.off + off * sz) ((vs.drop (off * sz)).take (len * sz)):=by
      have:Cells C.w l.blk l.off vs:=by
       intro j v hj
       rw [cell_of_row C.w l.blk _ c' ty (0,0) k4]
       exact k7 j v hj
      exact (this.drop _).take _
     have:=VR.fsl (C:=D) l.blk (l.off + off * sz) cap sz _ fs (hw ▸ hc) a4 a1 a2 (ho l.blk ⟨o,l,_,h1,hl,rfl⟩) (by rw [hw];exact (Array.getElem?_eq_some_iff.1 k4).1) (by omega)
     rwa [hlen'] at this
   ·simp [mapOpt] at hm;subst hm;exact .fnil _ _ _
  cases hv with
  | int k m=>simp [pict] at hp;subst hp;exact ⟨.int _ _,rfl⟩
  | bool b=>simp [pict] at hp;subst hp;exact ⟨.bool _,rfl⟩
  | str s=>simp [pict] at hp;subst hp;exact ⟨.str _,rfl⟩
  | nilptr=>simp [pict] at hp;subst hp;exact ⟨.nilptr,rfl⟩
  | ptr o i off l h=>simp [pict] at hp
  | fptr b q off vs cells hc hv hso hb hl=>simp [pict] at hp
  | nilsl a=>simp [pict] at hp;subst hp;exact ⟨.nilsl _,rfl⟩
  | fsl b q cap sz vs es hc hs hv hso hb hl hcap =>
   simp [pict] at hp;subst hp
   refine ⟨?_,rfl⟩
   rcases hfr with hfr | ⟨hy,_⟩
   ·exact xF4 hw hfr (.fsl b q cap sz vs es hc hs hv hso hb hl hcap) rfl
   ·simp only [AV.young,List.isEmpty_iff] at hy
    subst hy;exact .fnil _ _ _
  | fnil a cap sz=>simp [pict] at hp;subst hp;exact ⟨.fnil _ _ _,rfl⟩
  | sl sz o off len cap l c e f h hz hh hm hcap =>
   simp only [pict,List.idxOf?_nil] at hp
   rcases hown with hown | hs
   ·split at hp
    ·rename_i es he
     simp only [Option.map_eq_some_iff] at hp
     obtain ⟨fs,hm',rfl⟩:=hp
     exact slices sz o off len es fs l cap hown h hz hcap he (hfr.imp id (·.2)) hm'
    ·cases hp
   ·simp [AV.solid] at hs
  | slnil a sz o off =>
   simp only [pict,List.idxOf?_nil] at hp
   split at hp
   ·rename_i es he
    simp only [Option.map_eq_some_iff] at hp
    obtain ⟨fs,hm',rfl⟩:=hp
    have hes:es=[]:=by
     rcases xCb he with ⟨es0,h1,h2,rfl⟩ | ⟨_,rfl⟩
     ·simp
     ·rfl
    subst hes
    simp [mapOpt] at hm';subst hm'
    exact ⟨.fnil _ _ _,rfl⟩
   ·cases hp
  | asl sz o i off len cap l h hcap =>
   simp only [pict] at hp
   rcases hown with hown | hs
   ·split at hp
    ·rename_i es he
     simp only [Option.map_eq_some_iff] at hp
     obtain ⟨fs,hm',rfl⟩:=hp
     refine ⟨?_,rfl⟩
     simp only [elems] at he
     split at he
     ·rename_i sz'' es0 hobj
      split at he
      ·rename_i e hel
       split at he
       ·rename_i hle
        simp only [xoI] at he;subst he
        obtain ⟨l',c',ty,vs,k1,k2,k3,k4,k5,k6,k7,k8,k9,k10,k11,k12⟩:=xBy hR hobj hel
        rw [h] at k1;cases k1
        have hflat:∀(k:Nat) (m:List AV),k * sz<=m.length->(cutL sz k m).flatten=m.take (k * sz)/\(cutL sz k m).length=k/\∀e ∈ cutL sz k m,e.length=sz:=by
         intro k
         induction k with
         | zero=>intro m _;simp [cutL]
         | succ k ihk =>
          intro m hm
          rw [Nat.add_mul] at hm
          obtain ⟨i1,i2,i3⟩:=ihk (m.drop sz) (by simp;omega)
          refine ⟨?_,by simp [cutL,i2],?_⟩
          ·simp only [cutL,List.flatten_cons,i1]
           rw [Nat.add_mul,Nat.one_mul,Nat.add_comm (k * sz) sz,List.take_add]
          ·intro e he
           simp only [cutL,List.mem_cons] at he
           rcases he with rfl | he
           ·simp;omega
           ·exact i3 e he
        obtain ⟨f1,f2,f3⟩:=hflat len (e.drop off) (by simp;omega)
        have hrel:=(k10.drop off).take (len * sz)
        rw [<- f1] at hrel
        obtain ⟨a1,a2,a3,a4⟩:=rows sz _ fs _ hown (hfr.imp id fun hY=>⟨fun z hz=>by
         have:=hY.2 o _ hobj
         simp only [AObj.young,xAM] at this
         rw [f1] at hz
         exact this z (List.mem_flatten.2 ⟨e,xmG hel,List.mem_of_mem_drop (List.mem_of_mem_take hz)⟩),hY.2⟩) f3 hm' hrel
        rw [<- k2] at k9
        have:=VR.fsl (C:=D) l.blk (l.off + i * l.sz + off) cap sz _ fs (hw ▸ ((k9.drop off).take (len * sz))) a4 (by rw [k2];exact a1) a2 (hown l.blk ⟨o,l,_,hobj,h,rfl⟩) (by rw [hw];exact (Array.getElem?_eq_some_iff.1 k4).1) (by rw [a3,f2];exact hcap)
        rwa [a3,f2] at this
       ·cases he
      ·cases he
     ·cases he
    ·cases hp
   ·simp [AV.solid] at hs
  | aslnil a cap sz o i off =>
   simp only [pict] at hp
   split at hp
   ·rename_i es he
    simp only [Option.map_eq_some_iff] at hp
    obtain ⟨fs,hm',rfl⟩:=hp
    have hes:es=[]:=by
     simp only [elems] at he
     split at he
     ·split at he
      ·split at he
       ·simp only [xoI] at he;rw [<- he];rfl
       ·cases he
      ·cases he
     ·cases he
    subst hes
    simp [mapOpt] at hm';subst hm'
    exact ⟨.fnil _ _ _,rfl⟩
   ·cases hp
  | nilmap=>simp [pict] at hp;subst hp;exact ⟨.nilmap,rfl⟩
  | map o l h=>simp [pict] at hp
  | yield o l h=>simp [pict] at hp
  | nilfunc=>simp [pict] at hp;subst hp;exact ⟨.nilfunc,rfl⟩
  | func fn a c xs ys ha hc =>
   simp only [pict] at hp
   split at hp
   ·rename_i a' b' h1 h2
    simp only [xoI] at hp;subst hp
    obtain ⟨p1,p2⟩:=many xs a' a (hfr.imp id fun h=>⟨by simpa [AV.young] using (by simpa [AV.young] using h.1:youngs xs=true/\youngs ys=true).1,h.2⟩) (hown.imp id fun h=>(by simpa [AV.solid] using h:solids xs=true/\solids ys=true).1) h1 ha
    obtain ⟨q1,q2⟩:=many ys b' c (hfr.imp id fun h=>⟨(by simpa [AV.young] using h.1:youngs xs=true/\youngs ys=true).2,h.2⟩) (hown.imp id fun h=>(by simpa [AV.solid] using h:solids xs=true/\solids ys=true).2) h2 hc
    exact ⟨.func _ _ _ _ _ p1 q1,by simp [AV.solid,xA0];exact ⟨p2,q2⟩⟩
   ·cases hp
  | niliface=>simp [pict] at hp;subst hp;exact ⟨.niliface,rfl⟩
  | anyi k m=>simp [pict] at hp;subst hp;exact ⟨.anyi k m,rfl⟩
  | iface t v x h =>
   simp only [pict,Option.map_eq_some_iff] at hp
   obtain ⟨y',h1,rfl⟩:=hp
   obtain ⟨p1,p2⟩:=ih x y' v (hfr.imp id fun h=>⟨by simpa [AV.young] using h.1,h.2⟩) (hown.imp id fun h=>by simpa [AV.solid] using h) h1 h
   exact ⟨.iface _ _ _ p1,by simpa [AV.solid] using p2⟩
  | agg vs cs h =>
   simp only [pict,Option.map_eq_some_iff] at hp
   obtain ⟨y',h1,rfl⟩:=hp
   obtain ⟨p1,p2⟩:=many cs y' vs (hfr.imp id fun h=>⟨by simpa [AV.young] using h.1,h.2⟩) (hown.imp id fun h=>by simpa [AV.solid] using h) h1 h
   exact ⟨.agg _ _ p1,by simpa [AV.solid,xA0] using p2⟩
  | tuple vs cs h =>
   simp only [pict,Option.map_eq_some_iff] at hp
   obtain ⟨y',h1,rfl⟩:=hp
   obtain ⟨p1,p2⟩:=many cs y' vs (hfr.imp id fun h=>⟨by simpa [AV.young] using h.1,h.2⟩) (hown.imp id fun h=>by simpa [AV.solid] using h) h1 h
   exact ⟨.tuple _ _ p1,by simpa [AV.solid,xA0] using p2⟩
end
end Go.Proofs.YtnhfofmhkfdpgaaGreatDoor.Vm
namespace Go.Proofs.YtnhfofmhkfdpgaaGreatDoor.Vm
open Go Go.RowKit
def Ctx.retAt (C:Ctx) (id nx:Nat) (w':World) (μ':Nat->Option Loc) (objs:St):Ctx :=
 ⟨w',C.base,C.av,fun q=>if id<=q/\q < id + objs.next then μ' (q - id) else C.μ q,⟨nx,fun q=>if id<=q/\q < id + objs.next then (objs.obj (q - id)).bind (AObj.shift id) else C.S.obj q⟩⟩
structure Free (C:Ctx) (id len nx:Nat):Prop where
 no:∀q,id<=q->q < id + len->C.S.obj q=none/\C.μ q=none
 le:id + len<=nx
 nx:C.S.next<=nx
theorem Rel.free {C:Ctx} (h:Rel C) (len:Nat):Free C C.S.next len (C.S.next + len) where
 no q h1 h2:=by
  refine ⟨?_,?_⟩
  ·cases e:C.S.obj q with
   | none=>rfl
   | some x=>have:=h.lt _ _ e;omega
  ·cases e:C.μ q with
   | none=>rfl
   | some l=>have:=h.fresh _ _ e;omega
 le:=by omega
 nx:=by omega
def Ctx.end (w0 w':World) (av':Nat->Prop) (μ':Nat->Option Loc) (objs:St):Ctx:=⟨w',w0.heap.size,av',μ',objs⟩
section
variable {C:Ctx} {w':World} {av':Nat->Prop} {μ':Nat->Option Loc} {objs:St} {id nx:Nat}
theorem xN8 (hR:Rel C) {b:Nat} (h:(C.retAt id nx w' μ' objs).own b):(C.own b/\b < C.w.heap.size) \/ (Ctx.end C.w w' av' μ' objs).own b:=by
 obtain ⟨q,l,x,h1,h2,h3⟩:=h
 simp only [Ctx.retAt] at h1 h2
 by_cases e:¬ (id<=q/\q < id + objs.next)
 ·rw [if_neg e] at h1 h2
  exact .inl ⟨⟨q,l,x,h1,h2,h3⟩,h3 ▸ hR.blk_lt h1 h2⟩
 ·rw [if_pos (Decidable.not_not.1 e)] at h1 h2
  simp only [xoB] at h1
  obtain ⟨y,hy,hsh⟩:=h1
  exact .inr ⟨q - id,l,y,hy,h2,h3⟩
theorem xH1 (hR:Rel C) {b:Nat} (hfr:∀b,b < C.w.heap.size->¬ av' b->¬ C.bad b) (h:¬ (Ctx.end C.w w' av' μ' objs).bad b):¬ (C.retAt id nx w' μ' objs).bad b:=by
 intro hb
 have hav:∀hlt:b < C.w.heap.size,¬ C.bad b:=fun hlt=>hfr b hlt fun ha=>h (.inl ⟨hlt,ha⟩)
 rcases hb with ⟨h1,h2⟩ | hb
 ·have h1':b < C.base:=h1
  have:=hR.basele
  exact hav (by omega) (.inl ⟨h1,h2⟩)
 ·rcases xN8 (av':=av') hR hb with ⟨h1,h2⟩ | h1
  ·exact hav h2 (.inr h1)
  ·exact h (.inr h1)
theorem xRO (hR:Rel C) (hB:Below C.w.heap.size C.w w') (hE:Rel (Ctx.end C.w w' av' μ' objs)) (hfree:Free C id objs.next nx):Le C (C.retAt id nx w' μ' objs) where
 base:=rfl
 av:=rfl
 μ q l hl:=by
  simp only [Ctx.retAt]
  rw [if_neg (by rintro ⟨h1,h2⟩;rw [(hfree.no q h1 h2).2] at hl;cases hl)];exact hl
 size:=hB.size
 cells b c e f hb:=⟨c,f,(hB.block b (Array.getElem?_eq_some_iff.1 hb).1).trans hb,rfl⟩
 keep b hb hn:=by
  refine ⟨hB.block b hb,?_⟩
  rintro (⟨h1,h2⟩ | h)
  ·exact hn (.inl ⟨h1,h2⟩)
  ·rcases xN8 (av':=av') hR h with ⟨h1,_⟩ | ⟨q,l,x,h1,h2,h3⟩
   ·exact hn (.inr h1)
   ·have:=hE.low q x l h1 h2
    have:C.w.heap.size<=l.blk:=this
    omega
 below:=hB.mono hR.basele
 loops b r hb:=⟨r,(hB.block b (Array.getElem?_eq_some_iff.1 hb).1).trans hb⟩
theorem xEE (n:Nat):∀xs:List AV,shifts n xs=xs.map (AV.shift n)
 | []=>rfl
 | x :: xs=>by simp [shifts,xEE n xs]
theorem xFj (n:Nat):∀es:List (List AV),(shiftss n es).flatten=shifts n es.flatten
 | []=>rfl
 | e :: es=>by simp [shiftss,xFj n es,xEE]
theorem xDN (n:Nat):∀es:List (List AV),shiftss n es=es.map (shifts n)
 | []=>rfl
 | e :: es=>by simp [shiftss,xDN n es]
mutual
theorem xF5 (hR:Rel C) (hE:Rel (Ctx.end C.w w' av' μ' objs)):∀{v:Value} {x:AV},VR (Ctx.end C.w w' av' μ' objs) v x->((∀b,b < C.w.heap.size->¬ av' b->¬ C.bad b) \/ x.young=true)->VR (C.retAt id nx w' μ' objs) v (x.shift id)
 | _,_,.int k n,_=>.int k n
 | _,_,.bool b,_=>.bool b
 | _,_,.str s,_=>.str s
 | _,_,.nilptr,_=>.nilptr
 | _,_,.ptr o i off l h,_=>.ptr (o + id) i off l (by have hlt:o < objs.next:=hE.fresh o l h;simp only [Ctx.retAt];rw [if_pos (by omega),Nat.add_sub_cancel];exact h)
 | _,_,.fptr b q off vs cells hc hv hso hb hl,hfr=>by
  rcases hfr with hfr | hy
  ·exact .fptr b q off vs cells hc (xBd (C:=Ctx.end C.w w' av' μ' objs) (D:=C.retAt id nx w' μ' objs) rfl (fun b _ hb=>xH1 hR hfr hb) hv hso) hso (xH1 hR hfr hb) hl
  ·simp [AV.young] at hy
 | _,_,.nilsl a,_=>.nilsl a
 | _,_,.fsl b q cap sz vs es hc hs hv hso hb hl hcap,hfr=>by
  rcases hfr with hfr | hy
  ·exact .fsl b q cap sz vs es hc hs (xBd (C:=Ctx.end C.w w' av' μ' objs) (D:=C.retAt id nx w' μ' objs) rfl (fun b _ hb=>xH1 hR hfr hb) hv hso) hso (xH1 hR hfr hb) hl hcap
  ·simp only [AV.young,List.isEmpty_iff] at hy
   subst hy;exact .fnil _ _ _
 | _,_,.fnil a cap sz,_=>.fnil a cap sz
 | _,_,.sl sz o off len cap l c e f h hz hh hm hcap,_=>.sl sz (o + id) off len cap l c e f (by have hlt:o < objs.next:=hE.fresh o l h;simp only [Ctx.retAt];rw [if_pos (by omega),Nat.add_sub_cancel];exact h) hz hh hm hcap
 | _,_,.slnil a sz o off,_=>.slnil a sz (o + id) off
 | _,_,.asl sz o i off len cap l h hcap,_=>.asl sz (o + id) i off len cap l (by have hlt:o < objs.next:=hE.fresh o l h;simp only [Ctx.retAt];rw [if_pos (by omega),Nat.add_sub_cancel];exact h) hcap
 | _,_,.aslnil a cap sz o i off,_=>.aslnil a cap sz (o + id) i off
 | _,_,.nilmap,_=>.nilmap
 | _,_,.map o l h,_=>.map (o + id) l (by have hlt:o < objs.next:=hE.fresh o l h;simp only [Ctx.retAt];rw [if_pos (by omega),Nat.add_sub_cancel];exact h)
 | _,_,.nilfunc,_=>.nilfunc
 | _,_,.func fn a c xs ys ha hc,hfr=>.func fn a c _ _ (xDm hR hE ha (hfr.imp (fun h=>h) fun h=>by simp only [AV.young,Bool.and_eq_true] at h;exact xBp.1 h.1)) (xDm hR hE hc (hfr.imp (fun h=>h) fun h=>by simp only [AV.young,Bool.and_eq_true] at h;exact xBp.1 h.2))
 | _,_,.niliface,_=>.niliface
 | _,_,.anyi k n,_=>.anyi k n
 | _,_,.iface t v x h,hfr=>.iface t v _ (xF5 hR hE h (hfr.imp (fun h=>h) fun h=>by simpa [AV.young] using h))
 | _,_,.agg vs cs h,hfr=>.agg vs _ (xDm hR hE h (hfr.imp (fun h=>h) fun h=>xBp.1 (by simpa [AV.young] using h)))
 | _,_,.yield o l h,_=>.yield (o + id) l (by have hlt:o < objs.next:=hE.fresh o l h;simp only [Ctx.retAt];rw [if_pos (by omega),Nat.add_sub_cancel];exact h)
 | _,_,.tuple vs cs h,hfr=>.tuple vs _ (xDm hR hE h (hfr.imp (fun h=>h) fun h=>xBp.1 (by simpa [AV.young] using h)))
theorem xDm (hR:Rel C) (hE:Rel (Ctx.end C.w w' av' μ' objs)):∀{vs:List Value} {xs:List AV},VRs (Ctx.end C.w w' av' μ' objs) vs xs->((∀b,b < C.w.heap.size->¬ av' b->¬ C.bad b) \/ ∀x ∈ xs,x.young=true)->VRs (C.retAt id nx w' μ' objs) vs (shifts id xs)
 | _,_,.nil,_=>.nil
 | _,_,.cons v x vs xs h hs,hfr=>.cons v _ vs _ (xF5 hR hE h (hfr.imp (fun h=>h) fun h=>h x (by simp))) (xDm hR hE hs (hfr.imp (fun h=>h) fun h y hy=>h y (by simp [hy])))
end
theorem xLD (hR:Rel C) (hE:Rel (Ctx.end C.w w' av' μ' objs)):∀{ms:List MapEntry} {es:List (AV × AV)},MapRel (Ctx.end C.w w' av' μ' objs) ms es->((∀b,b < C.w.heap.size->¬ av' b->¬ C.bad b) \/ youngm es=true)->MapRel (C.retAt id nx w' μ' objs) ms (shiftm id es)
 | _,_,.nil,_=>.nil
 | _,_,.cons m k v ms es hk hv h,hfr=>.cons m _ _ ms _ (xF5 hR hE hk (hfr.imp (fun h=>h) fun h=>by simp only [youngm,Bool.and_eq_true] at h;exact h.1.1)) (xF5 hR hE hv (hfr.imp (fun h=>h) fun h=>by simp only [youngm,Bool.and_eq_true] at h;exact h.1.2))
   (xLD hR hE h (hfr.imp (fun h=>h) fun h=>by simp only [youngm,Bool.and_eq_true] at h;exact h.2))
theorem xI5 {n sz:Nat} {es:List (List AV)} (h:∀e ∈ es,e.length=sz):∀e ∈ shiftss n es,e.length=sz:=by
 intro e he
 rw [xDN] at he
 obtain ⟨x,hx,rfl⟩:=List.mem_map.1 he
 rw [xEE,List.length_map];exact h x hx
theorem xSl (hR:Rel C) (hB:Below C.w.heap.size C.w w') (hE:Rel (Ctx.end C.w w' av' μ' objs)) (hfr:(∀b,b < C.w.heap.size->¬ av' b->¬ C.bad b) \/ youngo objs) (hfree:Free C id objs.next nx):Rel (C.retAt id nx w' μ' objs) where
 obj q x hq:=by
  have hL:=xRO hR hB hE hfree
  have hq0:=hq
  simp only [Ctx.retAt] at hq
  by_cases e:¬ (id<=q/\q < id + objs.next)
  ·rw [if_neg e] at hq
   refine (hR.obj q x hq).mono hL (fun hn=>by simp only [Ctx.retAt,if_neg e];exact hn) (fun l hl=>hB.block _ (hR.blk_lt hq hl))
  ·rw [if_pos (Decidable.not_not.1 e)] at hq
   simp only [xoB] at hq
   obtain ⟨y,hy,hsh⟩:=hq
   have hyg:(∀b,b < C.w.heap.size->¬ av' b->¬ C.bad b) \/ y.young=true:=hfr.imp (fun h=>h) fun h=>xHi h hy
   have hobj:=hE.obj (q - id) y hy
   have hμ:∀l,μ' (q - id)=some l->(C.retAt id nx w' μ' objs).μ q=some l:=fun l hl=>by simp only [Ctx.retAt,if_pos (Decidable.not_not.1 e)];exact hl
   cases y with
   | loop n ps F asg body st=>simp [AObj.shift] at hsh
   | row sz es =>
    simp only [AObj.shift,xoI] at hsh;subst hsh
    rcases hobj with ⟨h1,h2⟩ | ⟨l,c,ty,vs,h1,h2,h3,h4,h5,h6,h7,h8⟩
    ·exact .inl ⟨by rw [h1];rfl,by simp only [Ctx.retAt,if_pos (Decidable.not_not.1 e)];exact h2⟩
    ·refine .inr ⟨l,c,ty,vs,hμ l h1,h2,h3,h4,?_,xI5 h6,h7,?_⟩
     ·rw [xDN,List.length_map];exact h5
     ·rw [xFj]
      exact xDm hR hE h8 (hyg.imp (fun h=>h) fun h=>xAM.1 h)
   | map es =>
    simp only [AObj.shift,xoI] at hsh;subst hsh
    obtain ⟨l,ms,ck,h1,h2,h3⟩:=hobj
    exact ⟨l,ms,ck,hμ l h1,h2,xLD hR hE h3 (hyg.imp (fun h=>h) fun h=>h)⟩
 inj q q' l l' x x' hq hq' hl hl' hb:=by
  simp only [Ctx.retAt] at hq hq' hl hl'
  by_cases e:¬ (id<=q/\q < id + objs.next) <;> by_cases e':¬ (id<=q'/\q' < id + objs.next)
  ·rw [if_neg e] at hq hl;rw [if_neg e'] at hq' hl'
   exact hR.inj q q' l l' x x' hq hq' hl hl' hb
  ·rw [if_neg e] at hq hl;rw [if_pos (Decidable.not_not.1 e')] at hq' hl'
   simp only [xoB] at hq'
   obtain ⟨y,hy,hsh⟩:=hq'
   have h1:=hR.blk_lt hq hl
   have h2:C.w.heap.size<=l'.blk:=hE.low _ y l' hy hl'
   omega
  ·rw [if_pos (Decidable.not_not.1 e)] at hq hl;rw [if_neg e'] at hq' hl'
   simp only [xoB] at hq
   obtain ⟨y,hy,hsh⟩:=hq
   have h1:=hR.blk_lt hq' hl'
   have h2:C.w.heap.size<=l.blk:=hE.low _ y l hy hl
   omega
  ·rw [if_pos (Decidable.not_not.1 e)] at hq hl;rw [if_pos (Decidable.not_not.1 e')] at hq' hl'
   simp only [xoB] at hq hq'
   obtain ⟨y,hy,_⟩:=hq
   obtain ⟨y',hy',_⟩:=hq'
   have:=hE.inj _ _ l l' y y' hy hy' hl hl' hb
   omega
 lt q x hq:=by
  have:=hfree.le;have:=hfree.nx
  simp only [Ctx.retAt] at hq ⊢
  by_cases e:¬ (id<=q/\q < id + objs.next)
  ·rw [if_neg e] at hq;have:=hR.lt q x hq;omega
  ·rw [if_pos (Decidable.not_not.1 e)] at hq
   simp only [xoB] at hq
   obtain ⟨y,hy,hsh⟩:=hq
   have:=hE.lt _ _ hy
   omega
 fresh q l hl:=by
  have:=hfree.le;have:=hfree.nx
  simp only [Ctx.retAt] at hl ⊢
  by_cases e:¬ (id<=q/\q < id + objs.next)
  ·rw [if_neg e] at hl;have:=hR.fresh q l hl;omega
  ·rw [if_pos (Decidable.not_not.1 e)] at hl
   have h:q - id < objs.next:=hE.fresh _ l hl
   omega
 low q x l hq hl:=by
  simp only [Ctx.retAt] at hq hl ⊢
  by_cases e:¬ (id<=q/\q < id + objs.next)
  ·rw [if_neg e] at hq hl;exact hR.low q x l hq hl
  ·rw [if_pos (Decidable.not_not.1 e)] at hq hl
   simp only [xoB] at hq
   obtain ⟨y,hy,hsh⟩:=hq
   have h2:C.w.heap.size<=l.blk:=hE.low _ y l hy hl
   have:=hR.basele
   omega
 basele:=by have:=hR.basele;have:=hB.size;show C.base<=w'.heap.size;omega
end
def Ctx.at (C:Ctx) (w':World):Ctx:={ C with w:=w' }
theorem xMI {C:Ctx} (hR:Rel C) {w':World} (hB:Below C.w.heap.size C.w w'):Le C (C.at w') where
 base:=rfl
 av:=rfl
 μ q l hl:=hl
 size:=hB.size
 cells b c e f hb:=⟨c,f,(hB.block b (Array.getElem?_eq_some_iff.1 hb).1).trans hb,rfl⟩
 keep b hb hn:=⟨hB.block b hb,hn⟩
 below:=hB.mono hR.basele
 loops b r hb:=⟨r,(hB.block b (Array.getElem?_eq_some_iff.1 hb).1).trans hb⟩
theorem xI6 {C:Ctx} (hR:Rel C) {w':World} (hB:Below C.w.heap.size C.w w'):Rel (C.at w') where
 obj q x hq:=(hR.obj q x hq).mono (xMI hR hB) (fun h=>h) (fun l hl=>hB.block _ (hR.blk_lt hq hl))
 inj:=hR.inj
 lt:=hR.lt
 fresh:=hR.fresh
 low:=hR.low
 basele:=by have:=hR.basele;have:=hB.size;show C.base<=w'.heap.size;omega
end Go.Proofs.YtnhfofmhkfdpgaaGreatDoor.Vm
