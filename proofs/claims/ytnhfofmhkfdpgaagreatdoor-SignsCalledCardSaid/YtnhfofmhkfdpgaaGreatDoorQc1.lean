/- A part of the proof: Vw Vy Vz Cc Cr Db Rr Rs Rv Cy Cv. -/
import Derived.IntWalk
import Derived.KernelRfl
import Derived.Test.YtnhfofmhkfdpgaaGreatDoorQc0
set_option linter.unusedVariables false
set_option linter.unusedSimpArgs false
set_option linter.constructorNameAsVariable false
namespace Go.Proofs.YtnhfofmhkfdpgaaGreatDoor.Vm
open Go Go.RowKit
section
variable {P:Program} {g:Glob}
variable {l:List VOper} {aft:List (List Nat)} {F FF:AFrame} {S0 R:St} {ds:List DS} {G:Nat→AFrame}
section
variable (D:DrawOK P g l aft F FF S0 R ds G)
include D
end
end
section
variable {P:Program} {g:Glob}
section
variable {d:Option Nat} {F:AFrame} {S S0 R:St} {af:List Nat}
end
end
section
variable {P:Program} {g:Glob}
attribute [simp] partV fillV over fitsAll EK.fits eqCells valEq scalarEq okEl mapOpt SK.isRead SK.isMake
attribute [simp] AV.plain plains AV.solid solids AV.young youngs youngss
attribute [simp] KK.fits cutL
end
section
variable {P:Program} {g:Glob}
end
section
variable {α:Type} {e:α→List AV} {l m:List α}
end
section
variable {P:Program} {g:Glob}
end
section
variable {α:Type} {e:α→List AV} [PlainE e] {l:List α}
end
attribute [simp] AObj.plainO Kept AObj.ren AV.shift shifts
section
variable {α:Type} {e:α→List AV} {sz:Nat} {v:AV} {l:List α}
end
section
variable {P:Program} {g:Glob} {α:Type} {e:α→List AV} {sz:Nat} {l:List α}
end
theorem SEnv.join_on (a b:SEnv):(a.join b).isSome=(a.isSome || b.isSome):=by
 cases a <;> cases b <;> simp [SEnv.join,SEnv.own]
end Go.Proofs.YtnhfofmhkfdpgaaGreatDoor.Vm
namespace Go.Proofs.YtnhfofmhkfdpgaaGreatDoor.Vm
open Go Go.RowKit
variable {N:Nat} {g:Glob}
noncomputable def Prg.calledS (p:Prg):List Bool:=p.parS.map fun e=>e.isSome
theorem xPU {p:Prg} (hp:p.OK):OwnL P (gl N) boolc 1 27 [encP p] p.calledS:=by
 refine OwnL.in c27 (by simp) ?_
 have hfl:=(Prg.sane_iff.1 hp.sane).1
 have hlen:p.parS.length=p.funs.length:=by simp [Prg.parS]
 have hcf:FSl envcS 2 (.fsl 2 (els envcS p.parS)) p.parS:=FSl.mk
 simp [k27]
 refine (xDI hp).use (n:=9) (by simp [mapOpt,xAd p.funsS.stab]) (by simp [solids,AV.solid,p.funsS.solid]) ?_
 simp [solveE,hcf.len,hlen]
 refine W.whileI (fun (k:Nat) F S=>k≤p.funs.length∧F 8=.fsl 2 (els envcS p.parS)∧F 9=.int .i64 p.funs.length∧F 10=.int .i64 k∧∃ v,F 3=v∧v.one=true∧Has boolc 1 S v (p.calledS.take k)∧Bel S v) (fun k=>p.funs.length - k) ?_ 0 _ _ ?_
 ·rintro k F S ⟨hk,f8,f9,f10,v,f3,hv1,hv,hb⟩
  by_cases hlt:k < p.funs.length
  ·obtain ⟨e,he⟩:∃ e,p.parS[k]?=some e:=⟨_,xgG (by omega)⟩
   have e4:=wrapS k (by omega)
   have hst:p.calledS.take (k + 1)=p.calledS.take k ++ [e.isSome]:=xAe (by simp [Prg.calledS,he])
   simp [f9,f10,hlt]
   obtain ⟨w,hw,hw1⟩:∃ w,envcS e=[.bool e.isSome,w]∧w.one=true:=by cases e <;> exact ⟨_,rfl,rfl⟩
   simp [f8,f10,hcf.idx he,f3,hw,hw1]
   generalize hS1:((S.new (.row 2 [[.bool false,.nilsl]])).set S.next (.row 2 [[.bool e.isSome,w]])).new (.row 1 [[.bool e.isSome]])=S1
   have hu:Up S S1:=by rw [← hS1];exact ((Up.new _ _).put (Nat.le_refl _) _).trans (Up.new _ _)
   clear hS1
   refine xBe (e:=boolc) (x:=e.isSome) ((hv.keep fun q ⟨n,hq⟩=>hu.2 q (hb _ _ _ hq))) rfl (by simp [room];omega) fun S' h1 h2 h3=>?_
   have hkl:(p.calledS.take k).length=k:=by simp [Prg.calledS,hlen];omega
   simp [f8,f9,e4]
   rw [← hst,List.length_take] at h1
   exact ⟨k + 1,by omega,by omega,by omega,h1,Bel.sl (by omega)⟩
  ·have:k=p.funs.length:=by omega
   subst this
   have hall:p.calledS.take p.funs.length=p.calledS:=List.take_of_length_le (by simp [Prg.calledS,hlen])
   rw [hall] at hv
   simp [f9,f10,f3]
   exact hv
 ·simp
  exact ⟨Has.nil,Bel.nil⟩
theorem xHU {p:Prg} {X:List SEnv} {f b:Nat}:∀(m:List Int) (e:SEnv),e.le (m.foldl (fun e j=>e.join (hereX p X f j.toNat (p.cd f j.toNat).length)) e)∧∀j ∈ m,(hereX p X f j.toNat (p.cd f j.toNat).length).le (m.foldl (fun e j=>e.join (hereX p X f j.toNat (p.cd f j.toNat).length)) e)
 | [],e=>⟨SEnv.le_refl e,fun j hj=>by cases hj⟩
 | j :: m,e=>by
  obtain ⟨h1,h2⟩:=xHU (p:=p) (X:=X) (f:=f) (b:=b) m (e.join (hereX p X f j.toNat (p.cd f j.toNat).length))
  refine ⟨SEnv.le_trans (SEnv.le_join_l _ _) h1,fun k hk=>?_⟩
  rcases List.mem_cons.1 hk with rfl | hk
  ·exact SEnv.le_trans (SEnv.le_join_r _ _) h1
  ·exact h2 k hk
theorem xPu {p:Prg} (hp:p.OK) {f b j:Nat} {x:Fun} {y:Blk} (hx:p.funs[f]?=some x) (hy:x.blks[b]?=some y) (hj:(j:Int) ∈ y.out) (hjl:j < x.blks.length):(hereX p p.ssol f b y.ins.length).le (p.sAt (.blk f j)):=by
 rw [Prg.sAt_fix (u:=.blk f j) ⟨x,hx,hjl⟩]
 have hm:(b:Int) ∈ x.preds j:=Fun.preds_mem.2 ⟨b,y,rfl,hy,hj⟩
 have:=(xHU (p:=p) (X:=p.ssol) (f:=f) (b:=j) (p.predsN f j) (begX0 p p.ssol f j)).2 b (by rw [(Prg.predsN_of hp hx).2];exact hm)
 rw [Int.toNat_natCast,Prg.cd_of hx hy] at this
 exact this
theorem xOe {p:Prg} {f:Nat} {x:Fun} (hx:p.funs[f]?=some x) (h0:0 < x.blks.length):((p.sAt (.par f)).start x.par x.vars).le (p.sAt (.blk f 0)):=by
 rw [Prg.sAt_fix (u:=.blk f 0) ⟨x,hx,h0⟩]
 have:=(xHU (p:=p) (X:=p.ssol) (f:=f) (b:=0) (p.predsN f 0) (begX0 p p.ssol f 0)).1
 refine SEnv.le_trans ?_ this
 unfold begX0
 rw [if_pos rfl]
 simp only [Prg.parOf,Prg.varsOf,hx]
 exact SEnv.le_refl _
theorem xK3 {p:Prg} {X:List SEnv}:∀(l:List Step) (e:SEnv),e.le (l.foldl (callX p X) e)
 | [],e=>SEnv.le_refl e
 | s :: l,e=>by
  refine SEnv.le_trans ?_ (xK3 l _)
  unfold callX
  split
  ·exact SEnv.le_refl e
  ·exact SEnv.le_join_l _ _
theorem xQ6 {p:Prg} {x:Fun} (hx:p.funs[0]?=some x):SEnv.le (some (allS x.par 7)) (p.sAt (.par 0)):=by
 rw [Prg.sAt_fix (u:=.par 0) (xgS hx).1]
 refine SEnv.le_trans ?_ (xK3 (p.callsTo 0) _)
 unfold parX0
 rw [if_pos rfl]
 simp only [Prg.parOf,hx]
 exact SEnv.le_refl _
inductive Rch (G:List (List Int)) (a0:Nat):Nat→Prop
 | base:Rch G a0 a0
 | step {a b:Nat} {l:List Int} (h:Rch G a0 a) (hl:G[a]?=some l) (hb:(b:Int) ∈ l):Rch G a0 b
structure Wlk (G:List (List Int)) (a0:Nat) (T:List Nat) (met:List Bool) (way:List (Nat × Nat)):Prop where
 m:∀x:Nat,met[x]?=some true ↔ x ∈ T ∨ ∃ nx,(x,nx) ∈ way
 r:∀x:Nat,met[x]?=some true→Rch G a0 x
 c:∀x ∈ T,∀l,G[x]?=some l→∀b:Nat,(b:Int) ∈ l→met[b]?=some true
 w:∀a nx,(a,nx) ∈ way→∀l,G[a]?=some l→∀k,k < nx→∀b:Nat,l[k]?=some (b:Int)→met[b]?=some true
 z:met[a0]?=some true
theorem xWk {met:List Bool} {b x:Nat} (hb:met[b]?=some false):(met.set b true)[x]?=some true ↔ met[x]?=some true ∨ x=b:=by
 have hl:=(xgS hb).1
 by_cases h:x=b
 ·subst h;simp [hl]
 ·rw [List.getElem?_set_ne (Ne.symm h)];simp [h]
theorem Wlk.start {G:List (List Int)} {a0:Nat} (h:a0 < G.length):Wlk G a0 [] ((List.replicate G.length false).set a0 true) [(a0,0)]:=by
 have hf:(List.replicate G.length false)[a0]?=some false:=by simp [h]
 have hn:∀x:Nat,¬ (List.replicate G.length false)[x]?=some true:=fun x hx=>by
  have:=xmG hx
  rw [List.mem_replicate] at this
  cases this.2
 refine ⟨fun x=>?_,fun x hx=>?_,fun x hx=>by (cases hx),fun a nx ha l hl k hk=>?_,?_⟩
 ·rw [xWk hf];simp [hn x]
 ·rw [xWk hf] at hx
  rcases hx with hx | rfl
  ·exact absurd hx (hn x)
  ·exact .base
 ·simp at ha;omega
 ·rw [xWk hf];exact .inr rfl
theorem Wlk.push {G:List (List Int)} {a0 a nx b:Nat} {T:List Nat} {met:List Bool} {pre:List (Nat × Nat)} {l:List Int} (h:Wlk G a0 T met (pre ++ [(a,nx)])) (hl:G[a]?=some l) (hx:l[nx]?=some (b:Int)) (hb:met[b]?=some false):Wlk G a0 T (met.set b true) (pre ++ [(a,nx)] ++ [(b,0)]):=by
 have ha:met[a]?=some true:=(h.m a).2 (.inr ⟨nx,by simp⟩)
 refine ⟨fun x=>?_,fun x hx'=>?_,fun x hx' l' hl' c hc=>?_,fun a' nx' ha' l' hl' k hk c hc=>?_,?_⟩
 ·rw [xWk hb,h.m x]
  constructor
  ·rintro ((h1 | ⟨n,h1⟩) | rfl)
   ·exact .inl h1
   ·exact .inr ⟨n,List.mem_append_left _ h1⟩
   ·exact .inr ⟨0,by simp⟩
  ·rintro (h1 | ⟨n,h1⟩)
   ·exact .inl (.inl h1)
   ·rcases List.mem_append.1 h1 with h1 | h1
    ·exact .inl (.inr ⟨n,h1⟩)
    ·simp at h1;exact .inr h1.1
 ·rw [xWk hb] at hx'
  rcases hx' with hx' | rfl
  ·exact h.r x hx'
  ·exact .step (h.r a ha) hl (xmG hx)
 ·rw [xWk hb];exact .inl (h.c x hx' l' hl' c hc)
 ·rcases List.mem_append.1 ha' with h1 | h1
  ·rw [xWk hb];exact .inl (h.w a' nx' h1 l' hl' k hk c hc)
  ·simp at h1;omega
 ·rw [xWk hb];exact .inl h.z
theorem Wlk.next {G:List (List Int)} {a0 a nx b:Nat} {T:List Nat} {met:List Bool} {pre:List (Nat × Nat)} {l:List Int} (h:Wlk G a0 T met (pre ++ [(a,nx)])) (hl:G[a]?=some l) (hx:l[nx]?=some (b:Int)) (hb:met[b]?=some true):Wlk G a0 T met (pre ++ [(a,nx + 1)]):=by
 refine ⟨fun x=>?_,h.r,h.c,fun a' nx' ha' l' hl' k hk c hc=>?_,h.z⟩
 ·rw [h.m x]
  constructor
  ·rintro (h1 | ⟨n,h1⟩)
   ·exact .inl h1
   ·rcases List.mem_append.1 h1 with h1 | h1
    ·exact .inr ⟨n,List.mem_append_left _ h1⟩
    ·simp at h1;exact .inr ⟨nx + 1,by simp [h1.1]⟩
  ·rintro (h1 | ⟨n,h1⟩)
   ·exact .inl h1
   ·rcases List.mem_append.1 h1 with h1 | h1
    ·exact .inr ⟨n,List.mem_append_left _ h1⟩
    ·simp at h1;exact .inr ⟨nx,by simp [h1.1]⟩
 ·rcases List.mem_append.1 ha' with h1 | h1
  ·exact h.w a' nx' (List.mem_append_left _ h1) l' hl' k hk c hc
  ·simp at h1
   obtain ⟨rfl,rfl⟩:=h1
   rw [hl] at hl';cases hl'
   by_cases hkn:k=nx
   ·subst hkn
    rw [hx] at hc
    have:b=c:=by simp at hc;omega
    rw [← this];exact hb
   ·exact h.w a' nx (by simp) l hl k (by omega) c hc
theorem Wlk.pop {G:List (List Int)} {a0 a nx:Nat} {T:List Nat} {met:List Bool} {pre:List (Nat × Nat)} {l:List Int} (h:Wlk G a0 T met (pre ++ [(a,nx)])) (hl:G[a]?=some l) (hx:l.length≤nx):Wlk G a0 (T ++ [a]) met pre:=by
 refine ⟨fun x=>?_,h.r,fun x hx' l' hl' c hc=>?_,fun a' nx' ha'=>h.w a' nx' (List.mem_append_left _ ha'),h.z⟩
 ·rw [h.m x]
  constructor
  ·rintro (h1 | ⟨n,h1⟩)
   ·exact .inl (List.mem_append_left _ h1)
   ·rcases List.mem_append.1 h1 with h1 | h1
    ·exact .inr ⟨n,h1⟩
    ·simp at h1;exact .inl (by simp [h1.1])
  ·rintro (h1 | ⟨n,h1⟩)
   ·rcases List.mem_append.1 h1 with h1 | h1
    ·exact .inl h1
    ·simp at h1;exact .inr ⟨nx,by simp [h1]⟩
   ·exact .inr ⟨n,List.mem_append_left _ h1⟩
 ·rcases List.mem_append.1 hx' with h1 | h1
  ·exact h.c x h1 l' hl' c hc
  ·simp at h1;subst h1
   rw [hl] at hl';cases hl'
   obtain ⟨k,hk⟩:=List.mem_iff_getElem?.1 hc
   have:=(xgS hk).1
   exact h.w x nx (by simp) l hl k (by omega) c hk
theorem Wlk.done {G:List (List Int)} {a0:Nat} {T:List Nat} {met:List Bool} (h:Wlk G a0 T met []) (x:Nat):x ∈ T ↔ Rch G a0 x:=by
 have hm:∀y:Nat,met[y]?=some true ↔ y ∈ T:=fun y=>by rw [h.m y];simp
 constructor
 ·intro hx;exact h.r x ((hm x).2 hx)
 ·intro hr
  induction hr with
  | base=>exact (hm a0).1 h.z
  | step _ hl hb ih=>exact (hm _).1 (h.c _ ih _ hl _ hb)
theorem xWO {v yf:AV} {G:List (List Int)} {S:St} {K:AV→St→Prop} (a0:Nat) (hv:GrV v G) (hn:G.length≤64) (hin:∀l ∈ G,l.length < 1048576∧∀x ∈ l,0≤x∧x < G.length) (hyc:yf.cells=[yf])
  (Inv:List Nat→(Nat→Prop)→St→Prop) (C0:Nat→Prop) (h0:Inv [] C0 S)
  (hlt:∀k C S',Inv k C S'→∀o,C o→o < S'.next)
  (hstab:∀k C S' S'',Inv k C S'→S'.next≤S''.next→(∀o,C o→S''.obj o=S'.obj o)→Inv k C S'')
  (hst:∀k C (x:Nat) S',x < G.length→k.length < G.length→Inv k C S'→∀K':AV→St→Prop,(∀C' S'',Inv (k ++ [x]) C' S''→S'.next≤S''.next→(∀o,o < S'.next→¬ C o→S''.obj o=S'.obj o)→(∀o,C' o→C o ∨ S'.next≤o)→K' (.tuple []) S'')→CalV P g yf [.int .i64 (x:Int)] S' K')
  (hk:∀k C S',k.length≤G.length→(∀x,x ∈ k ↔ a0 < G.length∧Rch G a0 x)→Inv k C S'→S.next≤S'.next→(∀o,o < S.next→¬ C0 o→S'.obj o=S.obj o)→K (.tuple []) S'):Cal P g 54 [v,.int .i64 (a0:Int),yf] S K:=by
 refine c54.in (by simp) ?_
 simp [k54]
 refine (xKA hv.len hv.stab (a0:Int)).use (n:=9) ?_ rfl ?_ <;> simp [xAd hv.stab]
 by_cases ha:a0 < G.length
 ·have e1:inGr G.length (a0:Int)=true:=by simp [inGr,ha]
  have hroom:G.length≤room:=by simp [room];omega
  simp [e1,hv.len,hroom,xAc ha]
  have hg:(List.replicate G.length [AV.bool false])[a0]?=some [AV.bool false]:=by simp [ha]
  simp [hg]
  refine W.whileF (fun (a:List Bool × List (Nat × Nat)) F S'=>∃ (k:List Nat) (C:Nat→Prop) (wo:Nat),F 0=v∧F 2=yf∧F 6=.sl 1 S.next 0 G.length∧F 7=.sl 2 wo 0 a.2.length∧S'.obj S.next=some (.row 1 (els boolc a.1))∧a.1.length=G.length ∧
   S'.obj wo=some (.row 2 (els stepc a.2))∧wo < S'.next∧S.next < wo∧¬ C S.next∧¬ C wo∧Inv k C S'∧(∀o,o < S.next→¬ C0 o→S'.obj o=S.obj o)∧(∀o,C o→C0 o ∨ S.next≤o)∧(∀p ∈ a.2,p.1 < G.length)∧k.length + a.2.length + a.1.count false=G.length∧Wlk G a0 k a.1 a.2)
   (fun a=>2 * a.1.count false + a.2.length) ?_ ((List.replicate G.length false).set a0 true,[(a0,0)]) _ _ ?_
  ·rintro ⟨met,way⟩ F S' ⟨k,C,wo,h0',h2,h6,h7,hmo,hml,hwo,hwl,hwn,hCm,hCw,hI,hfr,hCC,hway,hcnt,hW⟩
   simp only at h7 hmo hml hwo hway hcnt hW
   by_cases hw0:way=[]
   ·subst hw0
    simp [h7]
    exact hk k C S' (by simp at hcnt;omega) (fun x=>by rw [hW.done];simp [ha]) hI (by omega) hfr
   ·obtain ⟨pre,⟨a,nx⟩,rfl⟩:∃ pre p,way=pre ++ [p]:=⟨way.dropLast,way.getLast hw0,(List.dropLast_concat_getLast hw0).symm⟩
    have han:a < G.length:=hway (a,nx) (by simp)
    obtain ⟨l,hl⟩:∃ l,G[a]?=some l:=⟨_,xgG han⟩
    obtain ⟨w,hw,hix⟩:=hv.idx hl
    obtain ⟨hll,hlx⟩:=hin l (xmG hl)
    have hpre:pre.length < 64:=by simp at hcnt;omega
    have e5:IntKind.i64.wrap (pre.length:Int)=(pre.length:Int):=xAa (by omega)
    have hixp:pk (PK.indexAddr 2) [AV.sl 2 wo 0 (pre.length + 1),AV.int IntKind.i64 (pre.length:Int)]=some (.ptr wo (0 + pre.length) 0):=xAc (by omega)
    simp [h7,e5,hixp]
    refine W.whileI (fun (nx:Nat) F S2=>F 0=v∧F 2=yf∧F 6=.sl 1 S.next 0 G.length∧F 7=.sl 2 wo 0 (pre.length + 1)∧F 8=.ptr wo pre.length 0∧S2.obj wo=some (.row 2 (els stepc (pre ++ [(a,nx)])))∧S2.next=S'.next∧(∀o,o ≠ wo→S2.obj o=S'.obj o)∧Wlk G a0 k met (pre ++ [(a,nx)])) (fun nx=>l.length - nx) ?_ nx _ _ ?_
    ·clear hW
     rintro nx F S2 ⟨h0',h2,h6,h7,h8,hwo,hnx,hoth,hW⟩
     have hget:(els stepc (pre ++ [(a,nx)]))[pre.length]?=some [.int .i64 (a:Int),.int .i64 (nx:Int)]:=by simp [els,stepc]
     have hget2:∀h:pre.length < (els stepc (pre ++ [(a,nx)])).length,(els stepc (pre ++ [(a,nx)]))[pre.length]=[.int .i64 (a:Int),.int .i64 (nx:Int)]:=fun h=>by simp [els,stepc]
     have hmo2:S2.obj S.next=some (.row 1 (els boolc met)):=by rw [hoth _ (by omega)];exact hmo
     simp
     refine Dra.auto [] mix ?_ ?_
     ·kernel_rfl
     simp [classes,h0',h8,hwo,hget,hget2,hix,hw.len]
     by_cases hlt':nx < l.length
     ·obtain ⟨x,hx⟩:∃ x,l[nx]?=some x:=⟨_,xgG hlt'⟩
      have hxx:=hlx x (xmG hx)
      obtain ⟨b,rfl⟩:∃ b:Nat,x=(b:Int):=⟨x.toNat,by omega⟩
      have hbn:b < G.length:=by omega
      have e4:=wrapS nx (by omega)
      obtain ⟨mb,hmb⟩:∃ y,met[b]?=some y:=⟨_,xgG (by omega)⟩
      simp [hlt']
      refine Dra.auto [] mix ?_ ?_
      ·kernel_rfl
      simp [classes,h0',h8,hwo,hget,hget2,hix,hw.idx hx,intc]
      simp [h6,xAc hbn,hmo2,hmb,boolc]
      have hwo1:¬ wo=S.next:=by omega
      have hwo1':¬ S.next=wo:=by omega
      cases mb
      ·have hroom2:pre.length + 1 + 1≤room:=by simp [room];omega
       have hr0:¬ room=0:=by simp [room]
       have hwn2:¬ wo=S2.next:=by omega
       have hSn2:¬ S.next=S2.next:=by omega
       simp [h6,h7,xAc hbn,hmo2,hmb,boolc,hwo,hwo1,hwo1',hwn2,hSn2,hroom2,hr0]
       have hcs:=xM9 hmb
       refine ⟨met.set b true,pre ++ [(a,nx)] ++ [(b,0)],?_,_,Wk.refl _,h0',h2,k,C,S2.next + 1,⟨rfl,by simp⟩,?_,by simp [hml],?_,?_,?_,hCm,?_,?_,?_,hCC,?_,?_,?_⟩
       ·simp;omega
       ·simp [hwo1',hSn2,show ¬ S.next=S2.next + 1 by omega]
        rw [← xAg];rfl
       ·simp
        rw [List.take_of_length_le (by simp)]
        simp [els,stepc]
       ·simp
       ·omega
       ·intro h
        have:=hlt k C S' hI _ h
        omega
       ·refine hstab k C S' _ hI (by simp;omega) fun o ho=>?_
        have h1:¬ o=wo:=fun e=>hCw (e ▸ ho)
        have h2:¬ o=S.next:=fun e=>hCm (e ▸ ho)
        have h3:=hlt k C S' hI o ho
        simp [h1,h2,show ¬ o=S2.next + 1 by omega,show ¬ o=S2.next by omega]
        exact hoth o h1
       ·intro o ho hc0
        simp [show ¬ o=wo by omega,show ¬ o=S.next by omega,show ¬ o=S2.next + 1 by omega,show ¬ o=S2.next by omega]
        rw [hoth o (by omega)]
        exact hfr o ho hc0
       ·intro p q hp
        simp only [List.mem_append,List.mem_singleton,Prod.mk.injEq] at hp
        rcases hp with (hp | ⟨rfl,_⟩) | ⟨rfl,_⟩
        ·exact hway (p,q) (by simp [hp])
        ·exact han
        ·exact hbn
       ·simp at hcnt ⊢;omega
       ·exact hW.push hl hx hmb
      ·simp [h8,hwo,hget,hget2,h0',h2,h6,h7,e4]
       refine ⟨nx + 1,by omega,?_,hnx,fun o ho=>by simp [ho];exact hoth o ho,hW.next hl hx hmb⟩
       rw [show [AV.int IntKind.i64 (a:Int),AV.int IntKind.i64 ((nx:Int) + 1)]=stepc (a,nx + 1) by simp [stepc],xAg,xKB]
     ·simp [hlt',h8,hwo,hget,hget2,h2]
      refine hst k C a S2 han (by simp at hcnt;omega) (hstab k C S' S2 hI (by omega) fun o ho=>hoth o fun e=>hCw (e ▸ ho)) _ ?_
      intro C' S3 hI3 hn3 hk3 hC3
      simp [h7,e5,h0',h2,h6,xJE (show pre.length≤pre.length + 1 by omega)]
      have hwo3:S3.obj wo=some (.row 2 (els stepc (pre ++ [(a,nx)]))):=by rw [hk3 wo (by omega) hCw];exact hwo
      have hcut:=Wk.cut pre.length hwo3
      rw [xAw,List.take_left' rfl] at hcut
      have hC1:¬ C' S.next:=fun h=>by
       rcases hC3 _ h with h | h
       ·exact hCm h
       ·omega
      have hC2:¬ C' wo:=fun h=>by
       rcases hC3 _ h with h | h
       ·exact hCw h
       ·omega
      refine ⟨met,pre,by omega,_,hcut,k ++ [a],C',wo,⟨rfl,rfl⟩,?_,hml,by simp,by simp;omega,hwn,hC1,hC2,?_,?_,?_,?_,?_,hW.pop hl (by omega)⟩
      ·simp [show ¬ S.next=wo by omega]
       rw [hk3 _ (by omega) hCm];exact hmo2
      ·refine hstab (k ++ [a]) C' S3 _ hI3 (by simp) fun o ho=>?_
       have h1:¬ o=wo:=fun e=>hC2 (e ▸ ho)
       simp [h1]
      ·intro o ho hc0
       simp [show ¬ o=wo by omega]
       rw [hk3 o (by omega) fun h=>by
        rcases hCC o h with h | h
        ·exact hc0 h
        ·omega]
       rw [hoth o (by omega)]
       exact hfr o ho hc0
      ·intro o ho
       rcases hC3 o ho with h | h
       ·exact hCC o h
       ·exact .inr (by omega)
      ·intro p q hp
       exact hway (p,q) (by simp [hp])
      ·simp at hcnt ⊢;omega
    ·simp
     exact ⟨h0',h2,h6,by simpa using h7,hwo,hW⟩
  ·refine ⟨[],C0,S.next + 1,?_⟩
   have hcs:=xM9 (l:=List.replicate G.length false) (i:=a0) (by simp [ha])
   simp at hcs
   simp [hyc]
   refine ⟨?_,by simp [els,stepc],fun h=>?_,fun h=>?_,?_,?_,fun o h=>.inl h,ha,by omega,Wlk.start ha⟩
   ·show (List.replicate G.length (boolc false)).set a0 (boolc true)=_
    rw [xAh,xAg]
   ·have:=hlt [] C0 S h0 _ h;omega
   ·have:=hlt [] C0 S h0 _ h;omega
   ·refine hstab [] C0 S _ h0 (by simp;omega) fun o ho=>?_
    have:=hlt [] C0 S h0 o ho
    simp [show ¬ o=S.next + 1 by omega,show ¬ o=S.next by omega]
   ·intro o ho _
    simp [show ¬ o=S.next + 1 by omega,show ¬ o=S.next by omega]
 ·have e1:inGr G.length (a0:Int)=false:=by simp [inGr];omega
  simp [e1]
  exact hk [] C0 S (by simp) (fun x=>by simp [ha]) h0 (Nat.le_refl _) (fun _ _ _=>rfl)
noncomputable def marks (n:Nat) (T:Nat→Prop):List Bool:=open Classical in (List.range n).map fun x=>decide (T x)
theorem xW1 {n x:Nat} {T:List Nat} (hx:x < n):(marks n (fun y=>y ∈ T)).set x true=marks n (fun y=>y ∈ T ++ [x]):=by
 unfold marks
 apply List.ext_getElem?
 intro i
 by_cases hi:i=x
 ·subst hi
  rw [List.getElem?_set_self (by simpa using hx)]
  simp [hx]
 ·rw [List.getElem?_set_ne (Ne.symm hi)]
  by_cases hin:i < n
  ·simp [hin,hi]
  ·simp [hin]
theorem xWW {n:Nat} {T T':Nat→Prop} (h:∀x,x < n→(T x ↔ T' x)):marks n T=marks n T':=by
 unfold marks
 refine List.map_congr_left fun x hx=>?_
 rw [List.mem_range] at hx
 simp [h x hx]
theorem xWX (n:Nat):(marks n fun y=>y ∈ ([]:List Nat))=List.replicate n false:=by
 apply List.ext_getElem?
 intro i
 by_cases hi:i < n <;> simp [marks,hi,List.getElem?_replicate]
theorem xWI {n x:Nat} {T:List Nat} {S:St} {K:AV→St→Prop} (hx:x < n) (h1:S.obj 1=some (.row 1 [[.sl 1 0 0 n]])) (h0:S.obj 0=some (.row 1 (els boolc (marks n fun y=>y ∈ T))))
  (hK:K (.tuple []) (S.set 0 (.row 1 (els boolc (marks n fun y=>y ∈ T ++ [x]))))):Cal P g 56 [.int .i64 (x:Int),.ptr 1 0 0] S K:=by
 refine c56.in (by simp) ?_
 have hl:(marks n fun y=>y ∈ T).length=n:=by simp [marks]
 obtain ⟨b,hb⟩:∃ b,(marks n fun y=>y ∈ T)[x]?=some b:=⟨_,xgG (by omega)⟩
 simp [k56,h1,xAc hx,h0,hb,boolc]
 rw [← xW1 hx,← xAg] at hK
 exact hK
theorem xWD {S:St} {o:Nat} {l:List Bool} (h:S.obj o=some (.row 1 (els boolc l))):S.news.obj o=some (.row 1 (els boolc l)):=by
 rw [xCc,h]
 have:(AObj.row 1 (els boolc l)).young=true:=by
  show youngss _=true
  rw [xAN]
  intro x hx
  simp only [els,List.mem_flatten,List.mem_map] at hx
  obtain ⟨e,⟨b,_,rfl⟩,hx⟩:=hx
  simp [boolc] at hx
  subst hx;rfl
 simp [Option.filter,this]
theorem xWA {v:AV} {G:List (List Int)} (hv:GrV v G) (hG:G.length≤64) (hl:∀l ∈ G,l.length < 1048576) (a0:Nat) (ha0:a0 < G.length):Ret P g true 28 [v,.int .i64 (a0:Int)] (.fsl 1 (els boolc (marks G.length (Rch (cleanG G) a0)))):=by
 refine Ret.inP c28 (by simp) ?_
 have hroom:G.length≤room:=by simp [room];omega
 simp [k28,hv.len,hroom]
 refine (xAP hv (by omega) (fun l h=>by have:=hl l h;omega)).use (n:=9) ?_ rfl ?_ <;> simp [xAd hv.stab]
 have hCl:(cleanG G).length=G.length:=by simp [cleanG]
 have hCm:∀l ∈ cleanG G,l.length < 1048576∧∀x ∈ l,0≤x∧x < (cleanG G).length:=by
  intro l h
  rw [hCl]
  simp only [cleanG,List.mem_map] at h
  obtain ⟨m,hm,rfl⟩:=h
  exact ⟨Nat.lt_of_le_of_lt (xAZ _ _) (hl m hm),fun x hx=>(xAL.1 hx).2⟩
 refine xWO a0 (xCE (cleanG G)) (by omega) hCm rfl (fun T C S'=>C=(fun o=>o=0 ∨ o=1)∧2≤S'.next∧S'.obj 1=some (.row 1 [[.sl 1 0 0 G.length]])∧S'.obj 0=some (.row 1 (els boolc (marks G.length fun y=>y ∈ T)))) (fun o=>o=0 ∨ o=1) ?_ ?_ ?_ ?_ ?_
 ·refine ⟨rfl,by simp,by simp,?_⟩
  rw [xWX,← xAh]
  simp [boolc]
 ·rintro k C S' ⟨rfl,h,_⟩ o (rfl | rfl) <;> omega
 ·rintro k C S' S'' ⟨rfl,h1,h2,h3⟩ hn hs
  exact ⟨rfl,by omega,by rw [hs 1 (.inr rfl)];exact h2,by rw [hs 0 (.inl rfl)];exact h3⟩
 ·rintro k C x S' hx hkn ⟨rfl,h1,h2,h3⟩ K' hK'
  rw [hCl] at hx
  simp
  refine xWI hx h2 h3 (hK' _ _ ⟨rfl,by simpa using h1,by simpa using h2,by simp⟩ (by simp) (fun o ho hC=>?_) fun o ho=>.inl ho)
  have:¬ o=0:=fun e=>hC (.inl e)
  simp [this]
 ·rintro k C S' hkn hT ⟨rfl,h1,h2,h3⟩ hn hfr
  simp [h2]
  have e:(marks G.length fun y=>y ∈ k)=marks G.length (Rch (cleanG G) a0):=xWW fun x _=>by rw [hT x,hCl];simp [ha0]
  rw [e] at h3
  exact ⟨rfl,9,xBg (n:=7) (xWD h3) (by simp [marks])⟩
def Blk.gout (b:Blk):List Int:=if b.on=true then b.out else []
def Blk.gvB (b:Blk):AV:=if b.on=true then b.outV else .nilsl
theorem Blk.gS (b:Blk):FSl intc 1 b.gvB b.gout:=by
 unfold Blk.gvB Blk.gout
 split
 ·exact b.outS
 ·exact .inr ⟨rfl,rfl⟩
def Fun.gv (f:Fun) (j:Nat):AV:=match f.blks[j]? with | some b=>b.gvB | none=>.nilsl
def Fun.rowsTo (f:Fun) (k:Nat):List (List AV):=(List.range f.blks.length).map fun j=>[if j < k then f.gv j else .nilsl]
theorem Fun.rowsTo_len (f:Fun) (k:Nat):(f.rowsTo k).length=f.blks.length:=by simp [Fun.rowsTo]
theorem Fun.rowsTo_at (f:Fun) {k j:Nat} (h:j < f.blks.length):(f.rowsTo k)[j]?=some [if j < k then f.gv j else .nilsl]:=by simp [Fun.rowsTo,h]
theorem Fun.rowsTo_zero (f:Fun):f.rowsTo 0=List.replicate f.blks.length [.nilsl]:=by
 apply List.ext_getElem?
 intro i
 by_cases hi:i < f.blks.length
 ·rw [f.rowsTo_at hi,if_neg (by omega)];simp [hi]
 ·rw [List.getElem?_eq_none (by rw [f.rowsTo_len];omega)];simp [List.getElem?_replicate,hi]
theorem Fun.rowsTo_set (f:Fun) {k:Nat} (h:k < f.blks.length):(f.rowsTo k).set k [f.gv k]=f.rowsTo (k + 1):=by
 apply List.ext_getElem?
 intro i
 by_cases hi:i < f.blks.length
 ·by_cases e:i=k
  ·subst e
   rw [List.getElem?_set_self (by rw [f.rowsTo_len];exact hi),f.rowsTo_at hi,if_pos (by omega)]
  ·rw [List.getElem?_set_ne (Ne.symm e),f.rowsTo_at hi,f.rowsTo_at hi]
   by_cases h2:i < k
   ·rw [if_pos h2,if_pos (by omega)]
   ·rw [if_neg h2,if_neg (by omega)]
 ·rw [List.getElem?_eq_none (by rw [List.length_set,f.rowsTo_len];omega),List.getElem?_eq_none (by rw [f.rowsTo_len];omega)]
theorem Fun.rowsTo_same (f:Fun) {k:Nat} (h:f.gv k=.nilsl):f.rowsTo (k + 1)=f.rowsTo k:=by
 unfold Fun.rowsTo
 refine List.map_congr_left fun j _=>?_
 by_cases e:j=k
 ·subst e;rw [if_pos (by omega),if_neg (by omega),h]
 ·by_cases h2:j < k
  ·rw [if_pos h2,if_pos (by omega)]
  ·rw [if_neg h2,if_neg (by omega)]
theorem Fun.gv_of {f:Fun} {k:Nat} {b:Blk} (h:f.blks[k]?=some b):f.gv k=b.gvB:=by unfold Fun.gv;rw [h]
def Fun.gout (f:Fun):List (List Int):=f.blks.map Blk.gout
def Fun.goutV (f:Fun):AV:=.fsl 1 (els (fun b:Blk=>[b.gvB]) f.blks)
theorem Fun.gout_gr (f:Fun):GrV f.goutV f.gout:=by
 refine .inr ⟨f.blks.map Blk.gvB,by simp [Fun.goutV,els],by simp [Fun.gout],fun k w l hw hl=>?_⟩
 unfold Fun.gout at hl
 rw [List.getElem?_map] at hw hl
 cases hb:f.blks[k]? with
 | none=>rw [hb] at hw;cases hw
 | some b=>rw [hb] at hw hl;cases hw;cases hl;exact b.gS
theorem Fun.rowsTo_all (f:Fun) {S:St} {o:Nat} (h:S.obj o=some (.row 1 (f.rowsTo f.blks.length))) (m:Nat):pict S [] (m + 3) (.sl 1 o 0 f.blks.length)=some f.goutV:=by
 refine xAC (m:=m + 2) h (f.rowsTo_len _) (by simp) fun k e he=>?_
 have hk:k < f.blks.length:=by rw [← f.rowsTo_len f.blks.length];exact (xgS he).1
 rw [f.rowsTo_at hk,if_pos hk] at he
 have hb:=xgG hk
 rw [Fun.gv_of hb] at he
 cases he
 have hst:f.blks[k].gvB.stab=true:=f.blks[k].gS.stab
 simp [mapOpt,xAd hst,els,hk]
theorem xXg (f:Fun) (hf:f.blks.length≤64) (ho:∀b ∈ f.blks,b.out.length < 2 ^ 20):Ret P g false 29 [encFun f] (encG (cleanG f.gout)):=by
 refine Ret.in c29 (by simp) ?_
 have hroom:f.blks.length≤room:=by simp [room];omega
 simp [k29,f.blksS.len,hroom]
 refine W.whileI (fun (k:Nat) F S=>k≤f.blks.length∧F 3=.sl 1 1 0 f.blks.length∧F 11=f.blksV∧F 12=.int .i64 f.blks.length∧F 13=.int .i64 k∧2≤S.next∧S.obj 1=some (.row 1 (f.rowsTo k))) (fun k=>f.blks.length - k) ?_ 0 _ _ ?_
 ·rintro k F S ⟨hk,f3,f11,f12,f13,hn,h1⟩
  by_cases hlt:k < f.blks.length
  ·obtain ⟨b,hb⟩:∃ b,f.blks[k]?=some b:=⟨_,xgG hlt⟩
   have e4:=wrapS k (by omega)
   have z1:¬ 1=S.next:=by omega
   have hgv:=Fun.gv_of hb
   have hat:=f.rowsTo_at (k:=k) hlt
   simp [f12,f13,hlt]
   simp [f11,f13,f.blksS.idx hb]
   cases hon:b.on
   ·have hg:b.gvB=.nilsl:=by unfold Blk.gvB;rw [hon];rfl
    simp [f3,f11,f12,f13,e4]
    exact ⟨k + 1,by omega,by omega,by omega,by omega,by rw [f.rowsTo_same (by rw [hgv,hg])];simp [z1,h1]⟩
   ·have hg:b.gvB=b.outV:=by unfold Blk.gvB;rw [hon];rfl
    have hst:=f.rowsTo_set hlt
    rw [hgv,hg] at hst
    simp [f3,f11,f12,f13,e4,xAc hlt,z1,h1,hat,b.outS.cells]
    exact ⟨k + 1,by omega,by omega,by omega,by omega,by rw [hst]⟩
  ·have:k=f.blks.length:=by omega
   subst this
   simp [f12,f13,f3]
   have hp:=f.rowsTo_all h1
   refine (xAP f.gout_gr (by simp [Fun.gout];omega) (fun l hl=>?_)).use (n:=9) (by simp [mapOpt,hp 6]) rfl ?_
   ·unfold Fun.gout at hl
    obtain ⟨b,hb,rfl⟩:=List.mem_map.1 hl
    have:=ho b hb
    unfold Blk.gout
    split
    ·omega
    ·simp
   simp
   exact RK.stab rfl
 ·simp
  exact f.rowsTo_zero.symm
def Fun.Way (f:Fun) (b:Nat):Prop:=Rch (cleanG (cleanG f.gout)) 0 b
theorem xWR (f:Fun):(cleanG f.gout).length=f.blks.length:=by simp [cleanG,Fun.gout]
theorem xW2 {f:Fun} {a:Nat} {x:Blk} (hx:f.blks[a]?=some x):(cleanG (cleanG f.gout))[a]?=some (cleanL (cleanG f.gout).length (cleanL f.gout.length x.gout)):=by
 have h1:f.gout[a]?=some x.gout:=by unfold Fun.gout;rw [List.getElem?_map,hx];rfl
 have h2:(cleanG f.gout)[a]?=some (cleanL f.gout.length x.gout):=by unfold cleanG;rw [List.getElem?_map,h1];rfl
 generalize cleanG f.gout=C at h2 ⊢
 unfold cleanG;rw [List.getElem?_map,h2];rfl
theorem xWS {f:Fun} {b:Nat} {x:Blk}:(b:Int) ∈ cleanL (cleanG f.gout).length (cleanL f.gout.length x.gout) ↔ (b:Int) ∈ x.gout∧b < f.blks.length:=by
 have h:f.gout.length=f.blks.length:=by simp [Fun.gout]
 rw [xAL,xAL,xWR,h]
 constructor
 ·rintro ⟨⟨h1,_,h2⟩,_⟩;exact ⟨h1,by omega⟩
 ·rintro ⟨h1,h2⟩;exact ⟨⟨h1,by omega,by omega⟩,by omega,by omega⟩
theorem xW3 {f:Fun} {a b:Nat} {l:List Int} (hl:(cleanG (cleanG f.gout))[a]?=some l) (hb:(b:Int) ∈ l):∃ x,f.blks[a]?=some x∧(b:Int) ∈ x.out∧b < f.blks.length:=by
 cases hx:f.blks[a]? with
 | none =>
  have h1:a < (cleanG (cleanG f.gout)).length:=(xgS hl).1
  have h2:(cleanG (cleanG f.gout)).length=f.blks.length:=by simp [cleanG,Fun.gout]
  rw [List.getElem?_eq_none_iff] at hx
  omega
 | some x =>
  rw [xW2 hx] at hl
  cases hl
  obtain ⟨h1,h2⟩:=xWS.1 hb
  refine ⟨x,rfl,?_,h2⟩
  unfold Blk.gout at h1
  split at h1
  ·exact h1
  ·cases h1
theorem xW4 {f:Fun} {a b:Nat} {x:Blk} (hx:f.blks[a]?=some x) (hon:x.on=true) (hb:(b:Int) ∈ x.out) (hbl:b < f.blks.length):∃ l,(cleanG (cleanG f.gout))[a]?=some l∧(b:Int) ∈ l :=
 ⟨_,xW2 hx,xWS.2 ⟨by unfold Blk.gout;rw [if_pos hon];exact hb,hbl⟩⟩
end Go.Proofs.YtnhfofmhkfdpgaaGreatDoor.Vm
namespace Go.Proofs.YtnhfofmhkfdpgaaGreatDoor.Vm
open Go Go.RowKit
variable {N:Nat} {g:Glob}
open Classical in
noncomputable def Fun.cRow (x:Fun) (f:Nat):List Int:=((x.posTo f x.blks.length).filter fun s=>decide (s.2.2.2.kind=7∧x.Way s.2.1)).map fun s=>s.2.2.2.f
noncomputable def Prg.cG (p:Prg):List (List Int):=(List.range p.funs.length).map fun f=>match p.funs[f]? with
 | some x=>x.cRow f
 | none=>[]
theorem xWo (p:Prg):p.cG.length=p.funs.length:=by simp [Prg.cG]
theorem xWU {p:Prg} {f:Nat} {x:Fun} (hx:p.funs[f]?=some x):p.cG[f]?=some (x.cRow f):=by
 have:=(xgS hx).1
 simp only [Prg.cG,List.getElem?_map,List.getElem?_range this,Option.map_some,hx]
def Prg.Cld (p:Prg) (f:Nat):Prop:=Rch (cleanG p.cG) 0 f
theorem xXq {p:Prg} {f h:Nat} {x:Fun} (hx:p.funs[f]?=some x) (hh:h < p.funs.length) (hm:(h:Int) ∈ x.cRow f) (hc:p.Cld f):p.Cld h:=by
 refine Rch.step hc (l:=cleanL p.cG.length (x.cRow f)) ?_ ?_
 ·unfold cleanG;rw [List.getElem?_map,xWU hx];rfl
 ·rw [xAL,xWo];exact ⟨hm,by omega,by omega⟩
theorem xWV {x:Fun} {f:Nat} {h:Int}:h ∈ x.cRow f ↔ ∃ (b k:Nat) (y:Blk) (i:Ins),x.blks[b]?=some y∧y.ins[k]?=some i∧i.kind=7∧x.Way b∧i.f=h:=by
 unfold Fun.cRow
 simp only [List.mem_map,List.mem_filter,decide_eq_true_eq]
 constructor
 ·rintro ⟨s,⟨hs,h7,hw⟩,rfl⟩
  obtain ⟨_,_,y,q1,q2⟩:=Fun.posTo_mem.1 hs
  exact ⟨_,_,y,_,q1,q2,h7,hw,rfl⟩
 ·rintro ⟨b,k,y,i,q1,q2,h7,hw,rfl⟩
  exact ⟨(f,b,k,i),⟨Fun.posTo_mem.2 ⟨rfl,(xgS q1).1,y,q1,q2⟩,h7,hw⟩,rfl⟩
theorem SEnv.le_on {a b:SEnv} (h:a.le b) (ha:a.isSome=true):b.isSome=true:=by
 cases a with
 | none=>cases ha
 | some l=>obtain ⟨m,hm,_⟩:=h l rfl;rw [hm];rfl
theorem xWP (p:Prg) (X:List SEnv):∀(l:List Ins) (e:SEnv),(pastX p X e l).isSome=e.isSome
 | [],e=>rfl
 | i :: l,e=>by
  show (pastX p X (i.sign e _) l).isSome=_
  rw [xWP p X l,Ins.sign_on]
theorem xXb (p:Prg) (f b k:Nat):(hereX p p.ssol f b k).isSome=(p.sAt (.blk f b)).isSome:=xWP _ _ _ _
theorem xWL {p:Prg} {X:List SEnv}:∀(l:List Step) (e:SEnv) (s:Step),s ∈ l→(hereX p X s.1 s.2.1 s.2.2.1).isSome=true→(l.foldl (callX p X) e).isSome=true
 | [],_,_,hs,_=>by cases hs
 | t :: l,e,s,hs,hh=>by
  rcases List.mem_cons.1 hs with rfl | hs
  ·refine SEnv.le_on (xK3 l _) ?_
   unfold callX
   cases hx:hereX p X s.1 s.2.1 s.2.2.1 with
   | none=>rw [hx] at hh;cases hh
   | some m=>rw [SEnv.join_on];simp
  ·exact xWL l _ s hs hh
theorem xXt {p:Prg} (hp:p.OK) (hn:0 < p.funs.length) {f:Nat} (h:p.Cld f):(p.sAt (.par f)).isSome=true∧∀x b,p.funs[f]?=some x→x.Way b→(p.sAt (.blk f b)).isSome=true:=by
 have blk:∀f,(p.sAt (.par f)).isSome=true→∀x b,p.funs[f]?=some x→x.Way b→(p.sAt (.blk f b)).isSome=true:=by
  intro f hf x b hx hw
  unfold Fun.Way at hw
  induction hw with
  | base =>
   refine SEnv.le_on (xOe hx (hp.fun hx).len.1) ?_
   cases hs:p.sAt (.par f) with
   | none=>rw [hs] at hf;cases hf
   | some l=>rfl
  | step _ hl hb ih =>
   obtain ⟨y,hy,hby,hbl⟩:=xW3 hl hb
   refine SEnv.le_on (xPu hp hx hy hby hbl) ?_
   rw [xXb];exact ih
 have par:(p.sAt (.par f)).isSome=true:=by
  unfold Prg.Cld at h
  induction h with
  | base =>
   obtain ⟨x,hx⟩:∃ x,p.funs[0]?=some x:=⟨_,xgG hn⟩
   exact SEnv.le_on (xQ6 hx) rfl
  | @step a c l _ hl hb ih =>
   have ha:=(xgS hl).1
   have hcl:(cleanG p.cG).length=p.funs.length:=by simp [cleanG,xWo]
   obtain ⟨x,hx⟩:∃ x,p.funs[a]?=some x:=⟨_,xgG (by omega)⟩
   unfold cleanG at hl
   rw [List.getElem?_map,xWU hx] at hl
   cases hl
   rw [xAL,xWo] at hb
   obtain ⟨b,k,y,i,hy,hi,h7,hw,hf⟩:=xWV.1 hb.1
   have hfl:c < p.funs.length:=by omega
   rw [Prg.sAt_fix (u:=.par c) hfl]
   refine xWL (p.callsTo c) _ (a,b,k,i) (List.mem_filter.2 ⟨Prg.pos_mem.2 ⟨x,y,hx,hy,hi⟩,by simp [isCall,h7,hf]⟩) ?_
   rw [xXb]
   exact blk a ih x b hx hw
 exact ⟨par,fun x b hx hw=>blk f par x b hx hw⟩
def Prg.Rcd (p:Prg):Unk→Prop
 | .par f=>p.Cld f
 | .ans _=>True
 | .blk f b=>p.Cld f∧∃ x,p.funs[f]?=some x∧x.Way b
open Classical in
noncomputable def Prg.onY (p:Prg):List SEnv:=p.unks.map fun u=>if p.Rcd u then p.sAt u else none
theorem xWQ (p:Prg):p.onY.length=p.unks.length:=by simp [Prg.onY]
open Classical in
theorem onY_at {p:Prg} {u:Unk} (h:p.has u):p.onY.getD (p.at' u) none=if p.Rcd u then p.sAt u else none:=by
 rw [List.getD_eq_getElem?_getD,Prg.onY,List.getElem?_map,Prg.unks_at h];rfl
theorem xWF (p:Prg) (X:List SEnv) (l:List Ins):pastX p X none l=none:=by
 have:=xWP p X l none
 cases h:pastX p X none l with
 | none=>rfl
 | some m=>rw [h] at this;cases this
theorem xXz (p:Prg):XLe p.onY p.ssol:=fun k=>by
 rw [List.getD_eq_getElem?_getD,Prg.onY,List.getElem?_map]
 cases hu:p.unks[k]? with
 | none=>exact SEnv.le_none _
 | some u =>
  have hk:=(Prg.unks_has hu).2
  simp only [Option.map_some,Option.getD_some]
  split
  ·unfold Prg.sAt;rw [hk];exact SEnv.le_refl _
  ·exact SEnv.le_none _
theorem xXr {p:Prg} (hp:p.OK):p.ssys.Post p.onY:=by
 classical
 refine ⟨⟨xWQ p,fun e he=>?_⟩,fun k a ha=>?_⟩
 ·unfold Prg.onY at he
  obtain ⟨u,_,rfl⟩:=List.mem_map.1 he
  split
  ·exact p.ssol_ok _
  ·exact SEnv.ok_none
 ·have hk:k < p.unks.length:=by rw [← xWQ];exact (xgS ha).1
  obtain ⟨u,hu⟩:∃ u,p.unks[k]?=some u:=⟨_,xgG hk⟩
  obtain ⟨hh,rfl⟩:=Prg.unks_has hu
  have h1:=onY_at hh
  rw [List.getD_eq_getElem?_getD,ha] at h1
  simp only [Option.getD_some] at h1
  show SEnv.le (evX p p.onY (p.at' u)) a
  rw [xTx hh,h1]
  by_cases hr:p.Rcd u
  ·rw [if_pos hr,Prg.sAt_fix hh]
   exact xPn (xXz p) u
  ·rw [if_neg hr]
   have hnone:evU p p.onY u=none:=by
    cases u with
    | ans f=>exact absurd trivial hr
    | par f =>
     have hf0:f ≠ 0:=fun e=>hr (e ▸ Rch.base)
     show (p.callsTo f).foldl (callX p p.onY) (parX0 p f)=none
     have h0:parX0 p f=none:=by simp [parX0,hf0]
     rw [h0]
     have all:∀l:List Step,(∀s ∈ l,s ∈ p.callsTo f)→l.foldl (callX p p.onY) none=none:=by
      intro l hl
      induction l with
      | nil=>rfl
      | cons s l ih =>
       rw [List.foldl_cons]
       have hs:=hl s (by simp)
       have hx:callX p p.onY none s=none:=by
        obtain ⟨hs1,hs2⟩:=List.mem_filter.1 hs
        obtain ⟨x,y,hx,hy,hi⟩:=Prg.pos_mem.1 hs1
        have hbk:p.has (.blk s.1 s.2.1):=⟨x,hx,(xgS hy).1⟩
        have hno:¬ p.Rcd (.blk s.1 s.2.1):=fun ⟨hc,x',hx',hw⟩=>by
         rw [hx] at hx';cases hx'
         simp only [isCall,decide_eq_true_eq] at hs2
         exact hr (xXq hx hh (xWV.2 ⟨_,_,y,_,hy,hi,hs2.1,hw,hs2.2⟩) hc)
        have:hereX p p.onY s.1 s.2.1 s.2.2.1=none:=by
         unfold hereX;rw [onY_at hbk,if_neg hno];exact xWF _ _ _
        unfold callX;rw [this]
       rw [hx];exact ih fun t ht=>hl t (by simp [ht])
     exact all _ fun s hs=>hs
    | blk f b =>
     obtain ⟨x,hx,hb⟩:=hh
     have hfl:p.has (.par f):=(xgS hx).1
     have hnr:¬ (p.Cld f∧x.Way b):=fun ⟨h1,h2⟩=>hr ⟨h1,x,hx,h2⟩
     show begXTo p p.onY f b (p.predsN f b)=none
     rw [(Prg.predsN_of hp hx).2]
     have h0:begX0 p p.onY f b=none:=by
      unfold begX0
      by_cases hb0:b=0
      ·subst hb0
       have h1:p.onY.getD (p.at' (.par f)) none=none:=(onY_at hfl).trans (if_neg fun h=>hnr ⟨h,Rch.base⟩)
       show SEnv.start (p.parOf f) (p.varsOf f) (p.onY.getD (p.at' (.par f)) none)=none
       rw [h1];rfl
      ·rw [if_neg hb0]
     unfold begXTo
     rw [h0]
     have all:∀l:List Int,(∀j ∈ l,j ∈ x.preds b)→l.foldl (fun (e:SEnv) j=>e.join (hereX p p.onY f j.toNat (p.cd f j.toNat).length)) (none:SEnv)=none:=by
      intro l hl
      induction l with
      | nil=>rfl
      | cons j l ih =>
       rw [List.foldl_cons]
       obtain ⟨m,z,rfl,hz,hzb⟩:=Fun.preds_mem.1 (hl j (by simp))
       have hm:=(xgS hz).1
       have hon:z.on=true:=by
        cases hon:z.on
        ·have:=(((hp.fun hx).blk (xmG hz)).1 hon).2
         rw [this] at hzb;cases hzb
        ·rfl
       have hno:¬ p.Rcd (.blk f m):=fun ⟨hc,x',hx',hw⟩=>by
        rw [hx] at hx';cases hx'
        obtain ⟨l,hl1,hl2⟩:=xW4 hz hon hzb hb
        exact hnr ⟨hc,Rch.step hw hl1 hl2⟩
       have hn:hereX p p.onY f ((m:Int).toNat) (p.cd f (m:Int).toNat).length=none:=by
        rw [Int.toNat_natCast]
        unfold hereX;rw [onY_at (u:=.blk f m) ⟨x,hx,hm⟩,if_neg hno];exact xWF _ _ _
       rw [hn]
       exact ih fun t ht=>hl t (by simp [ht])
     exact all _ fun j hj=>hj
   rw [hnone];exact SEnv.le_none _
theorem xXu {p:Prg} (hp:p.OK) {u:Unk} (h:p.has u) (hon:(p.sAt u).isSome=true):p.Rcd u:=by
 classical
 refine Decidable.byContradiction fun hn=>?_
 have h1:=onY_at h
 rw [if_neg hn] at h1
 have hl:p.at' u < p.onY.length:=by rw [xWQ];exact Prg.at_lt h
 have h2:=p.ssol_least.low p.onY (xXr hp) (p.at' u) (p.sAt u) (p.onY[p.at' u]'hl) (Prg.sAt_get h) (xgG _)
 rw [List.getD_eq_getElem?_getD,xgG hl] at h1
 simp only [Option.getD_some] at h1
 rw [h1] at h2
 have:=SEnv.le_on h2 hon
 cases this
theorem xWY {p:Prg} (hp:p.OK) {f:Nat} (hf:f < p.funs.length):(p.sAt (.par f)).isSome=true ↔ p.Cld f :=
 ⟨fun h=>xXu hp (u:=.par f) hf h,fun h=>(xXt hp (by omega) h).1⟩
theorem xXw {p:Prg} (hp:p.OK) {f b:Nat} {x:Fun} (hx:p.funs[f]?=some x) (hb:b < x.blks.length):(p.sAt (.blk f b)).isSome=true ↔ p.Cld f∧x.Way b:=by
 have hf:=(xgS hx).1
 constructor
 ·intro h
  obtain ⟨h1,x',hx',h2⟩:=xXu hp (u:=.blk f b) ⟨x,hx,hb⟩ h
  rw [hx] at hx';cases hx'
  exact ⟨h1,h2⟩
 ·rintro ⟨h1,h2⟩
  exact (xXt hp (by omega) h1).2 x b hx h2
end Go.Proofs.YtnhfofmhkfdpgaaGreatDoor.Vm
namespace Go.Proofs.YtnhfofmhkfdpgaaGreatDoor.Vm
open Go Go.RowKit
variable {N:Nat} {g:Glob}
theorem xWG {p:Prg} {f:Nat} (h:f < p.funs.length):p.insS[f]?=some (p.insRow f (p.nb f)):=by simp [Prg.insS,h]
theorem xWs {p:Prg} {f m b:Nat} (h:b < m):(p.insRow f m)[b]?=some (p.sAt (.blk f b)):=by simp [Prg.insRow,h]
theorem xWt {p:Prg} {f m:Nat}:(p.insRow f m).length=m:=by simp [Prg.insRow]
theorem xWm (p:Prg):∃ w1 w2 w3,solveE p=.agg [w1,w2,w3]∧FSl (fun l=>[encF envcS 2 l]) 1 w1 p.insS∧FSl envcS 2 w2 p.parS∧FSl intc 1 w3 p.ansS:=⟨_,_,_,rfl,FSl.mk,FSl.mk,FSl.mk⟩
end Go.Proofs.YtnhfofmhkfdpgaaGreatDoor.Vm
