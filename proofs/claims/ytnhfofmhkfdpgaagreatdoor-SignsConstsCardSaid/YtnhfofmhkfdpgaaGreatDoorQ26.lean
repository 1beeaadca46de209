/- A part of the proof: Ob Oc Od Oe Of Og Ow. -/
import Derived.Test.YtnhfofmhkfdpgaaGreatDoorQ25
set_option linter.unusedVariables false
set_option linter.unusedSimpArgs false
set_option linter.constructorNameAsVariable false
namespace Go.Proofs.YtnhfofmhkfdpgaaGreatDoor.Vm
open Go Go.RowKit
set_option maxRecDepth 100000
variable {N:Nat} {g:Glob}
def onlyX (id:Nat) (R:AFrame→St→Prop):Res→Prop
 | .code (.exit k) F S=>k=id∧R F S
 | _=>False
@[simp] theorem xSs {id k R F S}:onlyX id R (.code (.exit k) F S)=(k=id∧R F S):=_root_.id rfl
theorem W.cutL {P:Program} {c:VCode} {F:AFrame} {S:St} {Q:Res→Prop} (id:Nat) (R:AFrame→St→Prop) (h1:W P g (.code (.loop c) F S) (onlyX id R)) (h2:∀F S,R F S→Q (.code (.exit id) F S)):W P g (.code (.loop c) F S) Q :=
 W.mono h1 fun r h=>by
  cases r with
  | val v S=>exact h.elim
  | code e F S =>
   cases e with
   | normal=>exact h.elim
   | ret=>exact h.elim
   | exit k =>
    obtain ⟨rfl,h⟩:=h
    exact h2 F S h
section
variable {α:Type} {c:α→AV} {f:Nat} {cap:List AV} {L:List α} {o:Nat} {S:St} {cm:α→α→Int}
theorem Srt.swp {l:List α} {S':St} (h:Srt c S o l S') {i j:Nat} {x y:α}:Srt c S o ((l.set i y).set j x) (S'.set o (.row 1 (((els (cel c) l).set i [c y]).set j [c x]))):=by
 have:=h.put (l':=(l.set i y).set j x)
 rw [← xAg,← xAg] at this
 exact this
theorem xAU {l:List α} {a p:Nat} {y:α} (ha:a < l.length) (hy:l[p]?=some y):((els (cel c) l).set a [c y])[p]?=some [c y]:=by
 by_cases h:a=p
 ·subst h
  rw [yAF (by simpa using ha)]
 ·rw [yAH h]
  simp [els,cel,hy]
structure Par (c:α→AV) (f:Nat) (cap:List AV) (L:List α) (o:Nat) (S:St) (a b k i j:Nat) (p q:Nat) (F:AFrame) (S':St):Prop where
 k:k≤i
 i1:a + 1≤i
 i2:i≤b
 j1:a≤j
 j2:j + 1≤b
 h0:F 0=.sl 1 o 0 L.length
 h1:F 1=.int .i64 a
 h4:F 4=.func (.func f) [] cap
 hi:F p=.int .i64 i
 hj:F q=.int .i64 j
 ex:∃ l',l'.Perm L∧Srt c S o l' S'
theorem xKl {nf:Nat→Nat} (H:SFam nf) (hC:Cmp g c f cap L o S cm) {a b p:Nat} (hab:a < b) (hb:b≤L.length) (hp1:p < L.length) {l:List α} {S1:St} {K:AV→St→Prop} (hl:l.Perm L) (hS:Srt c S o l S1)
  (hk:∀l' S' (m:Nat) (t:Bool),a≤m→m < b→l'.Perm L→Srt c S o l' S'→K (.tuple [.int .i64 (m:Int),.bool t]) S'):Cal P g (nf 4) [.sl 1 o 0 L.length,.int .i64 (a:Int),.int .i64 (b:Int),.int .i64 (p:Int),.func (.func f) [] cap] S1 K:=by
 refine H.c4.in (by simp) ?_
 have hc1:=hC.one
 have hcc:=hC.cells
 have hlen:=hC.len
 have e1:=wrapS a (by omega)
 have e2:IntKind.i64.wrap ((b:Int) - 1)=((b - 1:Nat):Int):=by rw [xAa (by omega)];omega
 have hal:a < L.length:=by omega
 have hpl:=hl.length_eq
 have ho:=hS.2
 obtain ⟨x0,hx0⟩:∃ x,l[a]?=some x:=⟨_,xgG (by omega)⟩
 obtain ⟨y0,hy0⟩:∃ y,l[p]?=some y:=⟨_,xgG (by omega)⟩
 have hs1:=hS.swp (i:=a) (j:=p) (x:=x0) (y:=y0)
 have hp1':=(xAm hx0 hy0).trans hl
 have hg1:=xAU (c:=c) (l:=l) (a:=a) (by omega) hy0
 simp [sk4]
 refine Dra.auto [] mix ?_ ?_
 ·kernel_rfl
 simp [classes,xAd hal,xAd hp1,hx0,hy0,cel,hc1,hcc,ho,e1,e2,hg1,xAk]
 refine W.cutL 0 (fun F S'=>∃ i j,Par c f cap L o S a b 0 i j 12 13 F S') ?_ ?_
 ·refine W.whileI (fun (z:Nat × Nat) F S'=>Par c f cap L o S a b 0 z.1 z.2 12 13 F S') (fun z=>L.length - z.1) ?_ (a + 1,b - 1) _ _ ?_
  ·skip
   rintro ⟨i,j⟩ F S' ⟨k1,i1,i2,j1,j2,h0,h1,h4,hi,hj,l',hp,hs⟩
   simp only at k1 i1 i2 j1 j2 hi hj
   have hpl:=hp.length_eq
   have ho:=hs.2
   have e4:=wrapS i (by omega)
   simp
   refine Dra.auto [13] mix ?_ ?_
   ·kernel_rfl
   by_cases hij:i≤j
   ·have hil:i < L.length:=by omega
    obtain ⟨x,hx⟩:∃ x,l'[i]?=some x:=⟨_,xgG (by omega)⟩
    obtain ⟨y,hy⟩:∃ y,l'[a]?=some y:=⟨_,xgG (by omega)⟩
    have hxm:x ∈ L:=hp.mem_iff.1 (xmG hx)
    have hym:y ∈ L:=hp.mem_iff.1 (xmG hy)
    simp [classes,hi,hj,hij,h0,h1,h4,xAd hil,xAd hal,hx,hy,cel,ho]
    refine ⟨_,_,hC.cal x hxm y hym l' S' hs,?_⟩
    simp
    by_cases hc:cm x y < 0
    ·simp [hc,hi,e4]
     exact ⟨i + 1,by omega,j,⟨by omega,by omega,by omega,by omega,by omega,by simp [h0],by simp [h1],by simp [h4],by simp,by simp [hj],l',hp,hs⟩⟩
    ·simp [hc]
     exact ⟨i,j,⟨by omega,by omega,by omega,by omega,by omega,by simp [h0],by simp [h1],by simp [h4],by simp [hi],by simp [hj],l',hp,hs⟩⟩
   ·simp [classes,hi,hj,hij]
    exact ⟨i,j,⟨by omega,by omega,by omega,by omega,by omega,by simp [h0],by simp [h1],by simp [h4],by simp [hi],by simp [hj],l',hp,hs⟩⟩
  ·exact ⟨by omega,by simp,by simp;omega,by simp;omega,by simp;omega,by simp,by simp,by simp,by simp,by simp,_,hp1',hs1⟩
 ·rintro F S' ⟨i,j,k1,i1,i2,j1,j2,h0,h1,h4,hi,hj,l',hp,hs⟩
  simp
  refine W.cutL 2 (fun F S'=>∃ i j,Par c f cap L o S a b 0 i j 12 13 F S') ?_ ?_
  ·refine W.whileI (fun (z:Nat × Nat) F S'=>Par c f cap L o S a b 0 z.1 z.2 12 13 F S') (fun z=>z.2) ?_ (i,j) _ _ ?_
   ·skip
    rintro ⟨i,j⟩ F S' ⟨k1,i1,i2,j1,j2,h0,h1,h4,hi,hj,l',hp,hs⟩
    simp only at k1 i1 i2 j1 j2 hi hj
    have hpl:=hp.length_eq
    have ho:=hs.2
    have e4:i≤j→IntKind.i64.wrap ((j:Int) - 1)=((j - 1:Nat):Int):=fun h=>by rw [xAa (by omega)];omega
    simp
    refine Dra.auto [13] mix ?_ ?_
    ·kernel_rfl
    by_cases hij:i≤j
    ·have hil:j < L.length:=by omega
     obtain ⟨x,hx⟩:∃ x,l'[j]?=some x:=⟨_,xgG (by omega)⟩
     obtain ⟨y,hy⟩:∃ y,l'[a]?=some y:=⟨_,xgG (by omega)⟩
     have hxm:x ∈ L:=hp.mem_iff.1 (xmG hx)
     have hym:y ∈ L:=hp.mem_iff.1 (xmG hy)
     simp [classes,hi,hj,hij,h0,h1,h4,xAd hil,xAd hal,hx,hy,cel,ho]
     refine ⟨_,_,hC.cal x hxm y hym l' S' hs,?_⟩
     simp
     by_cases hc:cm x y < 0
     ·simp [hc]
      exact ⟨i,j,⟨by omega,by omega,by omega,by omega,by omega,by simp [h0],by simp [h1],by simp [h4],by simp [hi],by simp [hj],l',hp,hs⟩⟩
     ·simp [hc,hj,e4 hij]
      exact ⟨i,j - 1,by omega,⟨by omega,by omega,by omega,by omega,by omega,by simp [h0],by simp [h1],by simp [h4],by simp [hi],by simp,l',hp,hs⟩⟩
    ·simp [classes,hi,hj,hij]
     exact ⟨i,j,⟨by omega,by omega,by omega,by omega,by omega,by simp [h0],by simp [h1],by simp [h4],by simp [hi],by simp [hj],l',hp,hs⟩⟩
   ·exact ⟨by omega,by omega,by omega,by omega,by omega,by simp [h0],by simp [h1],by simp [h4],by simp [hi],by simp [hj],l',hp,hs⟩
  ·clear h0 h1 h4 hi hj hp hs k1 i1 i2 j1 j2
   rintro F S' ⟨i,j,k1,i1,i2,j1,j2,h0,h1,h4,hi,hj,l',hp,hs⟩
   have hpl:=hp.length_eq
   have ho:=hs.2
   have hjl:j < L.length:=by omega
   obtain ⟨xj,hxj⟩:∃ x,l'[j]?=some x:=⟨_,xgG (by omega)⟩
   obtain ⟨xa,hxa⟩:∃ x,l'[a]?=some x:=⟨_,xgG (by omega)⟩
   simp [hi,hj]
   by_cases hij:j < i
   ·have hg2:=xAU (c:=c) (l:=l') (a:=j) (by omega) hxa
    simp [hij]
    refine Dra.auto [] mix ?_ ?_
    ·kernel_rfl
    simp [classes,h0,h1,hj,xAd hjl,xAd hal,hxj,hxa,cel,hc1,hcc,ho,hg2,xAk]
    exact hk _ _ j true (by omega) (by omega) ((xAm hxj hxa).trans hp) hs.swp
   ·skip
    have hil:i < L.length:=by omega
    obtain ⟨xi,hxi⟩:∃ x,l'[i]?=some x:=⟨_,xgG (by omega)⟩
    have hg2:=xAU (c:=c) (l:=l') (a:=i) (by omega) hxj
    have hs2:=hs.swp (i:=i) (j:=j) (x:=xi) (y:=xj)
    have hp2:=(xAm hxi hxj).trans hp
    have e5:=wrapS i (by omega)
    have e6:IntKind.i64.wrap ((j:Int) - 1)=((j - 1:Nat):Int):=by rw [xAa (by omega)];omega
    simp [hij]
    refine Dra.auto [] mix ?_ ?_
    ·kernel_rfl
    simp [classes,h0,hi,hj,xAd hjl,xAd hil,hxj,hxi,cel,hc1,hcc,ho,hg2,xAk,e5,e6]
    refine W.whileI (fun (z:Nat × Nat) F S'=>Par c f cap L o S a b 0 z.1 z.2 12 13 F S') (fun z=>L.length + 1 - z.1) ?_ (i + 1,j - 1) _ _ ?_
    ·clear hs2 hp2 hg2 hxi hxj hxa hpl ho h0 h1 h4 hi hj hp hs hij e5 e6 hil hjl k1 i1 i2 j1 j2
     rintro ⟨k,j0⟩ F S' ⟨k1,i1,i2,j1,j2,h0,h1,h4,hi,hj,l',hp,hs⟩
     simp only at k1 i1 i2 j1 j2 hi hj
     simp
     refine W.cutL 6 (fun F S'=>∃ i j,Par c f cap L o S a b k i j 12 13 F S') ?_ ?_
     ·refine W.whileI (fun (z:Nat × Nat) F S'=>Par c f cap L o S a b k z.1 z.2 12 13 F S') (fun z=>L.length - z.1) ?_ (k,j0) _ _ ?_
      ·clear h0 h1 h4 hi hj hp hs k1 i1 i2 j1 j2
       rintro ⟨i,j⟩ F S' ⟨k1,i1,i2,j1,j2,h0,h1,h4,hi,hj,l',hp,hs⟩
       simp only at k1 i1 i2 j1 j2 hi hj
       have hpl:=hp.length_eq
       have ho:=hs.2
       have e4:=wrapS i (by omega)
       simp
       refine Dra.auto [13] mix ?_ ?_
       ·kernel_rfl
       by_cases hij:i≤j
       ·have hil:i < L.length:=by omega
        obtain ⟨x,hx⟩:∃ x,l'[i]?=some x:=⟨_,xgG (by omega)⟩
        obtain ⟨y,hy⟩:∃ y,l'[a]?=some y:=⟨_,xgG (by omega)⟩
        have hxm:x ∈ L:=hp.mem_iff.1 (xmG hx)
        have hym:y ∈ L:=hp.mem_iff.1 (xmG hy)
        simp [classes,hi,hj,hij,h0,h1,h4,xAd hil,xAd hal,hx,hy,cel,ho]
        refine ⟨_,_,hC.cal x hxm y hym l' S' hs,?_⟩
        simp
        by_cases hc:cm x y < 0
        ·simp [hc,hi,e4]
         exact ⟨i + 1,by omega,j,⟨by omega,by omega,by omega,by omega,by omega,by simp [h0],by simp [h1],by simp [h4],by simp,by simp [hj],l',hp,hs⟩⟩
        ·simp [hc]
         exact ⟨i,j,⟨by omega,by omega,by omega,by omega,by omega,by simp [h0],by simp [h1],by simp [h4],by simp [hi],by simp [hj],l',hp,hs⟩⟩
       ·simp [classes,hi,hj,hij]
        exact ⟨i,j,⟨by omega,by omega,by omega,by omega,by omega,by simp [h0],by simp [h1],by simp [h4],by simp [hi],by simp [hj],l',hp,hs⟩⟩
      ·exact ⟨by omega,by omega,by omega,by omega,by omega,by simp [h0],by simp [h1],by simp [h4],by simp [hi],by simp [hj],l',hp,hs⟩
     ·clear h0 h1 h4 hi hj hp hs k1 i1 i2 j1 j2
      rintro F S' ⟨i,j,k1,i1,i2,j1,j2,h0,h1,h4,hi,hj,l',hp,hs⟩
      simp
      refine W.cutL 8 (fun F S'=>∃ i j,Par c f cap L o S a b k i j 12 13 F S') ?_ ?_
      ·refine W.whileI (fun (z:Nat × Nat) F S'=>Par c f cap L o S a b k z.1 z.2 12 13 F S') (fun z=>z.2) ?_ (i,j) _ _ ?_
       ·clear h0 h1 h4 hi hj hp hs k1 i1 i2 j1 j2
        rintro ⟨i,j⟩ F S' ⟨k1,i1,i2,j1,j2,h0,h1,h4,hi,hj,l',hp,hs⟩
        simp only at k1 i1 i2 j1 j2 hi hj
        have hpl:=hp.length_eq
        have ho:=hs.2
        have e4:i≤j→IntKind.i64.wrap ((j:Int) - 1)=((j - 1:Nat):Int):=fun h=>by rw [xAa (by omega)];omega
        simp
        refine Dra.auto [13] mix ?_ ?_
        ·kernel_rfl
        by_cases hij:i≤j
        ·have hil:j < L.length:=by omega
         obtain ⟨x,hx⟩:∃ x,l'[j]?=some x:=⟨_,xgG (by omega)⟩
         obtain ⟨y,hy⟩:∃ y,l'[a]?=some y:=⟨_,xgG (by omega)⟩
         have hxm:x ∈ L:=hp.mem_iff.1 (xmG hx)
         have hym:y ∈ L:=hp.mem_iff.1 (xmG hy)
         simp [classes,hi,hj,hij,h0,h1,h4,xAd hil,xAd hal,hx,hy,cel,ho]
         refine ⟨_,_,hC.cal x hxm y hym l' S' hs,?_⟩
         simp
         by_cases hc:cm x y < 0
         ·simp [hc]
          exact ⟨i,j,⟨by omega,by omega,by omega,by omega,by omega,by simp [h0],by simp [h1],by simp [h4],by simp [hi],by simp [hj],l',hp,hs⟩⟩
         ·simp [hc,hj,e4 hij]
          exact ⟨i,j - 1,by omega,⟨by omega,by omega,by omega,by omega,by omega,by simp [h0],by simp [h1],by simp [h4],by simp [hi],by simp,l',hp,hs⟩⟩
        ·simp [classes,hi,hj,hij]
         exact ⟨i,j,⟨by omega,by omega,by omega,by omega,by omega,by simp [h0],by simp [h1],by simp [h4],by simp [hi],by simp [hj],l',hp,hs⟩⟩
       ·exact ⟨by omega,by omega,by omega,by omega,by omega,by simp [h0],by simp [h1],by simp [h4],by simp [hi],by simp [hj],l',hp,hs⟩
      ·clear h0 h1 h4 hi hj hp hs k1 i1 i2 j1 j2
       rintro F S' ⟨i,j,k1,i1,i2,j1,j2,h0,h1,h4,hi,hj,l',hp,hs⟩
       have hpl:=hp.length_eq
       have ho:=hs.2
       have hjl:j < L.length:=by omega
       obtain ⟨xj,hxj⟩:∃ x,l'[j]?=some x:=⟨_,xgG (by omega)⟩
       obtain ⟨xa,hxa⟩:∃ x,l'[a]?=some x:=⟨_,xgG (by omega)⟩
       simp [hi,hj]
       by_cases hij:j < i
       ·have hg2:=xAU (c:=c) (l:=l') (a:=j) (by omega) hxa
        simp [hij]
        refine Dra.auto [] mix ?_ ?_
        ·kernel_rfl
        simp [classes,h0,h1,hj,xAd hjl,xAd hal,hxj,hxa,cel,hc1,hcc,ho,hg2,xAk]
        exact hk _ _ j false (by omega) (by omega) ((xAm hxj hxa).trans hp) hs.swp
       ·have hil:i < L.length:=by omega
        obtain ⟨xi,hxi⟩:∃ x,l'[i]?=some x:=⟨_,xgG (by omega)⟩
        have hg2:=xAU (c:=c) (l:=l') (a:=i) (by omega) hxj
        have hs2:=hs.swp (i:=i) (j:=j) (x:=xi) (y:=xj)
        have hp2:=(xAm hxi hxj).trans hp
        have e5:=wrapS i (by omega)
        have e6:IntKind.i64.wrap ((j:Int) - 1)=((j - 1:Nat):Int):=by rw [xAa (by omega)];omega
        simp [hij]
        refine Dra.auto [] mix ?_ ?_
        ·kernel_rfl
        simp [classes,h0,hi,hj,xAd hjl,xAd hil,hxj,hxi,cel,hc1,hcc,ho,hg2,xAk,e5,e6]
        exact ⟨i + 1,by omega,j - 1,⟨by omega,by omega,by omega,by omega,by omega,by simp [h0],by simp [h1],by simp [h4],by simp,by simp,_,hp2,hs2⟩⟩
    ·exact ⟨by omega,by simp;omega,by simp;omega,by simp;omega,by simp;omega,by simp [h0],by simp [h1],by simp [h4],by simp,by simp,_,hp2,hs2⟩
end
section
variable {α:Type} {c:α→AV} {f:Nat} {cap:List AV} {L:List α} {o:Nat} {S:St} {cm:α→α→Int}
theorem xPK {nf:Nat→Nat} (H:SFam nf) (hC:Cmp g c f cap L o S cm) {a b p:Nat} (hab:a < b) (hb:b≤L.length) (hp1:p < L.length) {l:List α} {S1:St} {K:AV→St→Prop} (hl:l.Perm L) (hS:Srt c S o l S1)
  (hk:∀l' S' (m:Nat),a < m→m≤b→l'.Perm L→Srt c S o l' S'→K (.int .i64 (m:Int)) S'):Cal P g (nf 5) [.sl 1 o 0 L.length,.int .i64 (a:Int),.int .i64 (b:Int),.int .i64 (p:Int),.func (.func f) [] cap] S1 K:=by
 refine H.c5.in (by simp) ?_
 have hc1:=hC.one
 have hcc:=hC.cells
 have hlen:=hC.len
 have e1:=wrapS a (by omega)
 have e2:IntKind.i64.wrap ((b:Int) - 1)=((b - 1:Nat):Int):=by rw [xAa (by omega)];omega
 have hal:a < L.length:=by omega
 have hpl:=hl.length_eq
 have ho:=hS.2
 obtain ⟨x0,hx0⟩:∃ x,l[a]?=some x:=⟨_,xgG (by omega)⟩
 obtain ⟨y0,hy0⟩:∃ y,l[p]?=some y:=⟨_,xgG (by omega)⟩
 have hs1:=hS.swp (i:=a) (j:=p) (x:=x0) (y:=y0)
 have hp1':=(xAm hx0 hy0).trans hl
 have hg1:=xAU (c:=c) (l:=l) (a:=a) (by omega) hy0
 simp [sk5]
 refine Dra.auto [] mix ?_ ?_
 ·kernel_rfl
 simp [classes,xAd hal,xAd hp1,hx0,hy0,cel,hc1,hcc,ho,e1,e2,hg1,xAk]
 refine W.whileI (fun (z:Nat × Nat) F S'=>Par c f cap L o S a b 0 z.1 z.2 11 12 F S') (fun z=>L.length + 1 - z.1) ?_ (a + 1,b - 1) _ _ ?_
 ·skip
  rintro ⟨k,j0⟩ F S' ⟨k1,i1,i2,j1,j2,h0,h1,h4,hi,hj,l',hp,hs⟩
  simp only at k1 i1 i2 j1 j2 hi hj
  simp
  refine W.cutL 2 (fun F S'=>∃ i j,Par c f cap L o S a b k i j 11 12 F S') ?_ ?_
  ·refine W.whileI (fun (z:Nat × Nat) F S'=>Par c f cap L o S a b k z.1 z.2 11 12 F S') (fun z=>L.length - z.1) ?_ (k,j0) _ _ ?_
   ·clear h0 h1 h4 hi hj hp hs k1 i1 i2 j1 j2
    rintro ⟨i,j⟩ F S' ⟨k1,i1,i2,j1,j2,h0,h1,h4,hi,hj,l',hp,hs⟩
    simp only at k1 i1 i2 j1 j2 hi hj
    have hpl:=hp.length_eq
    have ho:=hs.2
    have e4:=wrapS i (by omega)
    simp
    refine Dra.auto [13] mix ?_ ?_
    ·kernel_rfl
    by_cases hij:i≤j
    ·have hil:i < L.length:=by omega
     obtain ⟨x,hx⟩:∃ x,l'[i]?=some x:=⟨_,xgG (by omega)⟩
     obtain ⟨y,hy⟩:∃ y,l'[a]?=some y:=⟨_,xgG (by omega)⟩
     have hxm:x ∈ L:=hp.mem_iff.1 (xmG hx)
     have hym:y ∈ L:=hp.mem_iff.1 (xmG hy)
     simp [classes,hi,hj,hij,h0,h1,h4,xAd hil,xAd hal,hx,hy,cel,ho]
     refine ⟨_,_,hC.cal y hym x hxm l' S' hs,?_⟩
     simp
     by_cases hc:¬ cm y x < 0
     ·simp [hc,hi,e4]
      exact ⟨i + 1,by omega,j,⟨by omega,by omega,by omega,by omega,by omega,by simp [h0],by simp [h1],by simp [h4],by simp,by simp [hj],l',hp,hs⟩⟩
     ·have hc:cm y x < 0:=by omega
      simp [hc]
      exact ⟨i,j,⟨by omega,by omega,by omega,by omega,by omega,by simp [h0],by simp [h1],by simp [h4],by simp [hi],by simp [hj],l',hp,hs⟩⟩
    ·simp [classes,hi,hj,hij]
     exact ⟨i,j,⟨by omega,by omega,by omega,by omega,by omega,by simp [h0],by simp [h1],by simp [h4],by simp [hi],by simp [hj],l',hp,hs⟩⟩
   ·exact ⟨by omega,by omega,by omega,by omega,by omega,by simp [h0],by simp [h1],by simp [h4],by simp [hi],by simp [hj],l',hp,hs⟩
  ·clear h0 h1 h4 hi hj hp hs k1 i1 i2 j1 j2
   rintro F S' ⟨i,j,k1,i1,i2,j1,j2,h0,h1,h4,hi,hj,l',hp,hs⟩
   simp
   refine W.cutL 4 (fun F S'=>∃ i j,Par c f cap L o S a b k i j 11 12 F S') ?_ ?_
   ·refine W.whileI (fun (z:Nat × Nat) F S'=>Par c f cap L o S a b k z.1 z.2 11 12 F S') (fun z=>z.2) ?_ (i,j) _ _ ?_
    ·clear h0 h1 h4 hi hj hp hs k1 i1 i2 j1 j2
     rintro ⟨i,j⟩ F S' ⟨k1,i1,i2,j1,j2,h0,h1,h4,hi,hj,l',hp,hs⟩
     simp only at k1 i1 i2 j1 j2 hi hj
     have hpl:=hp.length_eq
     have ho:=hs.2
     have e4:i≤j→IntKind.i64.wrap ((j:Int) - 1)=((j - 1:Nat):Int):=fun h=>by rw [xAa (by omega)];omega
     simp
     refine Dra.auto [13] mix ?_ ?_
     ·kernel_rfl
     by_cases hij:i≤j
     ·have hil:j < L.length:=by omega
      obtain ⟨x,hx⟩:∃ x,l'[j]?=some x:=⟨_,xgG (by omega)⟩
      obtain ⟨y,hy⟩:∃ y,l'[a]?=some y:=⟨_,xgG (by omega)⟩
      have hxm:x ∈ L:=hp.mem_iff.1 (xmG hx)
      have hym:y ∈ L:=hp.mem_iff.1 (xmG hy)
      simp [classes,hi,hj,hij,h0,h1,h4,xAd hil,xAd hal,hx,hy,cel,ho]
      refine ⟨_,_,hC.cal y hym x hxm l' S' hs,?_⟩
      simp
      by_cases hc:¬ cm y x < 0
      ·simp [hc]
       exact ⟨i,j,⟨by omega,by omega,by omega,by omega,by omega,by simp [h0],by simp [h1],by simp [h4],by simp [hi],by simp [hj],l',hp,hs⟩⟩
      ·have hc:cm y x < 0:=by omega
       simp [hc,hj,e4 hij]
       exact ⟨i,j - 1,by omega,⟨by omega,by omega,by omega,by omega,by omega,by simp [h0],by simp [h1],by simp [h4],by simp [hi],by simp,l',hp,hs⟩⟩
     ·simp [classes,hi,hj,hij]
      exact ⟨i,j,⟨by omega,by omega,by omega,by omega,by omega,by simp [h0],by simp [h1],by simp [h4],by simp [hi],by simp [hj],l',hp,hs⟩⟩
    ·exact ⟨by omega,by omega,by omega,by omega,by omega,by simp [h0],by simp [h1],by simp [h4],by simp [hi],by simp [hj],l',hp,hs⟩
   ·clear h0 h1 h4 hi hj hp hs k1 i1 i2 j1 j2
    rintro F S' ⟨i,j,k1,i1,i2,j1,j2,h0,h1,h4,hi,hj,l',hp,hs⟩
    have hpl:=hp.length_eq
    have ho:=hs.2
    have hjl:j < L.length:=by omega
    obtain ⟨xj,hxj⟩:∃ x,l'[j]?=some x:=⟨_,xgG (by omega)⟩
    obtain ⟨xa,hxa⟩:∃ x,l'[a]?=some x:=⟨_,xgG (by omega)⟩
    simp [hi,hj]
    by_cases hij:j < i
    ·simp [hij,hi]
     exact hk l' S' i (by omega) (by omega) hp hs
    ·have hil:i < L.length:=by omega
     obtain ⟨xi,hxi⟩:∃ x,l'[i]?=some x:=⟨_,xgG (by omega)⟩
     have hg2:=xAU (c:=c) (l:=l') (a:=i) (by omega) hxj
     have hs2:=hs.swp (i:=i) (j:=j) (x:=xi) (y:=xj)
     have hp2:=(xAm hxi hxj).trans hp
     have e5:=wrapS i (by omega)
     have e6:IntKind.i64.wrap ((j:Int) - 1)=((j - 1:Nat):Int):=by rw [xAa (by omega)];omega
     simp [hij]
     refine Dra.auto [] mix ?_ ?_
     ·kernel_rfl
     simp [classes,h0,hi,hj,xAd hjl,xAd hil,hxj,hxi,cel,hc1,hcc,ho,hg2,xAk,e5,e6]
     exact ⟨i + 1,by omega,j - 1,⟨by omega,by omega,by omega,by omega,by omega,by simp [h0],by simp [h1],by simp [h4],by simp,by simp,_,hp2,hs2⟩⟩
 ·exact ⟨by omega,by simp,by simp;omega,by simp;omega,by simp;omega,by simp,by simp,by simp,by simp,by simp,_,hp1',hs1⟩
end
end Go.Proofs.YtnhfofmhkfdpgaaGreatDoor.Vm
namespace Go.Proofs.YtnhfofmhkfdpgaaGreatDoor.Vm
open Go Go.RowKit
set_option maxRecDepth 100000
set_option maxHeartbeats 4000000
variable {N:Nat} {g:Glob}
section
variable {α:Type} {c:α→AV} {f:Nat} {cap:List AV} {L:List α} {o:Nat} {S:St} {cm:α→α→Int}
theorem xQw {nf:Nat→Nat} (H:SFam nf) (hC:Cmp g c f cap L o S cm) {lo hi first:Nat} (hb:first + hi≤L.length) (hlo:lo < 2 ^ 41) {l:List α} {S1:St} {K:AV→St→Prop} (hl:l.Perm L) (hS:Srt c S o l S1)
  (hk:∀l' S',l'.Perm L→Srt c S o l' S'→K (.tuple []) S'):Cal P g (nf 6) [.sl 1 o 0 L.length,.int .i64 (lo:Int),.int .i64 (hi:Int),.int .i64 (first:Int),.func (.func f) [] cap] S1 K:=by
 refine H.c6.in (by simp) ?_
 have hc1:=hC.one
 have hcc:=hC.cells
 have hlen:=hC.len
 simp [sk6]
 refine W.whileI (fun (r:Nat) F S'=>r < 2 ^ 41∧F 0=.sl 1 o 0 L.length∧F 2=.int .i64 hi∧F 3=.int .i64 first∧F 4=.func (.func f) [] cap∧F 10=.int .i64 r∧∃ l':List α,l'.Perm L∧Srt c S o l' S') (fun r=>hi - r) ?_ lo _ _ ?_
 ·rintro r F S' ⟨hr,h0,h2,h3,h4,h10,l',hp,hs⟩
  have hpl:=hp.length_eq
  have ho:=hs.2
  obtain ⟨ch,hch⟩:∃ ch:Nat,ch=2 * r + 1:=⟨_,rfl⟩
  have e1:IntKind.i64.wrap (IntKind.i64.wrap (2 * (r:Int)) + 1)=(ch:Int):=by
   have e0:IntKind.i64.wrap (2 * (r:Int))=2 * (r:Int):=xAa (by omega)
   rw [e0,xAa (by omega)];omega
  simp [h10,h2,e1]
  by_cases hge:hi≤ch
  ·simp [hge]
   exact hk l' S' hp hs
  ·have e3:=wrapS ch (by omega)
   obtain ⟨u,hu⟩:∃ u:Nat,u=first + ch:=⟨_,rfl⟩
   obtain ⟨w,hw⟩:∃ w:Nat,w=u + 1:=⟨_,rfl⟩
   obtain ⟨z,hz⟩:∃ z:Nat,z=first + r:=⟨_,rfl⟩
   have e4:IntKind.i64.wrap ((first:Int) + (ch:Int))=(u:Int):=by rw [xAa (by omega)];omega
   have e5:IntKind.i64.wrap ((u:Int) + 1)=(w:Int):=by rw [xAa (by omega)];omega
   have e6:IntKind.i64.wrap ((first:Int) + (r:Int))=(z:Int):=by rw [xAa (by omega)];omega
   have e7:IntKind.i64.wrap ((first:Int) + ((ch:Int) + 1))=(w:Int):=by rw [xAa (by omega)];omega
   have hul:u < L.length:=by omega
   have hzl:z < L.length:=by omega
   obtain ⟨xu,hxu⟩:∃ x,l'[u]?=some x:=⟨_,xgG (by omega)⟩
   obtain ⟨xz,hxz⟩:∃ x,l'[z]?=some x:=⟨_,xgG (by omega)⟩
   have hum:xu ∈ L:=hp.mem_iff.1 (xmG hxu)
   have hzm:xz ∈ L:=hp.mem_iff.1 (xmG hxz)
   simp [hge]
   refine Dra.auto [19] mix ?_ ?_
   ·kernel_rfl
   by_cases h1:ch + 1 < hi
   ·have hwl:w < L.length:=by omega
    have h1':(ch:Int) + 1 < (hi:Int):=by omega
    obtain ⟨xw,hxw⟩:∃ x,l'[w]?=some x:=⟨_,xgG (by omega)⟩
    have hwm:xw ∈ L:=hp.mem_iff.1 (xmG hxw)
    simp (config:={ maxSteps:=2000000 }) [classes,h0,h2,h3,h4,e3,h1',e4,e5,xAd hul,xAd hwl,hxu,hxw,cel,ho]
    refine ⟨_,_,hC.cal xu hum xw hwm l' S' hs,?_⟩
    simp
    by_cases hc:cm xu xw < 0
    ·simp [hc,e3]
     refine Dra.auto [13] mix ?_ ?_
     ·kernel_rfl
     simp [classes,h0,h3,h4,h10,e4,e6,e7,xAd hzl,xAd hwl,hxz,hxw,cel,ho]
     refine ⟨_,_,hC.cal xz hzm xw hwm l' S' hs,?_⟩
     simp
     by_cases hd:cm xz xw < 0
     ·have hne:¬ z=w:=by omega
      have hg1:=xAU (c:=c) (l:=l') (a:=z) (by omega) hxw
      simp [hd]
      refine Dra.auto [] mix ?_ ?_
      ·kernel_rfl
      simp [classes,h0,h3,h4,h10,e4,e6,e7,xAd hzl,xAd hwl,hxz,hxw,cel,ho,hc1,hcc,hg1,xAk,h2]
      exact ⟨ch + 1,by omega,by omega,by first | omega | rfl,_,(xAm hxz hxw).trans hp,hs.swp⟩
     ·simp [hd]
      exact hk l' S' hp hs
    ·simp [hc]
     refine Dra.auto [13] mix ?_ ?_
     ·kernel_rfl
     simp [classes,h0,h3,h4,h10,e4,e6,e7,xAd hzl,xAd hul,hxz,hxu,cel,ho]
     refine ⟨_,_,hC.cal xz hzm xu hum l' S' hs,?_⟩
     simp
     by_cases hd:cm xz xu < 0
     ·have hne:¬ z=u:=by omega
      have hg1:=xAU (c:=c) (l:=l') (a:=z) (by omega) hxu
      simp [hd]
      refine Dra.auto [] mix ?_ ?_
      ·kernel_rfl
      simp [classes,h0,h3,h4,h10,e4,e6,e7,xAd hzl,xAd hul,hxz,hxu,cel,ho,hc1,hcc,hg1,xAk,h2]
      exact ⟨ch,by omega,by omega,by first | omega | rfl,_,(xAm hxz hxu).trans hp,hs.swp⟩
     ·simp [hd]
      exact hk l' S' hp hs
   ·have h1':¬ (ch:Int) + 1 < (hi:Int):=by omega
    simp [classes,h0,h2,h3,h4,e3,h1',e4,e5]
    refine Dra.auto [13] mix ?_ ?_
    ·kernel_rfl
    simp [classes,h0,h3,h4,h10,e4,e6,e7,xAd hzl,xAd hul,hxz,hxu,cel,ho]
    refine ⟨_,_,hC.cal xz hzm xu hum l' S' hs,?_⟩
    simp
    by_cases hd:cm xz xu < 0
    ·have hne:¬ z=u:=by omega
     have hg1:=xAU (c:=c) (l:=l') (a:=z) (by omega) hxu
     simp [hd]
     refine Dra.auto [] mix ?_ ?_
     ·kernel_rfl
     simp [classes,h0,h3,h4,h10,e4,e6,e7,xAd hzl,xAd hul,hxz,hxu,cel,ho,hc1,hcc,hg1,xAk,h2]
     exact ⟨ch,by omega,by omega,by first | omega | rfl,_,(xAm hxz hxu).trans hp,hs.swp⟩
    ·simp [hd]
     exact hk l' S' hp hs
 ·simp
  exact ⟨hlo,l,hl,hS⟩
end
end Go.Proofs.YtnhfofmhkfdpgaaGreatDoor.Vm
namespace Go.Proofs.YtnhfofmhkfdpgaaGreatDoor.Vm
open Go Go.RowKit
set_option maxRecDepth 100000
variable {N:Nat} {g:Glob}
section
variable {α:Type} {c:α→AV} {f:Nat} {cap:List AV} {L:List α} {o:Nat} {S:St} {cm:α→α→Int}
theorem xUd {nf:Nat→Nat} (H:SFam nf) (hC:Cmp g c f cap L o S cm) {a b:Nat} (hab:a < b) (hb:b≤L.length) {l:List α} {S1:St} {K:AV→St→Prop} (hl:l.Perm L) (hS:Srt c S o l S1)
  (hk:∀l' S',l'.Perm L→Srt c S o l' S'→K (.tuple []) S'):Cal P g (nf 7) [.sl 1 o 0 L.length,.int .i64 (a:Int),.int .i64 (b:Int),.func (.func f) [] cap] S1 K:=by
 refine H.c7.in (by simp) ?_
 have hc1:=hC.one
 have hcc:=hC.cells
 have hlen:=hC.len
 obtain ⟨hi,hhi⟩:∃ hi:Nat,hi=b - a:=⟨_,rfl⟩
 have e1:IntKind.i64.wrap ((b:Int) - (a:Int))=(hi:Int):=by rw [xAa (by omega)];omega
 have e2:IntKind.i64.wrap ((hi:Int) - 1)=((hi - 1:Nat):Int):=by rw [xAa (by omega)];omega
 obtain ⟨m,hm⟩:∃ m:Nat,m=(hi - 1) / 2:=⟨_,rfl⟩
 have e3:IntKind.i64.wrap (((hi - 1:Nat):Int).tdiv 2)=(m:Int):=by
  have:((hi - 1:Nat):Int).tdiv 2=(m:Int):=by rw [hm];rfl
  rw [this,xAa (by omega)]
 have e3':IntKind.i64.wrap (((hi - 1:Nat):Int) / 2)=(m:Int):=by
  have:((hi - 1:Nat):Int) / 2=(m:Int):=by rw [hm];rfl
  rw [this,xAa (by omega)]
 simp [sk7,e1,e2,e3,e3']
 refine W.whileI (fun (i:Int) F S'=>-1≤i∧i < hi∧F 0=.sl 1 o 0 L.length∧F 3=.func (.func f) [] cap∧F 8=.int .i64 a∧F 9=.int .i64 0∧F 10=.int .i64 hi∧F 11=.int .i64 i∧∃ l':List α,l'.Perm L∧Srt c S o l' S') (fun i=>(i + 1).toNat) ?_ (m:Int) _ _ ?_
 ·rintro i F S' ⟨hi1,hi2,h0,h3,h8,h9,h10,h11,l',hp,hs⟩
  simp [h11]
  by_cases hge:0≤i
  ·obtain ⟨n,rfl⟩:∃ n:Nat,i=(n:Int):=⟨i.toNat,by omega⟩
   have e4:IntKind.i64.wrap ((n:Int) - 1)=(n:Int) - 1:=xAa (by omega)
   simp [h0,h3,h8,h10,h11]
   refine xQw H hC (lo:=n) (hi:=hi) (first:=a) (by omega) (by omega) hp hs fun l2 S2 hp2 hs2=>?_
   simp [h0,h3,h8,h9,h10,h11,e4]
   exact ⟨(n:Int) - 1,by omega,by omega,by omega,rfl,l2,hp2,hs2⟩
  ·simp [hge,h10,e2]
   refine W.whileI (fun (i:Int) F S'=>-1≤i∧i < hi∧F 0=.sl 1 o 0 L.length∧F 3=.func (.func f) [] cap∧F 8=.int .i64 a∧F 9=.int .i64 0∧F 12=.int .i64 i∧∃ l':List α,l'.Perm L∧Srt c S o l' S') (fun i=>(i + 1).toNat) ?_ ((hi - 1:Nat):Int) _ _ ?_
   ·clear h0 h3 h8 h9 h10 h11 hp hs l' hge hi1 hi2
    rintro i F S' ⟨hi1,hi2,h0,h3,h8,h9,h12,l',hp,hs⟩
    have hpl:=hp.length_eq
    have ho:=hs.2
    simp [h12]
    by_cases hge:0≤i
    ·obtain ⟨n,rfl⟩:∃ n:Nat,i=(n:Int):=⟨i.toNat,by omega⟩
     have e4:IntKind.i64.wrap ((n:Int) - 1)=(n:Int) - 1:=xAa (by omega)
     obtain ⟨u,hu⟩:∃ u:Nat,u=a + n:=⟨_,rfl⟩
     have e5:IntKind.i64.wrap ((a:Int) + (n:Int))=(u:Int):=by rw [xAa (by omega)];omega
     have hul:u < L.length:=by omega
     have hal:a < L.length:=by omega
     obtain ⟨xu,hxu⟩:∃ x,l'[u]?=some x:=⟨_,xgG (by omega)⟩
     obtain ⟨xa,hxa⟩:∃ x,l'[a]?=some x:=⟨_,xgG (by omega)⟩
     have hg1:=xAU (c:=c) (l:=l') (a:=a) (by omega) hxu
     simp
     refine Dra.auto [] mix ?_ ?_
     ·kernel_rfl
     simp [classes,h0,h8,h12,e5,xAd hul,xAd hal,hxu,hxa,cel,ho,hc1,hcc,hg1,xAk,h9,h3]
     refine xQw H hC (lo:=0) (hi:=n) (first:=a) (by omega) (by omega) ((xAm hxa hxu).trans hp) hs.swp fun l2 S2 hp2 hs2=>?_
     simp [h0,h3,h8,h9,h12,e4]
     exact ⟨(n:Int) - 1,by omega,by omega,by omega,rfl,l2,hp2,hs2⟩
    ·simp [hge]
     exact hk l' S' hp hs
   ·simp [h0,h3,h8,h9]
    exact ⟨by omega,l',hp,hs⟩
 ·simp
  exact ⟨by omega,l,hl,hS⟩
end
theorem xN3 (a b:Int) (h:0≤b):∃ z:Int,ishift .shl .u64 a b=some (.int .u64 z):=⟨_,by unfold ishift;rw [if_neg (by omega)]⟩
theorem xRz (a b:Int) (h:0≤b):∃ z:Int,ishift .shr .u64 a b=some (.int .u64 z):=⟨_,by unfold ishift;rw [if_neg (by omega)]⟩
theorem xKm (a b:Int):∃ m:Nat,m < 2 ^ 64∧ixor .u64 a b=(m:Int):=by
 have h:=(BitVec.ofInt 64 a ^^^ BitVec.ofInt 64 b).isLt
 refine ⟨(BitVec.ofInt 64 a ^^^ BitVec.ofInt 64 b).toNat,h,?_⟩
 show IntKind.u64.wrap ((BitVec.ofInt 64 a ^^^ BitVec.ofInt 64 b).toNat:Int)=_
 exact xCd ⟨by omega,by omega⟩
theorem xPL {q n:Nat} {S:St} {K:AV→St→Prop} (hq:S.obj q=some (.row 1 [[.int .u64 (n:Int)]])) (hk:∀m:Nat,m < 2 ^ 64→K (.int .u64 (m:Int)) (S.set q (.row 1 [[.int .u64 (m:Int)]]))):Cal P g 239 [.ptr q 0 0] S K:=by
 refine c239.in (by simp) ?_
 obtain ⟨z1,hz1⟩:=xN3 n 13 (by omega)
 obtain ⟨m1,hm1,hx1⟩:=xKm n z1
 obtain ⟨z2,hz2⟩:=xRz m1 7 (by omega)
 obtain ⟨m2,hm2,hx2⟩:=xKm m1 z2
 obtain ⟨z3,hz3⟩:=xN3 m2 17 (by omega)
 obtain ⟨m3,hm3,hx3⟩:=xKm m2 z3
 simp [k239]
 refine Dra.auto [] mix ?_ ?_
 ·kernel_rfl
 simp [classes,hq,hz1,hx1]
 refine Dra.auto [] mix ?_ ?_
 ·kernel_rfl
 simp [classes,hq,hz2,hx2]
 refine Dra.auto [] mix ?_ ?_
 ·kernel_rfl
 simp [classes,hq,hz3,hx3,xAk]
 exact hk m3 hm3
theorem xEG:∀n:Nat,n ≠ 0→n < 2 ^ 64→2 ^ Lib.bitLen n≤2 * n
 | 0,h,_=>absurd rfl h
 | n + 1,_,hn=>by
  rw [Lib.bitLen_half (n + 1) (by omega) hn]
  by_cases h1:(n + 1) / 2=0
  ·rw [h1]
   have:Lib.bitLen 0=0:=rfl
   rw [this]
   omega
  ·have:=xEG ((n + 1) / 2) h1 (by omega)
   rw [Nat.pow_add]
   omega
theorem xN4 {n:Nat} (h0:n ≠ 0) (h:n < 2 ^ 40):Lib.bitLen n < 42:=by
 have h1:=xEG n h0 (by omega)
 apply Classical.byContradiction
 intro hno
 have:2 ^ 42≤2 ^ Lib.bitLen n:=yBS (by omega) (by omega)
 omega
theorem xRA {k:Nat} (h:k < 64):ishift .shl .u64 1 (k:Int)=some (.int .u64 ((2 ^ k:Nat):Int)):=by
 unfold ishift
 rw [if_neg (by omega)]
 have e:min ((k:Int).toNat) IntKind.u64.bits=k:=by
  have:IntKind.u64.bits=64:=rfl
  rw [this];omega
 simp only [e]
 have h2:2 ^ k < 2 ^ 64:=Nat.pow_lt_pow_right (by omega) h
 have e2:(1:Int) * 2 ^ k=((2 ^ k:Nat):Int):=by simp
 rw [e2]
 generalize 2 ^ k=w at h2 ⊢
 rw [xCd ⟨by omega,by omega⟩]
theorem xPM {n w:Nat} (h0:n ≠ 0) (h:n < 2 ^ 40) (hw:2 ^ Lib.bitLen n=w):Ret P g false 238 [.int .i64 (n:Int)] (.int .u64 (w:Int)):=by
 refine Ret.in c238 (by simp) ?_
 simp [k238]
 have ew:IntKind.u64.wrap (n:Int)=n:=xCd (by omega)
 have hb:=xN4 h0 h
 have hs:=xRA (k:=Lib.bitLen n) (by omega)
 rw [hw] at hs
 rw [ew]
 refine (bits_Len n (by omega)).use (n:=9) (by simp [mapOpt]) rfl ?_
 simp [hs]
 exact RK.eq rfl rfl
section
variable {α:Type} {c:α→AV} {f:Nat} {cap:List AV} {L:List α} {o:Nat} {S:St} {cm:α→α→Int}
theorem xRB {nf:Nat→Nat} (H:SFam nf) (hC:Cmp g c f cap L o S cm) {a b:Nat} (hab:a + 8≤b) (hb:b≤L.length) {l:List α} {S1:St} {K:AV→St→Prop} (hl:l.Perm L) (hS:Srt c S o l S1)
  (hk:∀l' S',l'.Perm L→Srt c S o l' S'→K (.tuple []) S'):Cal P g (nf 8) [.sl 1 o 0 L.length,.int .i64 (a:Int),.int .i64 (b:Int),.func (.func f) [] cap] S1 K:=by
 refine H.c8.in (by simp) ?_
 have hc1:=hC.one
 have hcc:=hC.cells
 have hlen:=hC.len
 obtain ⟨n,hn⟩:∃ n:Nat,n=b - a:=⟨_,rfl⟩
 obtain ⟨w,hw⟩:∃ w:Nat,2 ^ Lib.bitLen n=w:=⟨_,rfl⟩
 have hw2:w≤2 * n:=by rw [← hw];exact xEG n (by omega) (by omega)
 have hw0:0 < w:=by rw [← hw];exact Nat.pow_pos (by omega)
 have e1:IntKind.i64.wrap ((b:Int) - (a:Int))=(n:Int):=by rw [xAa (by omega)];omega
 have e2:IntKind.u64.wrap (n:Int)=n:=xCd (by omega)
 obtain ⟨d,hd⟩:∃ d:Nat,d=n / 4:=⟨_,rfl⟩
 have e3:IntKind.i64.wrap ((n:Int).tdiv 4)=(d:Int):=by
  have:(n:Int).tdiv 4=(d:Int):=by rw [hd];rfl
  rw [this,xAa (by omega)]
 have e3':IntKind.i64.wrap ((n:Int) / 4)=(d:Int):=by
  have:(n:Int) / 4=(d:Int):=by rw [hd];rfl
  rw [this,xAa (by omega)]
 obtain ⟨d2,hd2⟩:∃ d2:Nat,d2=d * 2:=⟨_,rfl⟩
 have e4:IntKind.i64.wrap ((d:Int) * 2)=(d2:Int):=by rw [xAa (by omega)];omega
 obtain ⟨u,hu⟩:∃ u:Nat,u=a + d2:=⟨_,rfl⟩
 have e5:IntKind.i64.wrap ((a:Int) + (d2:Int))=(u:Int):=by rw [xAa (by omega)];omega
 have e6:IntKind.i64.wrap ((u:Int) - 1)=((u - 1:Nat):Int):=by rw [xAa (by omega)];omega
 have e7:=wrapS u (by omega)
 simp [sk8,e1,show (8:Int)≤(n:Int) by omega,e2]
 refine (xPM (n:=n) (by omega) (by omega) hw).use (n:=9) (by simp [mapOpt]) rfl ?_
 simp [e3,e3',e4,e5,e6]
 have hn1:=hS.1.1
 have hq:=hS.new hC (.row 1 [[.int .u64 0]])
 have hq2:=hq.set (q:=S1.next) hn1 hC (.row 1 [[.int .u64 (n:Int)]])
 refine W.whileI (fun (i:Nat) F S'=>u - 1≤i∧i≤u + 2∧F 0=.sl 1 o 0 L.length∧F 1=.int .i64 a∧F 8=.int .i64 n∧F 9=.ptr S1.next 0 0∧F 10=.int .u64 w∧F 11=.int .i64 i∧(∃ m:Nat,S'.obj S1.next=some (.row 1 [[.int .u64 (m:Int)]]))∧∃ l':List α,l'.Perm L∧Srt c S o l' S') (fun i=>u + 2 - i) ?_ (u - 1) _ _ ?_
 ·rintro i F S' ⟨hi1,hi2,h0,h1,h8,h9,h10,h11,⟨m,hm⟩,l',hp,hs⟩
  have hpl:=hp.length_eq
  simp [h1,h8,h11,e3,e3',e4,e5,e7]
  by_cases hle:i≤u + 1
  ·have e8:=wrapS i (by omega)
   have e9:IntKind.u64.wrap ((w:Int) - 1)=((w - 1:Nat):Int):=by rw [xCd (by omega)];omega
   simp [hle,show (i:Int)≤(u:Int) + 1 by omega,h9]
   refine xPL hm fun m' hm'=>?_
   have hs2:=hs.set (q:=S1.next) hn1 hC (.row 1 [[.int .u64 (m':Int)]])
   obtain ⟨v,hv⟩:∃ v:Nat,v=m' &&& (w - 1):=⟨_,rfl⟩
   have hvw:v≤w - 1:=by rw [hv];exact Nat.and_le_right
   have e10:iand .u64 (m':Int) ((w - 1:Nat):Int)=(v:Int):=by rw [u64and m' (w - 1) hm' (by omega),hv]
   have e11:IntKind.i64.wrap (v:Int)=(v:Int):=xAa (by omega)
   simp [h8,h10,e9,e10,e11]
   have hno:¬ S1.next=o:=by have:=hC.lt;omega
   have hon:¬ o=S1.next:=by have:=hC.lt;omega
   have ho:=hs.2
   have hil:i < L.length:=by omega
   obtain ⟨xi,hxi⟩:∃ x,l'[i]?=some x:=⟨_,xgG (by omega)⟩
   by_cases hge:n≤v
   ·have e12:IntKind.i64.wrap ((v:Int) - (n:Int))=((v - n:Nat):Int):=by rw [xAa (by omega)];omega
    obtain ⟨z,hz⟩:∃ z:Nat,z=a + (v - n):=⟨_,rfl⟩
    have e13:IntKind.i64.wrap ((a:Int) + ((v - n:Nat):Int))=(z:Int):=by rw [xAa (by omega)];omega
    have hzl:z < L.length:=by omega
    obtain ⟨xz,hxz⟩:∃ x,l'[z]?=some x:=⟨_,xgG (by omega)⟩
    have hg1:=xAU (c:=c) (l:=l') (a:=i) (by omega) hxz
    simp [hge,e12,h8]
    refine Dra.auto [] mix ?_ ?_
    ·kernel_rfl
    simp [classes,h0,h1,h11,e13,xAd hil,xAd hzl,hxi,hxz,cel,ho,hon,hc1,hcc,hg1,xAk,h8,h9,h10,e8,hno]
    exact ⟨i + 1,by omega,by omega,by omega,by omega,⟨m',rfl⟩,_,(xAm hxi hxz).trans hp,hs2.swp⟩
   ·obtain ⟨z,hz⟩:∃ z:Nat,z=a + v:=⟨_,rfl⟩
    have e13:IntKind.i64.wrap ((a:Int) + (v:Int))=(z:Int):=by rw [xAa (by omega)];omega
    have hzl:z < L.length:=by omega
    obtain ⟨xz,hxz⟩:∃ x,l'[z]?=some x:=⟨_,xgG (by omega)⟩
    have hg1:=xAU (c:=c) (l:=l') (a:=i) (by omega) hxz
    simp [hge]
    refine Dra.auto [] mix ?_ ?_
    ·kernel_rfl
    simp [classes,h0,h1,h11,e13,xAd hil,xAd hzl,hxi,hxz,cel,ho,hon,hc1,hcc,hg1,xAk,h8,h9,h10,e8,hno]
    exact ⟨i + 1,by omega,by omega,by omega,by omega,⟨m',rfl⟩,_,(xAm hxi hxz).trans hp,hs2.swp⟩
  ·simp [hle,show ¬ (i:Int)≤(u:Int) + 1 by omega]
   exact hk l' S' hp hs
 ·simp
  exact ⟨by omega,⟨n,rfl⟩,l,hl,hq2⟩
end
end Go.Proofs.YtnhfofmhkfdpgaaGreatDoor.Vm
namespace Go.Proofs.YtnhfofmhkfdpgaaGreatDoor.Vm
open Go Go.RowKit
set_option maxRecDepth 100000
set_option maxHeartbeats 4000000
variable {N:Nat} {g:Glob}
section
variable {α:Type} {c:α→AV} {f:Nat} {cap:List AV} {L:List α} {o:Nat} {S:St} {cm:α→α→Int}
theorem xRC {nf:Nat→Nat} (H:SFam nf) (hC:Cmp g c f cap L o S cm) {a b:Nat} (hab:a + 8≤b) (hb:b≤L.length) {l:List α} {S1:St} {K:AV→St→Prop} (hl:l.Perm L) (hS:Srt c S o l S1)
  (hk:∀(S':St) (m:Nat) (h:Int),a≤m→m < b→Srt c S o l S'→K (.tuple [.int .i64 (m:Int),.int .i64 h]) S'):Cal P g (nf 9) [.sl 1 o 0 L.length,.int .i64 (a:Int),.int .i64 (b:Int),.func (.func f) [] cap] S1 K:=by
 refine H.c9.in (by simp) ?_
 have hlen:=hC.len
 obtain ⟨n,hn⟩:∃ n:Nat,n=b - a:=⟨_,rfl⟩
 have e1:IntKind.i64.wrap ((b:Int) - (a:Int))=(n:Int):=by rw [xAa (by omega)];omega
 obtain ⟨d,hd⟩:∃ d:Nat,d=n / 4:=⟨_,rfl⟩
 have e3:IntKind.i64.wrap ((n:Int).tdiv 4)=(d:Int):=by
  have:(n:Int).tdiv 4=(d:Int):=by rw [hd];rfl
  rw [this,xAa (by omega)]
 have e3':IntKind.i64.wrap ((n:Int) / 4)=(d:Int):=by
  have:(n:Int) / 4=(d:Int):=by rw [hd];rfl
  rw [this,xAa (by omega)]
 obtain ⟨d2,hd2⟩:∃ d2:Nat,d2=d * 2:=⟨_,rfl⟩
 obtain ⟨d3,hd3⟩:∃ d3:Nat,d3=d * 3:=⟨_,rfl⟩
 have w1:IntKind.i64.wrap (d:Int)=(d:Int):=xAa (by omega)
 have w2:IntKind.i64.wrap ((d:Int) * 2)=(d2:Int):=by rw [xAa (by omega)];omega
 have w3:IntKind.i64.wrap ((d:Int) * 3)=(d3:Int):=by rw [xAa (by omega)];omega
 obtain ⟨i,hi⟩:∃ i:Nat,i=a + d:=⟨_,rfl⟩
 obtain ⟨j,hj⟩:∃ j:Nat,j=a + d2:=⟨_,rfl⟩
 obtain ⟨k,hk3⟩:∃ k:Nat,k=a + d3:=⟨_,rfl⟩
 have v1:IntKind.i64.wrap ((a:Int) + (d:Int))=(i:Int):=by rw [xAa (by omega)];omega
 have v2:IntKind.i64.wrap ((a:Int) + (d2:Int))=(j:Int):=by rw [xAa (by omega)];omega
 have v3:IntKind.i64.wrap ((a:Int) + (d3:Int))=(k:Int):=by rw [xAa (by omega)];omega
 have hI:a + 1≤i∧i + 2≤b:=by omega
 have hJ:a + 1≤j∧j + 2≤b:=by omega
 have hK:a + 1≤k∧k + 2≤b:=by omega
 have h8:(8:Int)≤(n:Int):=by omega
 clear hi hj hk3 hd2 hd3 hd hn
 have hn1:=hS.1.1
 have hq:=hS.new hC (.row 1 [[.int .i64 0]])
 have hqo:(S1.new (.row 1 [[.int .i64 0]])).obj S1.next=some (.row 1 [[.int .i64 0]]):=by simp
 simp [sk9,e1,e3,e3',w1,w2,w3,v1,v2,v3]
 by_cases h50:(50:Int)≤(n:Int)
 ·simp [h8,h50]
  refine xEF H hC (a:=i) (q:=S1.next) (by omega) (by omega) hl hq hn1 hqo fun S2 i2 n2 hi1 hi2 hs2 ho2 _=>?_
  simp
  refine xEF H hC (a:=j) (q:=S1.next) (by omega) (by omega) hl hs2 hn1 ho2 fun S3 j2 n3 hj1 hj2 hs3 ho3 _=>?_
  simp
  refine xEF H hC (a:=k) (q:=S1.next) (by omega) (by omega) hl hs3 hn1 ho3 fun S4 k2 n4 hk1 hk2 hs4 ho4 _=>?_
  simp
  refine xHZ H hC (a:=i2) (b:=j2) (d:=k2) (q:=S1.next) (by omega) (by omega) (by omega) hl hs4 hn1 ho4 fun S5 m n5 hm hmm hs5 ho5 _=>?_
  simp [ho5]
  by_cases z0:n5=0
  ·simp [z0]
   exact hk S5 m 1 (by omega) (by omega) hs5
  ·by_cases z1:n5=12
   ·simp [z0,z1]
    exact hk S5 m 2 (by omega) (by omega) hs5
   ·simp [z0,z1]
    exact hk S5 m 0 (by omega) (by omega) hs5
 ·simp [h8,h50]
  refine xHZ H hC (a:=i) (b:=j) (d:=k) (q:=S1.next) (by omega) (by omega) (by omega) hl hq hn1 hqo fun S5 m n5 hm hmm hs5 ho5 _=>?_
  simp [ho5]
  by_cases z0:n5=0
  ·simp [z0]
   exact hk S5 m 1 (by omega) (by omega) hs5
  ·by_cases z1:n5=12
   ·simp [z0,z1]
    exact hk S5 m 2 (by omega) (by omega) hs5
   ·simp [z0,z1]
    exact hk S5 m 0 (by omega) (by omega) hs5
end
section
variable {α:Type} {c:α→AV} {f:Nat} {cap:List AV} {L:List α} {o:Nat} {S:St} {cm:α→α→Int}
structure PI (c:α→AV) (f:Nat) (cap:List AV) (L:List α) (o:Nat) (S:St) (a b i n:Nat) (F:AFrame) (S':St):Prop where
 i1:a + 1≤i
 i2:i≤b
 h0:F 0=.sl 1 o 0 L.length
 h1:F 1=.int .i64 a
 h2:F 2=.int .i64 b
 h3:F 3=.func (.func f) [] cap
 h9:F 9=.int .i64 i
 h10:F 10=.int .i64 n
 ex:∃ l':List α,l'.Perm L∧Srt c S o l' S'
theorem xN5 {nf:Nat→Nat} (H:SFam nf) (hC:Cmp g c f cap L o S cm) {a b:Nat} (hab:a < b) (hb:b≤L.length) {l:List α} {S1:St} {K:AV→St→Prop} (hl:l.Perm L) (hS:Srt c S o l S1)
  (hk:∀l' S' t,l'.Perm L→Srt c S o l' S'→K (.bool t) S'):Cal P g (nf 11) [.sl 1 o 0 L.length,.int .i64 (a:Int),.int .i64 (b:Int),.func (.func f) [] cap] S1 K:=by
 refine H.c11.in (by simp) ?_
 have hc1:=hC.one
 have hcc:=hC.cells
 have hlen:=hC.len
 have e1:=wrapS a (by omega)
 have e2:IntKind.i64.wrap ((b:Int) - (a:Int))=((b - a:Nat):Int):=by rw [xAa (by omega)];omega
 simp [sk11,e1]
 refine W.whileI (fun (n:Nat) F S'=>n≤5∧∃ i,PI c f cap L o S a b i n F S') (fun n=>5 - n) ?_ 0 _ _ ?_
 ·rintro n F S' ⟨hn,i,i1,i2,h0,h1,h2,h3,h9,h10,l',hp,hs⟩
  have e8:=wrapS n (by omega)
  simp [h10]
  by_cases hlt:(n:Int) < 5
  ·simp [hlt]
   refine W.cutL 2 (fun F S'=>∃ i,PI c f cap L o S a b i n F S') ?_ ?_
   ·refine W.whileI (fun (i:Nat) F S'=>PI c f cap L o S a b i n F S') (fun i=>b - i) ?_ i _ _ ?_
    ·clear h0 h1 h2 h3 h9 h10 hp hs l' i1 i2
     rintro i F S' ⟨i1,i2,h0,h1,h2,h3,h9,h10,l',hp,hs⟩
     have hpl:=hp.length_eq
     have ho:=hs.2
     have e4:=wrapS i (by omega)
     have e5:IntKind.i64.wrap ((i:Int) - 1)=((i - 1:Nat):Int):=by rw [xAa (by omega)];omega
     simp
     refine Dra.auto [14] mix ?_ ?_
     ·kernel_rfl
     by_cases hib:i < b
     ·have hil:i < L.length:=by omega
      have hil1:i - 1 < L.length:=by omega
      obtain ⟨x,hx⟩:∃ x,l'[i]?=some x:=⟨_,xgG (by omega)⟩
      obtain ⟨y,hy⟩:∃ y,l'[i - 1]?=some y:=⟨_,xgG (by omega)⟩
      have hxm:x ∈ L:=hp.mem_iff.1 (xmG hx)
      have hym:y ∈ L:=hp.mem_iff.1 (xmG hy)
      simp [classes,h9,h2,hib,h0,h3,e5,xAd hil,xAd hil1,hx,hy,cel,ho]
      refine ⟨_,_,hC.cal x hxm y hym l' S' hs,?_⟩
      simp
      by_cases hc:cm x y < 0
      ·simp [hc]
       exact ⟨i,⟨by omega,by omega,by simp [h0],by simp [h1],by simp [h2],by simp [h3],by simp [h9],by simp [h10],l',hp,hs⟩⟩
      ·simp [hc,h9,e4]
       exact ⟨i + 1,by omega,⟨by omega,by omega,by simp [h0],by simp [h1],by simp [h2],by simp [h3],by simp,by simp [h10],l',hp,hs⟩⟩
     ·simp [classes,h9,h2,hib]
      exact ⟨i,⟨by omega,by omega,by simp [h0],by simp [h1],by simp [h2],by simp [h3],by simp [h9],by simp [h10],l',hp,hs⟩⟩
    ·exact ⟨by omega,by omega,by simp [h0],by simp [h1],by simp [h2],by simp [h3],by simp [h9],by simp [h10],l',hp,hs⟩
   ·clear h0 h1 h2 h3 h9 h10 hp hs l' i1 i2 i
    rintro F S' ⟨i,i1,i2,h0,h1,h2,h3,h9,h10,l',hp,hs⟩
    have hpl:=hp.length_eq
    have ho:=hs.2
    have e5:IntKind.i64.wrap ((i:Int) - 1)=((i - 1:Nat):Int):=by rw [xAa (by omega)];omega
    simp [h9,h2]
    by_cases hib:i=b
    ·simp [hib]
     exact hk l' S' true hp hs
    ·have hibl:i < b:=by omega
     simp [show ¬ (i:Int)=(b:Int) by omega,h1,h2,e2]
     by_cases h50:((b - a:Nat):Int) < 50
     ·simp [h50]
      exact hk l' S' false hp hs
     ·have hil:i < L.length:=by omega
      have hil1:i - 1 < L.length:=by omega
      obtain ⟨x,hx⟩:∃ x,l'[i]?=some x:=⟨_,xgG (by omega)⟩
      obtain ⟨y,hy⟩:∃ y,l'[i - 1]?=some y:=⟨_,xgG (by omega)⟩
      have hg1:=xAU (c:=c) (l:=l') (a:=i) (p:=i - 1) (by omega) hy
      have hs2:=hs.swp (i:=i) (j:=i - 1) (x:=x) (y:=y)
      have hp2:=(xAm hx hy).trans hp
      have e6:IntKind.i64.wrap ((i:Int) - (a:Int))=((i - a:Nat):Int):=by rw [xAa (by omega)];omega
      simp [h50]
      refine Dra.auto [] mix ?_ ?_
      ·kernel_rfl
      simp [classes,h0,h1,h9,e5,e6,xAd hil,xAd hil1,hx,hy,cel,hc1,hcc,ho,hg1,xAk]
      clear hs hp hx hy hg1 ho
      generalize (l'.set i y).set (i - 1) x=l2 at *
      generalize S'.set o _=S2 at *
      refine Bra.cut (fun F' S''=>PI c f cap L o S a b i n F' S'') ?_ ?_
      ·by_cases h2':(2:Int)≤((i - a:Nat):Int)
       ·simp [h2',h9,e5]
        refine W.whileI (fun (j:Nat) F'' S''=>j≤i∧F'' 11=.int .i64 j∧PI c f cap L o S a b i n F'' S'') (fun j=>j) ?_ (i - 1) _ _ ?_
        ·clear h0 h1 h2 h3 h9 h10 hp2 hs2 hpl l2 l'
         rintro j F S' ⟨hjb,hj,_,_,h0,h1,h2,h3,h9,h10,l',hp,hs⟩
         have hpl:=hp.length_eq
         have ho:=hs.2
         simp [hj,h2]
         by_cases hc0:1≤j
         ·have hjl:j < L.length:=by omega
          have hjl1:j - 1 < L.length:=by omega
          have f5:IntKind.i64.wrap ((j:Int) - 1)=((j - 1:Nat):Int):=by rw [xAa (by omega)];omega
          have f6:=wrapS j (by omega)
          obtain ⟨x,hx⟩:∃ x,l'[j]?=some x:=⟨_,xgG (by omega)⟩
          obtain ⟨y,hy⟩:∃ y,l'[j - 1]?=some y:=⟨_,xgG (by omega)⟩
          have hxm:x ∈ L:=hp.mem_iff.1 (xmG hx)
          have hym:y ∈ L:=hp.mem_iff.1 (xmG hy)
          have hg2:=xAU (c:=c) (l:=l') (a:=j) (by omega) hy
          simp [hc0,show (1:Int)≤(j:Int) by omega]
          refine Dra.auto [10] mix ?_ ?_
          ·kernel_rfl
          simp [classes,h0,h3,hj,f5,xAd hjl,xAd hjl1,hx,hy,cel,ho]
          refine ⟨_,_,hC.cal x hxm y hym l' S' hs,?_⟩
          simp
          by_cases hc:cm x y < 0
          ·have hg1:=xAU (c:=c) (l:=l') (a:=j) (p:=j - 1) (by omega) hy
           simp [hc]
           refine Dra.auto [] mix ?_ ?_
           ·kernel_rfl
           simp [classes,h0,hj,f5,f6,xAd hjl,xAd hjl1,hx,hy,cel,hc1,hcc,ho,hg1,xAk]
           exact ⟨j - 1,by omega,by omega,by first | rfl | omega | simp,⟨by omega,by omega,by simp [h0],by simp [h1],by simp [h2],by simp [h3],by simp [h9],by simp [h10],_,(xAm hx hy).trans hp,hs.swp⟩⟩
          ·simp [hc]
           exact ⟨by omega,by omega,by simp [h0],by simp [h1],by simp [h2],by simp [h3],by simp [h9],by simp [h10],l',hp,hs⟩
         ·simp [show ¬ (1:Int)≤(j:Int) by omega]
          exact ⟨by omega,by omega,by simp [h0],by simp [h1],by simp [h2],by simp [h3],by simp [h9],by simp [h10],l',hp,hs⟩
        ·exact ⟨by omega,by simp,⟨by omega,by omega,by simp [h0],by simp [h1],by simp [h2],by simp [h3],by simp [h9],by simp [h10],l2,hp2,hs2⟩⟩
       ·simp [h2']
        exact ⟨by omega,by omega,by simp [h0],by simp [h1],by simp [h2],by simp [h3],by simp [h9],by simp [h10],l2,hp2,hs2⟩
      ·clear h0 h1 h2 h3 h9 h10 hs2 hp2 hpl l2 l'
       rintro F S' ⟨_,_,h0,h1,h2,h3,h9,h10,l',hp,hs⟩
       have e7:IntKind.i64.wrap ((b:Int) - (i:Int))=((b - i:Nat):Int):=by rw [xAa (by omega)];omega
       have e9:=wrapS i (by omega)
       simp [h2,h9,e7]
       refine Bra.cut (fun F' S''=>PI c f cap L o S a b i n F' S'') ?_ ?_
       ·by_cases h2':(2:Int)≤((b - i:Nat):Int)
        ·simp [h2',h9,e9]
         refine W.whileI (fun (j:Nat) F'' S''=>(i + 1≤j∧j≤b)∧F'' 12=.int .i64 j∧PI c f cap L o S a b i n F'' S'') (fun j=>b - j) ?_ (i + 1) _ _ ?_
         ·clear h0 h1 h2 h3 h9 h10 hp hs l'
          rintro j F S' ⟨⟨hj1,hjb⟩,hj,_,_,h0,h1,h2,h3,h9,h10,l',hp,hs⟩
          have hpl:=hp.length_eq
          have ho:=hs.2
          simp [hj,h2]
          by_cases hc0:j < b
          ·have hjl:j < L.length:=by omega
           have hjl1:j - 1 < L.length:=by omega
           have f5:IntKind.i64.wrap ((j:Int) - 1)=((j - 1:Nat):Int):=by rw [xAa (by omega)];omega
           have f6:=wrapS j (by omega)
           obtain ⟨x,hx⟩:∃ x,l'[j]?=some x:=⟨_,xgG (by omega)⟩
           obtain ⟨y,hy⟩:∃ y,l'[j - 1]?=some y:=⟨_,xgG (by omega)⟩
           have hxm:x ∈ L:=hp.mem_iff.1 (xmG hx)
           have hym:y ∈ L:=hp.mem_iff.1 (xmG hy)
           have hg2:=xAU (c:=c) (l:=l') (a:=j) (by omega) hy
           simp [hc0,show (1:Int)≤(j:Int) by omega]
           refine Dra.auto [10] mix ?_ ?_
           ·kernel_rfl
           simp [classes,h0,h3,hj,f5,xAd hjl,xAd hjl1,hx,hy,cel,ho]
           refine ⟨_,_,hC.cal x hxm y hym l' S' hs,?_⟩
           simp
           by_cases hc:cm x y < 0
           ·have hg1:=xAU (c:=c) (l:=l') (a:=j) (p:=j - 1) (by omega) hy
            simp [hc]
            refine Dra.auto [] mix ?_ ?_
            ·kernel_rfl
            simp [classes,h0,hj,f5,f6,xAd hjl,xAd hjl1,hx,hy,cel,hc1,hcc,ho,hg1,xAk]
            exact ⟨j + 1,by omega,⟨by omega,by omega⟩,by first | rfl | omega | simp,⟨by omega,by omega,by simp [h0],by simp [h1],by simp [h2],by simp [h3],by simp [h9],by simp [h10],_,(xAm hx hy).trans hp,hs.swp⟩⟩
           ·simp [hc]
            exact ⟨by omega,by omega,by simp [h0],by simp [h1],by simp [h2],by simp [h3],by simp [h9],by simp [h10],l',hp,hs⟩
          ·simp [hc0]
           exact ⟨by omega,by omega,by simp [h0],by simp [h1],by simp [h2],by simp [h3],by simp [h9],by simp [h10],l',hp,hs⟩
         ·exact ⟨⟨by omega,by omega⟩,by simp,⟨by omega,by omega,by simp [h0],by simp [h1],by simp [h2],by simp [h3],by simp [h9],by simp [h10],l',hp,hs⟩⟩
        ·simp [h2']
         exact ⟨by omega,by omega,by simp [h0],by simp [h1],by simp [h2],by simp [h3],by simp [h9],by simp [h10],l',hp,hs⟩
       ·clear h0 h1 h2 h3 h9 h10 hs hp l'
        rintro F S' ⟨_,_,h0,h1,h2,h3,h9,h10,l',hp,hs⟩
        simp [h10,e8]
        exact ⟨n + 1,by omega,by omega,i,⟨by omega,by omega,by simp [h0],by simp [h1],by simp [h2],by simp [h3],by simp [h9],by simp,l',hp,hs⟩⟩
  ·simp [hlt]
   exact hk l' S' false hp hs
 ·simp
  exact ⟨a + 1,⟨by omega,by omega,by simp,by simp,by simp,by simp,by simp,by simp,l,hl,hS⟩⟩
end
end Go.Proofs.YtnhfofmhkfdpgaaGreatDoor.Vm
