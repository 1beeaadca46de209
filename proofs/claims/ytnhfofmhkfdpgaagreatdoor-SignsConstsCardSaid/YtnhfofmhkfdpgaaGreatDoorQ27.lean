/- A part of the proof: Oh Op Oq Or Ot. -/
import Derived.Test.YtnhfofmhkfdpgaaGreatDoorQ26
set_option linter.unusedVariables false
set_option linter.unusedSimpArgs false
set_option linter.constructorNameAsVariable false
namespace Go.Proofs.YtnhfofmhkfdpgaaGreatDoor.Vm
open Go Go.RowKit
set_option maxRecDepth 100000
set_option maxHeartbeats 8000000
variable {N:Nat} {g:Glob}
theorem vc.cut {P:Program} {a b:VCode} {F:AFrame} {S:St} {Q:Res→Prop} (R:AFrame→St→Prop) (h:vc P g a F S (KSeqOf R Q)) (hR:∀F S,R F S→vc P g b F S Q):vc P g (.seq a b) F S Q:=by
 show vc P g a F S (KSeqOf (fun F S=>vc P g b F S Q) Q)
 refine xCF (fun r hr=>?_) h
 cases r with
 | val v S=>exact hr
 | code e F S =>
  cases e with
  | normal=>exact hR F S hr
  | ret=>exact hr
  | exit id=>exact hr
@[simp] theorem xPN {R Q F S}:KSeqOf R Q (.code .normal F S)=R F S:=_root_.id rfl
@[simp] theorem xSt {R Q F S}:KSeqOf R Q (.code .ret F S)=Q (.code .ret F S):=_root_.id rfl
@[simp] theorem xRD {R Q id F S}:KSeqOf R Q (.code (.exit id) F S)=Q (.code (.exit id) F S):=_root_.id rfl
section
variable {α:Type} {c:α→AV} {f:Nat} {cap:List AV} {L:List α} {o:Nat} {S:St} {cm:α→α→Int}
structure PQ (c:α→AV) (f:Nat) (cap:List AV) (L:List α) (o:Nat) (S:St) (a b:Nat) (F:AFrame) (S':St):Prop where
 h0:F 0=.sl 1 o 0 L.length
 h1:F 1=.int .i64 a
 h2:F 2=.int .i64 b
 h4:F 4=.func (.func f) [] cap
 h3:∃ lim:Int,F 3=.int .i64 lim
 h10:∃ t,F 10=.bool t
 h11:∃ t,F 11=.bool t
 ex:∃ l':List α,l'.Perm L∧Srt c S o l' S'
theorem xV7 {nf:Nat→Nat} (H:SFam nf) (hC:Cmp g c f cap L o S cm):∀(k a b:Nat) (lim:Int),b - a < k→a≤b→b≤L.length→∀{l:List α} {S1:St} {K:AV→St→Prop},l.Perm L→Srt c S o l S1 →
  (∀l' S',l'.Perm L→Srt c S o l' S'→K (.tuple []) S')→Cal P g (nf 10) [.sl 1 o 0 L.length,.int .i64 (a:Int),.int .i64 (b:Int),.int .i64 lim,.func (.func f) [] cap] S1 K:=by
 intro k
 induction k with
 | zero=>intro a b lim h;omega
 | succ k ih =>
 intro a0 b0 lim0 hab0 hle0 hb0 l S1 K hl hS hk
 refine H.c10.in (by simp) ?_
 have hlen:=hC.len
 simp [sk10]
 refine W.whileI (fun (z:Nat × Nat) F S'=>z.1≤z.2∧z.2≤L.length∧z.2 - z.1 < k + 1∧PQ c f cap L o S z.1 z.2 F S') (fun z=>z.2 - z.1) ?_ (a0,b0) _ _ ?_
 ·rintro ⟨a,b⟩ F S' ⟨hle,hb,hkb,h0,h1,h2,h4,⟨lim,h3⟩,⟨t1,h10⟩,⟨t2,h11⟩,l',hp,hs⟩
  simp only at hle hb hkb h0 h1 h2 h4 h3 h10 h11
  obtain ⟨n,hn⟩:∃ n:Nat,n=b - a:=⟨_,rfl⟩
  have e1:IntKind.i64.wrap ((b:Int) - (a:Int))=(n:Int):=by rw [xAa (by omega)];omega
  simp [h1,h2,e1]
  by_cases h12:(n:Int)≤12
  ·simp [h12,h0,h1,h2,h4]
   refine xPJ H hC hle hb hp hs fun l2 S2 hp2 hs2=>?_
   simp
   exact hk l2 S2 hp2 hs2
  ·simp [h12,h3]
   by_cases hl0:lim=0
   ·simp [hl0,h0,h1,h2,h4]
    refine xUd H hC (by omega) hb hp hs fun l2 S2 hp2 hs2=>?_
    simp
    exact hk l2 S2 hp2 hs2
   ·simp [hl0,h10]
    refine Bra.cut (fun F' S''=>PQ c f cap L o S a b F' S''∧F' 12=.int .i64 n) ?_ ?_
    ·cases t1 with
     | true =>
      simp
      exact ⟨by simp [h0],by simp [h1],by simp [h2],by simp [h4],⟨lim,by simp [h3]⟩,⟨true,by simp [h10]⟩,⟨t2,by simp [h11]⟩,l',hp,hs⟩
     | false =>
      simp [h0,h1,h2,h3,h4]
      refine xRB H hC (by omega) hb hp hs fun l2 S2 hp2 hs2=>?_
      simp [h3]
      exact ⟨by simp [h0],by simp [h1],by simp [h2],by simp [h4],⟨IntKind.i64.wrap (lim - 1),by simp [h3]⟩,⟨false,by simp [h10]⟩,⟨t2,by simp [h11]⟩,l2,hp2,hs2⟩
    ·clear h0 h1 h2 h3 h4 h10 h11 hp hs l' hl0 t1 t2 lim
     rintro F S' ⟨⟨h0,h1,h2,h4,⟨lim,h3⟩,⟨t1,h10⟩,⟨t2,h11⟩,l',hp,hs⟩,h12'⟩
     simp [h0,h1,h2,h4]
     refine xRC H hC (by omega) hb hp hs fun S2 m h hm1 hm2 hs2=>?_
     simp
     refine Bra.cut (fun F' S''=>PQ c f cap L o S a b F' S''∧F' 12=.int .i64 n∧(∃ m:Nat,a≤m∧m < b∧F' 13=.int .i64 m)∧∃ h:Int,F' 14=.int .i64 h) ?_ ?_
     ·by_cases hh:h=2
      ·have e2:IntKind.i64.wrap ((b:Int) - 1)=((b - 1:Nat):Int):=by rw [xAa (by omega)];omega
       have e3:IntKind.i64.wrap ((m:Int) - (a:Int))=((m - a:Nat):Int):=by rw [xAa (by omega)];omega
       have e4:IntKind.i64.wrap (((b - 1:Nat):Int) - ((m - a:Nat):Int))=((b - 1 - (m - a):Nat):Int):=by rw [xAa (by omega)];omega
       simp [hh,h0,h1,h2,h4]
       refine xN2 H hC (by omega) hb hp hs2 fun l3 S3 hp3 hs3=>?_
       simp [h1,h2,e2,e3,e4]
       exact ⟨⟨by simp [h0],by simp [h1],by simp [h2],by simp [h4],⟨lim,by simp [h3]⟩,⟨t1,by simp [h10]⟩,⟨t2,by simp [h11]⟩,l3,hp3,hs3⟩,by simp [h12'],b - 1 - (m - a),by omega,by omega,by simp⟩
      ·simp [hh]
       exact ⟨⟨by simp [h0],by simp [h1],by simp [h2],by simp [h4],⟨lim,by simp [h3]⟩,⟨t1,by simp [h10]⟩,⟨t2,by simp [h11]⟩,l',hp,hs2⟩,by simp [h12'],m,hm1,hm2,by simp⟩
     ·clear h0 h1 h2 h3 h4 h10 h11 hp hs hs2 l' t1 t2 lim hm1 hm2 m h h12'
      rintro F S' ⟨⟨h0,h1,h2,h4,⟨lim,h3⟩,⟨t1,h10⟩,⟨t2,h11⟩,l',hp,hs⟩,h12',⟨m,hm1,hm2,h13⟩,⟨h,h14⟩⟩
      show vc P g (.seq _ _) F S' _
      refine vc.cut (fun F' S''=>PQ c f cap L o S a b F' S''∧F' 12=.int .i64 n∧∃ m:Nat,a≤m∧m < b∧F' 13=.int .i64 m) ?_ ?_
      ·skip
       cases t1 with
       | false =>
        simp [h10,h11,h14]
        refine ⟨⟨by simp [h0],by simp [h1],by simp [h2],by simp [h4],⟨lim,by simp [h3]⟩,⟨false,by simp [h10]⟩,⟨t2,by simp [h11]⟩,l',hp,hs⟩,by simp [h12'],⟨m,hm1,hm2,by simp [h13]⟩⟩
       | true =>
        cases t2 with
        | false =>
         simp [h10,h11,h14]
         refine ⟨⟨by simp [h0],by simp [h1],by simp [h2],by simp [h4],⟨lim,by simp [h3]⟩,⟨true,by simp [h10]⟩,⟨false,by simp [h11]⟩,l',hp,hs⟩,by simp [h12'],⟨m,hm1,hm2,by simp [h13]⟩⟩
        | true =>
         by_cases hh:h=1
         ·simp [h10,h11,h14,hh,h0,h1,h2,h4]
          refine xN5 H hC (by omega) hb hp hs fun l3 S3 t hp3 hs3=>?_
          cases t with
          | true =>
           simp
           exact hk l3 S3 hp3 hs3
          | false =>
           simp
           refine ⟨⟨by simp [h0],by simp [h1],by simp [h2],by simp [h4],⟨lim,by simp [h3]⟩,⟨true,by simp [h10]⟩,⟨true,by simp [h11]⟩,l3,hp3,hs3⟩,by simp [h12'],⟨m,hm1,hm2,by simp [h13]⟩⟩
         ·simp [h10,h11,h14,hh]
          refine ⟨⟨by simp [h0],by simp [h1],by simp [h2],by simp [h4],⟨lim,by simp [h3]⟩,⟨true,by simp [h10]⟩,⟨true,by simp [h11]⟩,l',hp,hs⟩,by simp [h12'],⟨m,hm1,hm2,by simp [h13]⟩⟩
      ·clear h0 h1 h2 h3 h4 h10 h11 h12' h13 h14 hp hs l' t1 t2 lim hm1 hm2 m h
       rintro F S' ⟨⟨h0,h1,h2,h4,⟨lim,h3⟩,⟨t1,h10⟩,⟨t2,h11⟩,l',hp,hs⟩,h12',⟨m,hm1,hm2,h13⟩⟩
       show vc P g (.seq _ _) F S' _
       refine vc.cut (fun F' S''=>PQ c f cap L o S a b F' S''∧F' 12=.int .i64 n∧∃ m:Nat,a≤m∧m < b∧F' 13=.int .i64 m) ?_ ?_
       ·have hpl:=hp.length_eq
        have ho:=hs.2
        have hml:m < L.length:=by omega
        simp
        refine Dra.auto [13] mix ?_ ?_
        ·kernel_rfl
        by_cases ha:0 < a
        ·have hal:a - 1 < L.length:=by omega
         have e2:IntKind.i64.wrap ((a:Int) - 1)=((a - 1:Nat):Int):=by rw [xAa (by omega)];omega
         obtain ⟨x,hx⟩:∃ x,l'[a - 1]?=some x:=⟨_,xgG (by omega)⟩
         obtain ⟨y,hy⟩:∃ y,l'[m]?=some y:=⟨_,xgG (by omega)⟩
         have hxm:x ∈ L:=hp.mem_iff.1 (xmG hx)
         have hym:y ∈ L:=hp.mem_iff.1 (xmG hy)
         simp [classes,h0,h1,h4,h13,ha,e2,xAd hal,xAd hml,hx,hy,cel,ho]
         refine ⟨_,_,hC.cal x hxm y hym l' S' hs,?_⟩
         simp
         by_cases hc:cm x y < 0
         ·simp [hc]
          refine ⟨⟨by simp [h0],by simp [h1],by simp [h2],by simp [h4],⟨lim,by simp [h3]⟩,⟨t1,by simp [h10]⟩,⟨t2,by simp [h11]⟩,l',hp,hs⟩,by simp [h12'],⟨m,hm1,hm2,by simp [h13]⟩⟩
         ·simp [hc,h0,h1,h2,h4,h13]
          refine xPK H hC (by omega) hb hml hp hs fun l3 S3 w hw1 hw2 hp3 hs3=>?_
          simp
          refine ⟨w,b,by omega,by omega,hb,by omega,⟨by simp [h0],by simp,by simp [h2],by simp [h4],⟨lim,by simp [h3]⟩,⟨t1,by simp [h10]⟩,⟨t2,by simp [h11]⟩,l3,hp3,hs3⟩⟩
        ·simp [classes,h1,ha]
         refine ⟨⟨by simp [h0],by simp [h1],by simp [h2],by simp [h4],⟨lim,by simp [h3]⟩,⟨t1,by simp [h10]⟩,⟨t2,by simp [h11]⟩,l',hp,hs⟩,by simp [h12'],⟨m,hm1,hm2,by simp [h13]⟩⟩
       ·clear h0 h1 h2 h3 h4 h10 h11 h12' h13 hp hs l' t1 t2 lim hm1 hm2 m
        rintro F S' ⟨⟨h0,h1,h2,h4,⟨lim,h3⟩,⟨t1,h10⟩,⟨t2,h11⟩,l',hp,hs⟩,h12',⟨m,hm1,hm2,h13⟩⟩
        simp [h0,h1,h2,h4,h13]
        refine xKl H hC (by omega) hb (by omega) hp hs fun l3 S3 w t hw1 hw2 hp3 hs3=>?_
        have e2:IntKind.i64.wrap ((w:Int) - (a:Int))=((w - a:Nat):Int):=by rw [xAa (by omega)];omega
        have e3:IntKind.i64.wrap ((b:Int) - (w:Int))=((b - w:Nat):Int):=by rw [xAa (by omega)];omega
        have e4:=wrapS w (by omega)
        simp [h1,h2,h12',e2,e3]
        by_cases hh:w - a < b - w
        ·simp [hh,h0,h1,h3,h4]
         refine ih a w lim (by omega) (by omega) (by omega) hp3 hs3 fun l4 S4 hp4 hs4=>?_
         simp [e4]
         refine ⟨w + 1,b,by omega,by omega,hb,by omega,⟨by simp [h0],by simp,by simp [h2],by simp [h4],⟨lim,by simp [h3]⟩,⟨_,by simp;rfl⟩,⟨t,by simp⟩,l4,hp4,hs4⟩⟩
        ·simp [hh,h0,h1,h2,h3,h4,e4]
         refine ih (w + 1) b lim (by omega) (by omega) (by omega) hp3 hs3 fun l4 S4 hp4 hs4=>?_
         simp
         refine ⟨a,w,by omega,by omega,by omega,by omega,⟨by simp [h0],by simp [h1],by simp,by simp [h4],⟨lim,by simp [h3]⟩,⟨_,by simp;rfl⟩,⟨t,by simp⟩,l4,hp4,hs4⟩⟩
 ·simp
  exact ⟨hle0,hb0,by omega,⟨by simp,by simp,by simp,by simp,⟨lim0,by simp⟩,⟨true,by simp⟩,⟨true,by simp⟩,l,hl,hS⟩⟩
theorem xN6 {nf:Nat→Nat} (H:SFam nf) (hC:Cmp g c f cap L o S cm) (ho:S.obj o=some (.row 1 (els (cel c) L))) {K:AV→St→Prop}
  (hk:∀l' S',l'.Perm L→Srt c S o l' S'→K (.tuple []) S'):Cal P g (nf 13) [.sl 1 o 0 L.length,.func (.func f) [] cap] S K:=by
 refine H.c13.in (by simp) ?_
 have hlen:=hC.len
 simp [sk13]
 have ew:IntKind.u64.wrap (L.length:Int)=L.length:=xCd (by omega)
 rw [ew]
 refine (bits_Len L.length (by omega)).use (n:=9) ?_ rfl ?_ <;> simp
 refine xV7 H hC (L.length + 1) 0 L.length _ (by omega) (by omega) (yAC _) (.refl _) ⟨⟨yAC _,fun a _ _=>rfl⟩,ho⟩ fun l' S' hp hs=>?_
 simp
 exact hk l' S' hp hs
end
end Go.Proofs.YtnhfofmhkfdpgaaGreatDoor.Vm
namespace Go.Proofs.YtnhfofmhkfdpgaaGreatDoor.Vm
open Go Go.RowKit
set_option maxRecDepth 100000
variable {N:Nat} {g:Glob}
theorem xMj {v:AV} {G:List (List Int)} (hv:GrV v G) (hG:G.length≤128) (hl:∀l ∈ G,l.length < 1048576):RetE P g false 253 [v] (fun y=>∃ Ps:List (List Int),FSl partc 1 y Ps∧PartsOK G.length Ps):=by
 refine RetE.in c253 (by simp) ?_
 have hroom:G.length≤room:=by simp [room];omega
 have hCl:(cleanG G).length=G.length:=by simp [cleanG]
 have hCm:∀l ∈ cleanG G,l.length < 1048576∧∀x ∈ l,0≤x∧x < (cleanG G).length:=by
  intro l h
  rw [hCl]
  simp only [cleanG,yAU] at h
  obtain ⟨m,hm,rfl⟩:=h
  exact ⟨yBM (xAS _ _) (hl m hm),fun x hx=>(xAp.1 hx).2⟩
 have hcv:=xCj (cleanG G)
 simp [k253,hv.len]
 refine Dra.auto [] mix ?_ ?_
 ·kernel_rfl
 simp [classes]
 refine (xAD hv (by omega) (fun l h=>by have:=hl l h;omega)).b (n:=9) ?_ rfl ?_ <;> simp [xAc hv.stab]
 have hcc:(encG (cleanG G)).cells=[encG (cleanG G)]:=rfl
 have hc1:(encG (cleanG G)).one=true:=rfl
 generalize cleanG G=C at *
 generalize encG C=cv at *
 have hC12:C.length≤128:=by omega
 have hroom':C.length≤room:=by omega
 have hvl:=hv.len
 rw [← hCl] at hvl ⊢
 have e0:∀n:Nat,List.replicate n [AV.int IntKind.i64 0]=els intc (List.replicate n 0):=fun n=>xAh (e:=intc)
 have e1:∀n:Nat,List.replicate n [AV.bool false]=els boolc (List.replicate n false):=fun n=>xAh (e:=boolc)
 simp [hroom',hcc,hc1,hvl,e0,e1]
 have hz0:Wfj C ⟨List.replicate C.length 0,List.replicate C.length 0,List.replicate C.length false,[],[],0,[]⟩:=by
  refine ⟨by simp,by simp,by simp,by simp,by simp,by simp [wfst],by simp,?_,by simp,by simp,by simp⟩
  intro a h
  exfalso
  apply h
  simp only [yAA,yAv]
  split <;> rfl
 refine W.whileI (fun (a:Nat) F S=>a≤C.length∧F 4=.ptr 3 0 0∧F 19=.int .i64 C.length∧F 20=.int .i64 a∧PtI 3 0 1 2 4 cv C a S) (fun a=>C.length - a) ?_ 0 _ _ ?_
 ·rintro a F S ⟨ha,h4,h19,h20,ov,wv,pv,z,hT,hz,hw,hp,hpa⟩
  have obj:=hT.obj
  have rm:=hT.rm
  by_cases hlt:a < C.length
  ·have e4:=wrapS a (by omega)
   obtain ⟨m,hm⟩:∃ m,z.met[a]?=some m:=⟨_,xgG (by rw [hz.lm];exact hlt)⟩
   simp [h19,h20,hlt]
   simp [h4,obj,tjCells,rm,xAd hlt,hm,intc]
   by_cases hm0:m=0
   ·subst hm0
    simp [h4]
    refine xGY hcv hT hz hw hlt hm (by omega) hCm hp fun S' ov' wv' pv' z' hT' hz' hw' hp'=>?_
    simp [h4,h19,h20,e4]
    exact ⟨a + 1,by omega,by omega,by omega,ov',wv',pv',z',hT',hz',hw',.inl hp',fun _=>hp'⟩
   ·have hpp:z.parts ≠ []:=by
     rcases hp with h | h
     ·exact h
     ·exfalso
      have h1:=hz.clk
      rw [h,← hz.lm,yBF] at h1
      have:=List.count_eq_length.1 h1 m (xmG hm)
      exact hm0 this.symm
    simp [hm0,h4,h19,h20,e4]
    exact ⟨a + 1,by omega,by omega,by omega,ov,wv,pv,z,hT,hz,hw,hp,fun _=>hpp⟩
  ·have:a=C.length:=by omega
   subst this
   have hcnt:=hz.cnt
   have hP:∀Ps:List (List Int),Ps.Perm z.parts→PartsOK C.length Ps:=by
    intro Ps hpm
    refine ⟨fun h e=>?_,?_,fun l h=>hz.prt l (hpm.mem_iff.1 h)⟩
    ·subst e
     exact hpa h hpm.symm.eq_nil
    ·rw [hpm.length_eq];omega
   simp [h19,h20,h4,obj,tjCells]
   rcases hT.rp with ⟨rfl,hpe⟩ | ⟨po,rfl,p1,p2,p3⟩
   ·refine xIX ?_
    simp [h4,obj,tjCells]
    exact ⟨.nilsl,⟨[],.inr ⟨rfl,rfl⟩,hP [] (by rw [hpe])⟩,1,rfl⟩
   ·have hCm2:Cmp g (fun l:List Int=>AV.fsl 1 (els intc l)) 272 [] z.parts po S (fun a b=>IntKind.i64.wrap ((a.getD 0 0) - (b.getD 0 0))):=by
     refine ⟨fun _=>rfl,by omega,by omega,fun a ha b hb l' S' hs=>?_⟩
     have h1:=(hz.prt a ha).1
     have h2:=(hz.prt b hb).1
     cases a with
     | nil=>exact absurd rfl h1
     | cons x a =>
      cases b with
      | nil=>exact absurd rfl h2
      | cons y b=>exact xGZ (a:=x :: a) (b:=y :: b) rfl rfl ⟨rfl,rfl⟩
    refine xN6 famR hCm2 p3 fun l' S' hl' hs'=>?_
    have obj':=hs'.1.2 3 (by omega) (by omega)
    rw [obj] at obj'
    simp [h4,obj',tjCells]
    refine ⟨.fsl 1 (els partc l'),⟨l',.inl rfl,hP l' hl'⟩,3,?_⟩
    rw [← hl'.length_eq]
    refine xAz (es:=els partc l') (by rw [hs'.2];rfl) (by simp) (by simp) fun k e he=>?_
    rw [he]
    simp only [els,yAN] at he
    cases hz:l'[k]? with
    | none=>rw [hz] at he;cases he
    | some x=>rw [hz] at he;cases he;simp [partc]
 ·simp
  refine ⟨.nilsl,.nilsl,.nilsl,_,⟨by omega,by omega,by omega,by omega,by simp,by simp,by simp [tjCells],by simp,by simp,by simp,by simp,by simp,by simp,.inl ⟨rfl,rfl⟩,.inl ⟨rfl,rfl⟩,.inl ⟨rfl,rfl⟩,fun _ _ _ h=>by cases h⟩,hz0,rfl,.inr rfl,fun h=>absurd h (by omega)⟩
theorem xKn {v:AV} {G:List (List Int)} (hv:GrV v G) (hG:G.length≤128) (hl:∀l ∈ G,l.length < 8000):RetE P g false 227 [v] (fun y=>∃ (L:List (List Int)) (r:List Int),y=.tuple [encG (cleanG L),.fsl 1 (els intc r)]∧Shrunk G.length L r):=by
 refine RetE.in c227 (by simp) ?_
 have hroom:G.length≤room:=by simp [room];omega
 have hCl:(cleanG G).length=G.length:=by simp [cleanG]
 have hCm:∀l ∈ cleanG G,l.length < 8000∧∀x ∈ l,0≤x∧x < G.length:=by
  intro l h
  simp only [cleanG,yAU] at h
  obtain ⟨m,hm,rfl⟩:=h
  exact ⟨yBM (xAS _ _) (hl m hm),fun x hx=>(xAp.1 hx).2⟩
 have hcv:=xCj (cleanG G)
 simp [k227]
 refine (xMj hv hG (fun l h=>by have:=hl l h;omega)).use (n:=9) ?_ ?_ ?_ <;> simp [xAc hv.stab,solids,hv.solid]
 rintro pv Ps hPv hPs
 have e0:∀n:Nat,List.replicate n [AV.int IntKind.i64 0]=els intc (List.replicate n 0):=fun n=>xAh (e:=intc)
 simp [hv.len,hroom,hPv.len,e0]
 have hp0:=hPs.len
 refine W.whileI (fun (k:Nat) F S=>k≤Ps.length∧F 0=v∧F 4=pv∧F 5=.sl 1 0 0 G.length∧F 20=pv∧F 21=.int .i64 Ps.length∧F 22=.int .i64 k∧S.next=1∧∃ r:List Int,r.length=G.length∧S.obj 0=some (.row 1 (els intc r))∧∀x ∈ r,0≤x∧x < Ps.length) (fun k=>Ps.length - k) ?_ 0 _ _ ?_
 ·rintro k F S ⟨hk,h0,h4,h5,h20,h21,h22,hn,r,hr,hro,hrx⟩
  by_cases hlt:k < Ps.length
  ·obtain ⟨l,hx⟩:∃ l,Ps[k]?=some l:=⟨_,xgG hlt⟩
   obtain ⟨_,hlx,hll⟩:=hPs.each l (xmG hx)
   have hlf:FSl intc 1 (.fsl 1 (els intc l)) l:=FSl.mk
   have e4:=wrapS k (by omega)
   simp [h21,h22,hlt]
   simp [h20,h22,hPv.idx hx,partc]
   refine W.whileI (fun (j:Nat) F S=>j≤l.length∧F 0=v∧F 4=pv∧F 5=.sl 1 0 0 G.length∧F 6=.int .i64 k∧F 20=pv∧F 21=.int .i64 Ps.length∧F 22=.int .i64 k∧F 27=.fsl 1 (els intc l)∧F 28=.int .i64 l.length∧F 29=.int .i64 j∧S.next=1∧∃ r:List Int,r.length=G.length∧S.obj 0=some (.row 1 (els intc r))∧∀x ∈ r,0≤x∧x < Ps.length) (fun j=>l.length - j) ?_ 0 _ _ ?_
   ·rintro j F S ⟨hj,h0,h4,h5,h6,h20,h21,h22,h27,h28,h29,hn,r,hr,hro,hrx⟩
    by_cases hlj:j < l.length
    ·obtain ⟨x,hxj⟩:∃ x,l[j]?=some x:=⟨_,xgG hlj⟩
     have e5:=wrapS j (by omega)
     obtain ⟨hx0,hxn⟩:=hlx x (xmG hxj)
     obtain ⟨b,rfl⟩:∃ b:Nat,x=(b:Int):=⟨x.toNat,by omega⟩
     have hbn:b < G.length:=by omega
     obtain ⟨y,hy⟩:∃ y,r[b]?=some y:=⟨_,xgG (by omega)⟩
     simp [h28,h29,hlj]
     simp [h27,h29,hlf.idx hxj,intc,h5,h6,xAd hbn,hro,hy,h0,h4,h20,h21,h22,e5]
     refine ⟨j + 1,by omega,by omega,by omega,hn,r.set b (k:Int),by simp [hr],?_,?_⟩
     ·rw [← xAg];rfl
     ·intro z hz
      rcases yAP hz with h | rfl
      ·exact hrx z h
      ·omega
    ·have:j=l.length:=by omega
     subst this
     simp [h28,h29,h0,h4,h5,h20,h21,h22,e4]
     exact ⟨k + 1,by omega,by omega,by omega,hn,r,hr,hro,hrx⟩
   ·simp [h0,h4,h5,h20,h21,h22]
    exact ⟨hn,r,hr,hro,hrx⟩
  ·have hpr:Ps.length≤room:=by omega
   simp [h21,h22,hlt,h4,hPv.len,hpr,h0]
   refine (xAD hv (by omega) (fun l h=>by have:=hl l h;omega)).use (n:=9) ?_ rfl ?_ <;> simp [xAc hv.stab]
   have hR0:RowsV 2 (S.new (.row 1 (List.replicate Ps.length [.nilsl]))) 1 (List.replicate Ps.length [.nilsl]) (List.replicate Ps.length []):=by
    have:=RowsV.start (S:=S) (by simp) Ps.length
    rw [hn] at this
    exact this
   generalize cleanG G=C at *
   generalize encG C=cv at *
   simp [hcv.len,hn,hCl]
   refine W.whileI (fun (a:Nat) F S=>a≤G.length∧F 5=.sl 1 0 0 G.length∧F 10=.sl 1 1 0 Ps.length∧F 43=cv∧F 44=.int .i64 G.length∧F 45=.int .i64 a∧S.obj 0=some (.row 1 (els intc r))∧∃ es L,RowsV 2 S 1 es L∧L.length=Ps.length∧∀m ∈ L,m.length≤a * 8000) (fun a=>G.length - a) ?_ 0 _ _ ?_
   ·rintro a F S ⟨ha,h5,h10,h43,h44,h45,hro,es,L,hR,hLl,hLb⟩
    by_cases hlt:a < G.length
    ·obtain ⟨l,hx⟩:∃ l,C[a]?=some l:=⟨_,xgG (by omega)⟩
     obtain ⟨w,hw,hix⟩:=hcv.idx hx
     obtain ⟨hll,hlx⟩:=hCm l (xmG hx)
     have e4:=wrapS a (by omega)
     obtain ⟨ra,hra⟩:∃ y,r[a]?=some y:=⟨_,xgG (by omega)⟩
     obtain ⟨hra0,hran⟩:=hrx ra (xmG hra)
     obtain ⟨ka,rfl⟩:∃ b:Nat,ra=(b:Int):=⟨ra.toNat,by omega⟩
     have hka:ka < Ps.length:=by omega
     simp [h44,h45,hlt]
     simp [h43,h45,hix,hw.len]
     refine W.whileI (fun (k:Nat) F S=>k≤l.length∧F 5=.sl 1 0 0 G.length∧F 10=.sl 1 1 0 Ps.length∧F 11=.int .i64 a∧F 43=cv∧F 44=.int .i64 G.length∧F 45=.int .i64 a∧F 50=w∧F 51=.int .i64 l.length∧F 52=.int .i64 k∧S.obj 0=some (.row 1 (els intc r))∧∃ es L,RowsV 2 S 1 es L∧L.length=Ps.length∧∀m ∈ L,m.length≤a * 8000 + k) (fun k=>l.length - k) ?_ 0 _ _ ?_
     ·rintro k F S ⟨hk,h5,h10,h11,h43,h44,h45,h50,h51,h52,hro,es,L,hR,hLl,hLb⟩
      by_cases hlk:k < l.length
      ·obtain ⟨x,hxk⟩:∃ x,l[k]?=some x:=⟨_,xgG hlk⟩
       have e5:=wrapS k (by omega)
       obtain ⟨hx0,hxn⟩:=hlx x (xmG hxk)
       obtain ⟨b,rfl⟩:∃ b:Nat,x=(b:Int):=⟨x.toNat,by omega⟩
       have hbn:b < G.length:=by omega
       obtain ⟨rb,hrb⟩:∃ y,r[b]?=some y:=⟨_,xgG (by omega)⟩
       simp [h51,h52,hlk]
       simp [h50,h52,hw.idx hxk,intc]
       refine Dra.auto [] mix ?_ ?_
       ·kernel_rfl
       simp [classes,h5,h11,xAd hlt,xAd hbn,hro,hra,hrb,intc]
       by_cases heq:(ka:Int)=rb
       ·simp [heq,h5,h10,h11,h43,h44,h45,h50,h51,h52,e5]
        refine ⟨k + 1,by omega,by omega,by omega,hro,es,L,hR,hLl,fun m hm=>?_⟩
        have:=hLb m hm;omega
       ·simp [heq]
        obtain ⟨u,m,hu,hm,hu1⟩:=hR.idx (k:=ka) (by omega)
        have hmb:=hLb m (xmG hm)
        obtain ⟨S',q1,q2,q3,q4⟩:=(hR.new (.row 1 [[.int .i64 rb]])).app (a:=rb) hu hm (by simp [room];omega)
        have hob:=q3 0 (by omega)
        have hob1:=q3 1 (by omega)
        have hS1:=hR.obj
        have hn1:=hR.le
        simp [show ¬ 0=S.next by omega,hro] at hob
        simp [show ¬ 1=S.next by omega,hS1] at hob1
        have hkae:ka < es.length:=by rw [hR.len];omega
        refine Dra.autoR ⟨1,fun o=>if o=0 then S.obj 0 else none⟩ (fun q x h=>?_) [] [4] mix ?_ ?_
        ·simp only at h
         split at h
         ·rename_i e;rw [e];exact h
         ·cases h
        ·kernel_rfl
        simp [classes,h5,h10,h11,xAd hlt,xAd hbn,xAd hka,hro,hra,hrb,hS1,hu,intc,KDx]
        have hsub:∀S'':St,S''.obj 0=some (.row 1 (els intc r))→Sub ⟨1,fun o=>if o=0 then some (.row 1 (els intc r)) else none⟩ S'':=by
         intro S'' h q x hq
         simp only at hq
         split at hq
         ·rename_i e;rw [e,h];exact hq
         ·cases hq
        simp [q1,hob1,hu,h52,h43,h44,h45,h50,h51,e5]
        refine ⟨hsub _ hob,k + 1,by omega,by omega,by omega,hob,_,_,q4,by simp [hLl],fun m' hm'=>?_⟩
        rcases yAP hm' with h | rfl
        ·have:=hLb m' h;omega
        ·simp;omega
      ·have:k=l.length:=by omega
       subst this
       simp [h51,h52,h5,h10,h43,h44,h45,e4]
       refine ⟨a + 1,by omega,by omega,by omega,hro,es,L,hR,hLl,fun m hm=>?_⟩
       have:=hLb m hm;omega
     ·simp [h5,h10,h43,h44,h45]
      exact ⟨hro,es,L,hR,hLl,hLb⟩
    ·simp [h44,h45,hlt,h10]
     have hp1:=hR.pict (m:=6)
     rw [hLl] at hp1
     have hLs:∀l ∈ L,l.length < 1048576:=fun l h=>by have:=hLb l h;omega
     refine (xAD (xHN L) (by omega) (fun l h=>by have:=hLs l h;omega)).use (n:=9) (by simp only [mapOpt,hp1]) rfl ?_
     simp [h5]
     refine ⟨_,⟨L,r,rfl,by omega,hLs,hr,fun x hx=>by have:=hrx x hx;omega⟩,3,?_⟩
     have hp2:=xBJ (m:=0) hro
     rw [hr] at hp2
     have hp3:pict S [] 2 (encG (cleanG L))=some (encG (cleanG L)):=xAc rfl
     rw [xGN]
     simp only [mapOpt,hp2,hp3];rfl
   ·simp
    exact ⟨h5,by simp [hn,hro],_,List.replicate Ps.length [],hR0,by simp,fun m hm=>(yAc.1 hm).2⟩
 ·simp
  refine ⟨_,by simp,rfl,fun x hx=>?_⟩
  have hx':=yAc.1 hx
  rw [hx'.2]
  have:=hPs.some (by omega)
  have:=List.length_pos_iff.2 this
  omega
theorem xKo {v:AV} {G:List (List Int)} (hv:GrV v G) (hG:G.length≤128) (hl:∀l ∈ G,l.length < 8000):RetE P g false 173 [v] (fun y=>∃ o:List Int,y=.fsl 1 (els intc o)∧o.length=G.length):=by
 refine RetE.in c173 (by simp) ?_
 have hroom:G.length≤room:=by simp [room];omega
 simp [k173]
 refine (xKn hv hG hl).use (n:=9) (by simp [xAc hv.stab]) (by simp [solids,hv.solid]) ?_
 rintro _ ⟨L,r,rfl,hS⟩
 simp
 have hLl:(cleanG L).length=L.length:=by simp [cleanG]
 have h1:=hS.len
 refine (xNI (xCj (cleanG L)) (by omega) ?_).use (n:=9) ?_ ?_ ?_
 ·intro l h
  rw [hLl]
  simp only [cleanG,yAU] at h
  obtain ⟨m,hm,rfl⟩:=h
  exact ⟨yBM (xAS _ _) (hS.short m hm),fun x hx=>(xAp.1 hx).2⟩
 ·simp [encG]
 ·simp [solids,encG]
 rintro y ⟨q,rfl,hq⟩
 have hrl:=hS.rlen
 have hrf:FSl intc 1 (.fsl 1 (els intc r)) r:=FSl.mk
 have hqf:FSl intc 1 (.fsl 1 (els intc q)) q:=FSl.mk
 have e0:∀n:Nat,List.replicate n [AV.int IntKind.i64 0]=els intc (List.replicate n 0):=fun n=>xAh (e:=intc)
 simp [hv.len,hroom,e0]
 refine W.whileI (fun (a:Nat) F S=>a≤r.length∧F 5=.fsl 1 (els intc q)∧F 6=.sl 1 0 0 G.length∧F 19=.fsl 1 (els intc r)∧F 20=.int .i64 r.length∧F 21=.int .i64 a∧∃ o:List Int,o.length=G.length∧S.obj 0=some (.row 1 (els intc o))) (fun a=>r.length - a) ?_ 0 _ _ ?_
 ·rintro a F S ⟨ha,h5,h6,h19,h20,h21,o,ho,hob⟩
  by_cases hlt:a < r.length
  ·obtain ⟨x,hx⟩:∃ x,r[a]?=some x:=⟨_,xgG hlt⟩
   obtain ⟨hx0,hxn⟩:=hS.rng x (xmG hx)
   obtain ⟨b,rfl⟩:∃ b:Nat,x=(b:Int):=⟨x.toNat,by omega⟩
   obtain ⟨y,hy⟩:∃ y,q[b]?=some y:=⟨_,xgG (by omega)⟩
   obtain ⟨u,hu⟩:∃ u,o[a]?=some u:=⟨_,xgG (by omega)⟩
   have e4:=wrapS a (by omega)
   have hag:a < G.length:=by omega
   simp [h20,h21,hlt]
   simp [h19,h21,hrf.idx hx,intc,h5,hqf.idx hy,h6,xAd hag,hob,hu,h20,e4]
   refine ⟨a + 1,by omega,by omega,by omega,o.set a y,by simp [ho],?_⟩
   rw [← xAg];rfl
  ·simp [h20,h21,hlt,h6]
   refine ⟨_,⟨o,rfl,ho⟩,2,?_⟩
   rw [← ho]
   exact xBJ hob
 ·simp
  exact ⟨_,by simp,rfl⟩
theorem xGy {v:AV} {G:List (List Int)} (hv:GrV v G) (hG:G.length≤128) (hl:∀l ∈ G,l.length < 8000) (hR:RetE P g false 173 [v] (fun y=>∃ o:List Int,y=.fsl 1 (els intc o)∧o.length=G.length)) (a0:Nat):RetE P g false 120 [v,.int .i64 (a0:Int)] (fun y=>∃ o:List Nat,y=.fsl 1 (els natc o)∧o.Perm (List.range G.length)):=by
 refine RetE.in c120 (by simp) ?_
 have hroom:G.length≤room:=by simp [room];omega
 simp [k120]
 refine hR.use (n:=9) (by simp [xAc hv.stab]) (by simp [solids,hv.solid]) ?_
 rintro _ ⟨rk,rfl,hrk⟩
 simp
 refine (xF0 hv (by omega) (fun l h=>by have:=hl l h;omega) a0).use (n:=9) (by simp [xAc hv.stab]) (by simp [solids,hv.solid,AV.solid]) ?_
 rintro ov ⟨ol,hov,hol⟩
 simp [hv.len]
 refine (xFZ hov (by omega) G.length (by omega)).use (n:=9) (by simp [xAc hov.stab]) (by simp [solids,hov.solid,AV.solid]) ?_
 rintro _ ⟨at',rfl,hat⟩
 have hrf:FSl intc 1 (.fsl 1 (els intc rk)) rk:=FSl.mk
 have haf:FSl intc 1 (.fsl 1 (els intc at')) at':=FSl.mk
 simp [hv.len,hroom]
 refine W.whileI (fun (a:Nat) F S=>a≤at'.length∧F 0=v∧F 5=.fsl 1 (els intc rk)∧F 7=.ptr 1 0 0∧F 8=.sl 1 2 0 G.length∧F 25=.fsl 1 (els intc at')∧F 26=.int .i64 at'.length∧F 27=.int .i64 a∧3≤S.next∧S.obj 1=some (.row 1 [[.sl 2 0 0 G.length]]) ∧
  (∃ ks:List (Int × Int),ks.length=G.length∧S.obj 0=some (.row 2 (els keyc ks)))∧∃ o:List Nat,o.length=G.length∧o.take a=List.range a∧S.obj 2=some (.row 1 (els natc o))) (fun a=>at'.length - a) ?_ 0 _ _ ?_
 ·rintro a F S ⟨ha,h0,h5,h7,h8,h25,h26,h27,hsn,hb,⟨ks,hkl,hks⟩,o,hol,hot,hob⟩
  by_cases hlt:a < at'.length
  ·obtain ⟨x,hx⟩:∃ x,at'[a]?=some x:=⟨_,xgG hlt⟩
   have e4:=wrapS a (by omega)
   have hag:a < G.length:=by omega
   obtain ⟨rx,hrx⟩:∃ y,rk[a]?=some y:=⟨_,xgG (by omega)⟩
   obtain ⟨u,hu⟩:∃ u,o[a]?=some u:=⟨_,xgG (by omega)⟩
   obtain ⟨kx,hkx⟩:∃ u,ks[a]?=some u:=⟨_,xgG (by omega)⟩
   simp [h26,h27,hlt]
   simp [h25,h27,haf.idx hx,intc]
   have hsub0:Sub ⟨2,fun o=>if o=1 then S.obj 1 else none⟩ S:=by
    intro q x hq
    simp only at hq
    split at hq
    ·rename_i e;rw [e];exact hq
    ·cases hq
   have hsub:∀S'':St,S''.obj 1=some (.row 1 [[.sl 2 0 0 G.length]])→Sub ⟨2,fun o=>if o=1 then some (.row 1 [[.sl 2 0 0 G.length]]) else none⟩ S'':=by
    intro S'' h q x hq
    simp only at hq
    split at hq
    ·rename_i e;rw [e,h];exact hq
    ·cases hq
   have fin:∀z:Int,∃ a':Nat,at'.length - a' < at'.length - a∧a'≤at'.length∧(a:Int) + 1=(a':Int)∧(∃ ks':List (Int × Int),ks'.length=G.length∧(els keyc ks).set a [AV.int .i64 rx,.int .i64 z]=els keyc ks')∧∃ o':List Nat,o'.length=G.length∧o'.take a'=List.range a'∧(els natc o).set a [AV.int .i64 (a:Int)]=els natc o':=by
    intro z
    refine ⟨a + 1,by omega,by omega,by omega,⟨ks.set a (rx,z),by simp [hkl],by rw [← xAg];rfl⟩,o.set a a,by simp [hol],?_,by rw [← xAg];rfl⟩
    rw [xAn (by omega),hot,yAo]
   by_cases hx1:x=-1
   ·simp [hx1,h0,hv.len]
    refine Dra.autoR ⟨2,fun o=>if o=1 then S.obj 1 else none⟩ hsub0 [] [2] mix ?_ ?_
    ·kernel_rfl
    simp [classes,h5,h7,h8,hb,hks,hob,xAd hag,hrf.idx hrx,hkx,hu,intc,natc,keyc,h0,h25,h26,h27,e4,hsn,KDx]
    exact ⟨hsub _ (by simp [hb]),fin _⟩
   ·simp [hx1]
    refine Dra.autoR ⟨2,fun o=>if o=1 then S.obj 1 else none⟩ hsub0 [] [2] mix ?_ ?_
    ·kernel_rfl
    simp [classes,h5,h7,h8,hb,hks,hob,xAd hag,hrf.idx hrx,hkx,hu,intc,natc,keyc,h0,h25,h26,h27,e4,hsn,KDx]
    exact ⟨hsub _ (by simp [hb]),fin _⟩
  ·have:a=G.length:=by omega
   subst this
   simp [h26,h27,hlt,h8,h7]
   have hoR:o=List.range G.length:=by rw [← hot,yAI (by omega)]
   subst hoR
   have hC:Cmp g (fun k:Nat=>AV.int .i64 (k:Int)) 177 [AV.ptr 1 0 0] (List.range G.length) 2 S (fun a b=>cmpKey (ks.getD a (0,0)) (ks.getD b (0,0))):=by
    refine ⟨fun _=>rfl,by omega,by simp;omega,fun a ha b hb' l' S' hs=>?_⟩
    have ha:=yAg.1 ha
    have hb':=yAg.1 hb'
    obtain ⟨ka,hka⟩:∃ u,ks[a]?=some u:=⟨_,xgG (by omega)⟩
    obtain ⟨kb,hkb⟩:∃ u,ks[b]?=some u:=⟨_,xgG (by omega)⟩
    have o1:=hs.1.2 1 (by omega) (by omega)
    have o0:=hs.1.2 0 (by omega) (by omega)
    refine xDu (kb:=1) (ko:=0) (ks:=ks) (by rw [o1,hb,← hkl]) (by rw [o0,hks]) hka hkb ⟨?_,rfl⟩
    simp [yAA,hka,hkb]
   have hlen:(List.range G.length).length=G.length:=by simp
   rw [← hlen]
   refine xN6 famI hC hob fun l' S' hl' hs'=>?_
   simp [h8]
   refine ⟨_,⟨l',rfl,by simpa using hl'⟩,2,?_⟩
   have hll:l'.length=G.length:=by rw [hl'.length_eq];simp
   rw [← hll,xEA]
   have:=xBJ (m:=0) (o:=2) (l:=l'.map fun k:Nat=>(k:Int)) (S:=S') (by rw [hs'.2,← xEA];rfl)
   simpa using this
 ·simp
  exact ⟨⟨List.replicate G.length (0,0),by simp,by simp [els,keyc]⟩,List.replicate G.length 0,by simp,by simp [els,natc]⟩
theorem xFf {v:AV} {G:List (List Int)} (hv:GrV v G) (hG:G.length≤128) (hl:∀l ∈ G,l.length < 8000) (a0:Nat):RetE P g false 120 [v,.int .i64 (a0:Int)] (fun y=>∃ o:List Nat,y=.fsl 1 (els natc o)∧o.Perm (List.range G.length)) :=
 xGy hv hG hl (xKo hv hG hl) a0
end Go.Proofs.YtnhfofmhkfdpgaaGreatDoor.Vm
namespace Go.Proofs.YtnhfofmhkfdpgaaGreatDoor.Vm
open Go Go.RowKit
variable {N:Nat} {g:Glob}
theorem xDH:∀(l out:List Int),l.Pairwise (·≤·)→out.Pairwise (· < ·)→(∀y ∈ out,∀x ∈ l,y≤x)→(l.foldl addNew out).Pairwise (· < ·)
 | [],out,_,h,_=>h
 | x :: l,out,hl,ho,hb=>by
  rw [yAe]
  rw [List.pairwise_cons] at hl
  by_cases he:out.getLast?=some x
  ·rw [addNew,if_pos he]
   exact xDH l out hl.2 ho fun y hy z hz=>hb y hy z (by simp [hz])
  ·rw [addNew,if_neg he]
   refine xDH l _ hl.2 ?_ fun y hy z hz=>?_
   ·rw [List.pairwise_append]
    refine ⟨ho,by simp,fun y hy z hz=>?_⟩
    rw [yAO] at hz
    subst hz
    have h1:=hb y hy z (by simp)
    rcases Int.lt_or_eq_of_le h1 with h | h
    ·exact h
    ·subst h
     exfalso
     apply he
     obtain ⟨k,hk⟩:=yBE hy
     obtain ⟨hk1,hk2⟩:=xgS hk
     rw [List.getLast?_eq_getElem?]
     by_cases hkl:k=out.length - 1
     ·rw [← hkl];exact hk
     ·have h3:out[out.length - 1]'(by omega) ∈ out:=yAi _
      have h4:=hb _ h3 y (by simp)
      have h5:=List.pairwise_iff_getElem.1 ho k (out.length - 1) hk1 (by omega) (by omega)
      omega
   ·rw [yAQ,yAO] at hy
    rcases hy with hy | rfl
    ·exact hb y hy z (by simp [hz])
    ·exact hl.1 z hz
theorem xN7 (n:Nat) (l:List Int):(cleanL n l).Pairwise (· < ·):=by
 refine xDH _ [] ?_ List.Pairwise.nil fun y hy=>by simp at hy
 have hp:(sorted (l.filter (inGr n))).Pairwise fun x y=>decide (x≤y)=true:=List.pairwise_mergeSort (fun a b c h1 h2=>by simp at *;omega) (fun a b=>by simp;omega) _
 exact hp.imp fun h=>by simpa using h
theorem xKp {l:List Int} (h:l.Pairwise (· < ·)) {k:Nat} {x:Int} (hx:l[k]?=some x):¬ x ∈ l.take k:=by
 intro hm
 obtain ⟨i,hi⟩:=yBE hm
 rw [yBO] at hi
 split at hi
 ·rename_i hik
  obtain ⟨h1,h2⟩:=xgS hi
  obtain ⟨h3,h4⟩:=xgS hx
  have:=List.pairwise_iff_getElem.1 h i k h1 h3 hik
  omega
 ·cases hi
structure TurnedN (C L:List (List Int)):Prop where
 len:L.length=C.length
 sub:∀l ∈ L,∀x ∈ l,0≤x∧x < C.length
 short:∀l ∈ L,l.length≤C.length
 all:∀(a b:Nat) (l:List Int),C[a]?=some l→(b:Int) ∈ l→∃ m,L[b]?=some m∧(a:Int) ∈ m
theorem xKq {v:AV} {G:List (List Int)} (hv:GrV v G) (hG:G.length≤128) (hl:∀l ∈ G,l.length < 2 ^ 30):RetE P g true 118 [v] (fun y=>∃ L:List (List Int),y=.fsl 1 (els (fun l=>[encF intc 1 l]) L)∧TurnedN (cleanG G) L):=by
 refine RetE.inP c118 (by simp) ?_
 have hroom:G.length≤room:=by simp [room];omega
 simp [k118,hv.len,hroom]
 refine (xAD hv (by omega) (fun l h=>by have:=hl l h;omega)).use (n:=9) ?_ rfl ?_ <;> simp [xAc hv.stab,hv.cells]
 have hcv:=xCj (cleanG G)
 have hCl:(cleanG G).length=G.length:=by simp [cleanG]
 have hCm:∀l ∈ cleanG G,l.length < 2 ^ 30∧l.Pairwise (· < ·)∧∀x ∈ l,0≤x∧x < (cleanG G).length:=by
  intro l h
  rw [hCl]
  simp only [cleanG,yAU] at h
  obtain ⟨m,hm,rfl⟩:=h
  exact ⟨yBM (xAS _ _) (hl m hm),xN7 _ _,fun x hx=>(xAp.1 hx).2⟩
 generalize cleanG G=C at *
 generalize encG C=cv at *
 simp [hcv.len]
 have hC64:C.length≤128:=by omega
 rw [← hCl]
 refine W.whileI (fun (a:Nat) F S=>a≤C.length∧F 3=.sl 1 0 0 C.length∧F 12=cv∧F 13=.int .i64 C.length∧F 14=.int .i64 a ∧
  ∃ es L,RowsV 1 S 0 es L∧L.length=C.length∧(∀m ∈ L,m.length≤a)∧(∀m ∈ L,∀x ∈ m,0≤x∧x < C.length)∧∀(a' b:Nat) (l:List Int),a' < a→C[a']?=some l→(b:Int) ∈ l→∃ m,L[b]?=some m∧(a':Int) ∈ m) (fun a=>C.length - a) ?_ 0 _ _ ?_
 ·rintro a F S ⟨ha,h3,h12,h13,h14,es,L,hR,hLl,hLb,hLx,hLa⟩
  by_cases hlt:a < C.length
  ·obtain ⟨l,hx⟩:∃ l,C[a]?=some l:=⟨_,xgG hlt⟩
   obtain ⟨w,hw,hix⟩:=hcv.idx hx
   obtain ⟨hll,hup,hlx⟩:=hCm l (xmG hx)
   have e4:=wrapS a (by omega)
   simp [h13,h14,hlt]
   simp [h12,h14,hix,hw.len]
   refine W.whileI (fun (k:Nat) F S=>k≤l.length∧F 3=.sl 1 0 0 C.length∧F 4=.int .i64 a∧F 12=cv∧F 13=.int .i64 C.length∧F 14=.int .i64 a∧F 19=w∧F 20=.int .i64 l.length∧F 21=.int .i64 k ∧
    ∃ es L,RowsV 1 S 0 es L∧L.length=C.length∧(∀(b:Nat) m,L[b]?=some m→m.length≤a + if (b:Int) ∈ l.take k then 1 else 0)∧(∀m ∈ L,∀x ∈ m,0≤x∧x < C.length)∧(∀(a' b:Nat) (l:List Int),a' < a→C[a']?=some l→(b:Int) ∈ l→∃ m,L[b]?=some m∧(a':Int) ∈ m) ∧
     ∀b:Nat,(b:Int) ∈ l.take k→∃ m,L[b]?=some m∧(a:Int) ∈ m) (fun k=>l.length - k) ?_ 0 _ _ ?_
   ·rintro k F S ⟨hk,h3,h4,h12,h13,h14,h19,h20,h21,es,L,hR,hLl,hLb,hLx,hLa,hLk⟩
    by_cases hlk:k < l.length
    ·obtain ⟨x,hxk⟩:∃ x,l[k]?=some x:=⟨_,xgG hlk⟩
     have e5:=wrapS k (by omega)
     obtain ⟨hx0,hxn⟩:=hlx x (xmG hxk)
     obtain ⟨b,rfl⟩:∃ b:Nat,x=(b:Int):=⟨x.toNat,by omega⟩
     have hbn:b < C.length:=by omega
     obtain ⟨u,m,hu,hm,hu1⟩:=hR.idx (k:=b) (by omega)
     have hnin:¬ (b:Int) ∈ l.take k:=xKp hup hxk
     have hmb:=hLb b m hm
     rw [if_neg hnin] at hmb
     obtain ⟨S',q1,q2,q3,q4⟩:=(hR.new (.row 1 [[.int .i64 (a:Int)]])).app (a:=(a:Int)) hu hm (by simp [room];omega)
     have hob:=q3 0 (by omega)
     have hS0:=hR.obj
     have hn1:=hR.le
     simp [show ¬ 0=S.next by omega,hS0] at hob
     simp [h20,h21,hlk]
     simp [h19,h21,hw.idx hxk,intc,h3,h4,xAd hbn,hS0,hu]
     have hbe:b < es.length:=by rw [hR.len];omega
     obtain ⟨t1,t2,t3⟩:=Turned.grow (x:=(a:Int)) (B:=a + 1) hm
     simp [q1,hob,hu,h12,h13,h14,e5]
     refine ⟨k + 1,by omega,by omega,by omega,_,_,q4,by simp [hLl],fun b' m' hm'=>?_,?_,?_,?_⟩
     ·by_cases hbb:b'=b
      ·subst hbb
       rw [yAF (xgS hm).1] at hm'
       cases hm'
       rw [xAe hxk,if_pos (by simp)]
       simp;omega
      ·rw [yAH (Ne.symm hbb)] at hm'
       have h8:=hLb b' m' hm'
       have e:((b':Int) ∈ l.take (k + 1))=((b':Int) ∈ l.take k):=by
        rw [xAe hxk]
        simp
        omega
       simp only [e]
       exact h8
     ·intro m' hm' y hy
      rcases (t3 m' hm').1 y hy with rfl | ⟨l0,h0,hy0⟩
      ·omega
      ·exact hLx l0 h0 y hy0
     ·intro a' b' l' ha' hl' hb'
      obtain ⟨m1,c1,c2⟩:=hLa a' b' l' ha' hl' hb'
      obtain ⟨m2,c3,c4⟩:=t1 b' m1 c1
      exact ⟨m2,c3,c4 _ c2⟩
     ·intro b' hb'
      rw [xAe hxk,yAQ,yAO] at hb'
      rcases hb' with hb' | hb'
      ·obtain ⟨m1,c1,c2⟩:=hLk b' hb'
       obtain ⟨m2,c3,c4⟩:=t1 b' m1 c1
       exact ⟨m2,c3,c4 _ c2⟩
      ·have:b'=b:=by omega
       subst this
       exact t2
    ·have:k=l.length:=by omega
     subst this
     simp [h20,h21,h3,h12,h13,h14,e4]
     refine ⟨a + 1,by omega,by omega,by omega,es,L,hR,hLl,fun m hm=>?_,hLx,?_⟩
     ·obtain ⟨b,hb⟩:=yBE hm
      have:=hLb b m hb
      split at this <;> omega
     ·intro a' b' l' ha' hl' hb'
      by_cases haa:a'=a
      ·subst haa
       rw [hx] at hl';cases hl'
       exact hLk b' (by rw [yAV];exact hb')
      ·exact hLa a' b' l' (by omega) hl' hb'
   ·simp [h3,h12,h13,h14]
    exact ⟨es,L,hR,hLl,fun b m hm=>hLb m (xmG hm),hLx,hLa⟩
  ·have:a=C.length:=by omega
   subst this
   simp [h13,h14,h3]
   refine ⟨rfl,_,⟨L,rfl,hLl,fun l h x hx=>hLx l h x hx,hLb,fun a b l ha hb=>hLa a b l ((xgS ha).1) ha hb⟩,3,?_⟩
   have:=hR.news.pict (m:=0)
   rw [hLl] at this
   exact this
 ·simp
  refine ⟨_,List.replicate C.length [],RowsV.start (S:=St.empty) (by simp) C.length,by simp,fun m hm=>by rw [(yAc.1 hm).2],fun m hm x hx=>?_⟩
  rw [(yAc.1 hm).2] at hx
  simp at hx
end Go.Proofs.YtnhfofmhkfdpgaaGreatDoor.Vm
