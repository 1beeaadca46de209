/- A part of the proof: Os Aa Ad Sd Ca Cb. -/
import Derived.Test.YtnhfofmhkfdpgaaGreatDoorQ27
set_option linter.unusedVariables false
set_option linter.unusedSimpArgs false
set_option linter.constructorNameAsVariable false
namespace Go.Proofs.YtnhfofmhkfdpgaaGreatDoor.Vm
open Go Go.RowKit
set_option maxRecDepth 100000
variable {N:Nat} {g:Glob}
set_option maxRecDepth 100000
section
variable {α:Type} {E:El α} {Y:Sys α}
theorem xEH {o ib B:Nat} {x:List α} {ord:List Nat} {S0 S:St} {Wp A I H ho:Nat} {ov:AV} {h:List Nat} {K:AV→St→Prop} (hl:Y.n≤100) (hw:Wo Y.n ord S Wp A I H ho ov h) (hA:B≤A) (hI:B≤I) (hH:B≤H) (hh:B≤ho) (hm:Y.Mid x (fun j=>todo ord h j))
  (row:S.obj o=some (.row 2 (els E.e x))) (inn:S.obj ib=some (.row 1 (els boolc (List.replicate Y.n true)))) (lt:o < ib∧ib < B∧B≤S.next∧B≤Wp) (keep:∀q,q < ib→q ≠ o→S.obj q=S0.obj q)
  (hk:∀S' h' t (c:Int),GRun Y E o ib B x h' t S0 S' Wp→(∀i:Nat,t=some i→c=(i:Int))→h'.length + (if t.isSome then 1 else 0)≤h.length→K (.tuple [.int .i64 c,.bool t.isSome]) S'):Cal P g 122 [.ptr Wp 0 0] S K:=by
 refine xF1 hw (by omega) (fun h0=>?_) fun S' h' i k1 k2 k3 k4 k5 k6=>?_
 ·subst h0
  have hnt:∀j,¬ todo ord [] j:=fun j ⟨k,h,_⟩=>by simp at h
  refine hk S [] none 0 ⟨⟨ord,A,I,H,ho,ov,hw,hA,hI,hH,hh,?_,fun _=>hnt⟩,(fun i h=>by cases h),row,inn,lt,keep⟩ (fun i h=>by cases h) (by simp)
  have e:(fun j=>todo ord [] j ∨ (none:Option Nat)=some j)=fun j=>todo ord [] j:=by funext j;simp
  rw [e];exact hm
 ·have hq:∀q,q < B→S'.obj q=S.obj q:=fun q hq=>k5.2 q (by omega) (by omega) (by omega) (by omega)
  refine hk S' h' (some i) i ⟨⟨ord,A,I,H,ho,ov,k1,hA,hI,hH,hh,?_,(fun h=>by cases h)⟩,(fun j h=>by cases h;exact k2),by rw [hq o (by omega)];exact row,by rw [hq ib (by omega)];exact inn,⟨lt.1,lt.2.1,by have:=k5.1;omega,lt.2.2.2⟩,fun q h1 h2=>by rw [hq q (by omega)];exact keep q h1 h2⟩ (fun j h=>by cases h;rfl) (by simp;omega)
  have e:(fun j=>todo ord h' j ∨ some i=some j)=fun j=>todo ord h j:=by
   funext j
   simp only [k4,xoI,eq_iff_iff]
   constructor
   ·rintro (h | rfl)
    ·exact h.1
    ·exact k3
   ·intro h
    by_cases hj:i=j
    ·exact .inr hj
    ·exact .inl ⟨h,fun e=>hj e.symm⟩
  rw [e];exact hm
theorem solver_RunGN {f fs:Nat} {z:AV} {evV rv gv:AV} {G:List (List Int)} {o:Nat} {S:St} {K:AV→St→Prop} (hc:Fun' P f 111 [.tmp 10] (runCode z)) (hl:Y.n≤100) (hrl:lenV rv=some Y.n) (hrp:pict S [] 9 rv=some gv) (hgr:GrV gv G) (hG:G.length=Y.n)
  (hout:∀m ∈ G,m.length < 2 ^ 30∧∀j ∈ m,0≤j∧j < Y.n) (hrd:∀(k:Nat) (m:List Int),G[k]?=some m→Y.rd k=m) (hE:GEv g Y E evV fs o S) (ho:S.obj o=some (.row 2 (els E.e (List.replicate Y.n Y.bot)))) (hos:o < S.next) {allv:AV} (hal:lenV allv=some Y.n) (hai:∀S',Up S S'→∀a:Nat,a < Y.n→∃ pt,pk (.indexAddr 1) [allv,.int .i64 (a:Int)]=some pt∧sk (.load false 1) [pt] S'=some (.int .i64 (a:Int),S'))
  (hk:∀S',S'.obj o=some (.row 2 (els E.e Y.sol))→S.next≤S'.next→(∀q,q < S.next→q ≠ o→S'.obj q=S.obj q)→K (.anyi .i64) S') :
  Cal P g f [rv,allv,.sl 2 o 0 Y.n,evV,.func (.func fs) [] []] S K:=by
 refine Cal.post ?_
 have hroom:Y.n≤room:=by simp [room];omega
 refine hc.in (by simp) ?_
 simp [runCode]
 refine (xKq hgr (by omega) (fun m hm=>(hout m hm).1)).use (n:=9) (by simp [mapOpt,hrp]) (by simp) ?_
 rintro _ ⟨L,rfl,hT⟩
 have hLl:L.length=Y.n:=by rw [hT.len];simp [cleanG,hG]
 have hLs:∀m ∈ L,m.length≤100∧∀x ∈ m,0≤x∧x < Y.n:=by
  intro m hm
  have h1:=hT.short m hm
  have h2:=hT.sub m hm
  simp [cleanG,hG] at h1 h2
  exact ⟨by omega,h2⟩
 have hTa:∀(i k:Nat) (c:List Int),G[k]?=some c→(i:Int) ∈ c→∃ m,L[i]?=some m∧(k:Int) ∈ m:=by
  intro i k c hc hi
  have h1:=(hout c (xmG hc)).2 _ hi
  refine hT.all k i (cleanL G.length c) ?_ ?_
  ·simp [cleanG,hc]
  ·rw [xAp]
   exact ⟨hi,by omega,by omega⟩
 clear hT
 simp [hrl,hroom,hal]
 have e1:∀n:Nat,List.replicate n [AV.bool false]=els boolc (List.replicate n false):=fun n=>xAh (e:=boolc)
 refine W.whileI (fun (a:Nat) F S'=>a≤Y.n∧F 0=rv∧F 2=.sl 2 o 0 Y.n∧F 3=evV∧F 4=.func (.func fs) [] []∧F 11=.fsl 1 (els (fun m=>[encF intc 1 m]) L)∧F 12=.sl 1 S.next 0 Y.n ∧
  F 29=allv∧F 30=.int .i64 Y.n∧F 31=.int .i64 a∧S'.next=S.next + 1∧Up S S'∧∃ m:List Bool,m.length=Y.n∧S'.obj S.next=some (.row 1 (els boolc m))∧m.take a=List.replicate a true) (fun a=>Y.n - a) ?_ 0 _ _ ?_
 ·rintro a F S' ⟨ha,h0,h2,h3,h4,h11,h12,h29,h30,h31,hn,hup,m,hm,hob,hmt⟩
  by_cases hlt:a < Y.n
  ·have e4:=wrapS a (by omega)
   obtain ⟨u,hu⟩:∃ u,m[a]?=some u:=⟨_,xgG (by omega)⟩
   obtain ⟨pt,hp1,hp2⟩:=hai S' hup a hlt
   simp [h30,h31,hlt]
   simp [h29,h31,hp1,hp2,h0,hrl,hlt]
   simp [h12,xAd hlt,hob,hu,boolc,h0,h2,h3,h4,h11,h29,h30,h31,e4]
   refine ⟨a + 1,by omega,by omega,by omega,hn,⟨by simpa using hup.1,fun q hq=>by simp [show ¬ q=S.next by omega];exact hup.2 q hq⟩,m.set a true,by simp [hm],by rw [← xAg];rfl,?_⟩
   rw [xAn (by omega),hmt,List.replicate_succ']
  ·have:a=Y.n:=by omega
   subst this
   have hmR:m=List.replicate Y.n true:=by rw [← hmt,yAI (by omega)]
   subst hmR
   simp [h30,h31,h11]
   refine (xFf (xHN L) (by omega) (fun m hm=>by have:=(hLs m hm).1;omega) 0).use (n:=9) (by simp) (by simp [solids,AV.solid]) ?_
   rintro _ ⟨ord,rfl,hord⟩
   rw [hLl] at hord
   simp
   refine xK5 rfl hord (by omega) fun S2 Wp A I H hh ov hw hup2 hids=>?_
   have hn2:=hup2.1
   have hob2:S2.obj S.next=some (.row 1 (els boolc (List.replicate Y.n true))):=by rw [hup2.2 _ (by omega)];exact hob
   have hro2:S2.obj o=some (.row 2 (els E.e (List.replicate Y.n Y.bot))):=by rw [hup2.2 o (by omega),hup.2 o hos];exact ho
   have hke2:∀q,q < S.next→q ≠ o→S2.obj q=S.obj q:=fun q h1 _=>by rw [hup2.2 q (by omega),hup.2 q h1]
   have hBh:S.next + 1≤Wp∧S.next + 1≤A∧S.next + 1≤I∧S.next + 1≤H∧S.next + 1≤hh:=by rw [hn] at hids;exact hids
   have hntd:∀j,¬ todo ord [] j:=fun j ⟨k,h,_⟩=>by simp at h
   simp [h12]
   refine W.whileI (fun (a:Nat) F S'=>a≤Y.n∧F 2=.sl 2 o 0 Y.n∧F 3=evV∧F 4=.func (.func fs) [] []∧F 11=.fsl 1 (els (fun m=>[encF intc 1 m]) L)∧F 12=.sl 1 S.next 0 Y.n∧F 15=.ptr Wp 0 0 ∧
    F 50=.sl 1 S.next 0 Y.n∧F 51=.int .i64 Y.n∧F 52=.int .i64 a∧GPut Y E o S.next (S.next + 1) (List.replicate Y.n Y.bot) ord Wp A I H ov (fun a j=>j < a) a S S') (fun a=>Y.n - a) ?_ 0 _ _ ?_
   ·rintro a F S3 ⟨ha,h2,h3,h4,h11,h12,h15,h50,h51,h52,ho3,h',hw3,hb3,ht3,hr3,hi3,hn3,hk3⟩
    by_cases hlt:a < Y.n
    ·have e4:=wrapS a (by omega)
     have hr:(List.replicate Y.n true)[a]?=some true:=by simp [hlt]
     simp [h51,h52,hlt]
     simp [h50,h52,xAd hlt,hi3,hr,boolc,h15]
     refine xFl hw3 hlt (by omega) fun S4 ho4 h4' b k1 k2 k3 k4 k5=>?_
     obtain ⟨m1,m2,m3,m4⟩:=xEb (o:=o) (ib:=S.next) (B:=S.next + 1) k3 k4 ⟨by omega,by omega,hn3⟩ hBh.2.2.1 hBh.2.2.2.1 hb3 hk3
     simp [h2,h3,h4,h11,h12,h15,h50,h51,h52,e4]
     refine ⟨a + 1,by omega,by omega,by omega,ho4,h4',k1,m3,fun j=>?_,by rw [m1];exact hr3,by rw [m2];exact hi3,by have:=k3.1;omega,m4⟩
     rw [k2,ht3];omega
    ·have:a=Y.n:=by omega
     subst this
     simp [h51,h52,hlt,h15]
     have hmid:Y.Mid (List.replicate Y.n Y.bot) (fun j=>todo ord h' j):=by
      have:=Sys.Mid.start (Y:=Y)
      have e:(fun i=>i < Y.n)=fun j=>todo ord h' j:=by funext j;exact propext (ht3 j).symm
      rwa [e] at this
     refine xEH (S0:=S) hl hw3 hBh.2.1 hBh.2.2.1 hBh.2.2.2.1 hb3 hmid hr3 hi3 ⟨hos,Nat.lt_succ_self _,hn3,hBh.1⟩ hk3 fun S4 h4' t c hR hc hlen=>?_
     simp
     refine W.whileI (fun (z:List α × List Nat × Option Nat) F S'=>F 2=.sl 2 o 0 Y.n∧F 3=evV∧F 4=.func (.func fs) [] []∧F 11=.fsl 1 (els (fun m=>[encF intc 1 m]) L)∧F 12=.sl 1 S.next 0 Y.n∧F 15=.ptr Wp 0 0 ∧
      (∃ c,F 18=.int .i64 c)∧(∃ c:Int,F 19=.int .i64 c∧∀i:Nat,z.2.2=some i→c=(i:Int))∧F 20=.bool z.2.2.isSome∧GRun Y E o S.next (S.next + 1) z.1 z.2.1 z.2.2 S S' Wp) (fun z=>Y.gap z.1 * 1000 + z.2.1.length + (if z.2.2.isSome then 1 else 0)) ?_ (List.replicate Y.n Y.bot,h4',t) _ _ ?_
     ·rintro ⟨x,h,t⟩ F S4 ⟨h2,h3,h4,h11,h12,h15,⟨c,h18⟩,⟨i',h19,hti⟩,h20,hR⟩
      simp only at hti h20 hR
      obtain ⟨⟨ord,A,I,H,ho',ov,hw,hA,hI,hH,hh,hm,htn⟩,hil,row,inn,hlt,keep⟩:=hR
      cases t with
      | none =>
       simp [h20]
       have e:x=Y.sol:=(hm.done fun j hj=>by rcases hj with hj | hj;exact htn rfl j hj;cases hj).sol
       subst e
       exact .inr ⟨.anyi .i64,.inl ⟨_,_,h18,rfl⟩,S4,Wk.refl S4,hk S4 row (by omega) keep⟩
      | some i =>
       have hin:=hil i rfl
       have:=hti i rfl
       subst this
       obtain ⟨s,hs,hso⟩:=hm.fit.at hin
       have hxl:=hm.fit.len
       have hto:=hm.fit.ev hin
       simp [h20,h18,h2,h19,xAd hin,row,hs,h3,El.e,E.o1,E.o2]
       generalize hS5:(S4.new (.row 2 [[z,.nilsl]])).set S4.next (.row 2 [[E.c1 s,E.c2 s]])=S5
       have hn5:S5.next=S4.next + 1:=by rw [← hS5];simp
       have hq5:∀p,p < S4.next→S5.obj p=S4.obj p:=fun p hp=>by rw [← hS5];simp [show ¬ p=S4.next by omega]
       have hb5:S5.obj S4.next=some (.row 2 [[E.c1 s,E.c2 s]]):=by rw [← hS5];simp
       clear hS5
       refine hE.ev S5 x i _ hm.fit hin (by omega) (by rw [hq5 o (by omega)];exact row) (fun q h1 h2=>by rw [hq5 q (by omega)];exact keep q h1 h2) fun S6 hup6=>?_
       have hn6:=hup6.1
       have hq6:∀p,p < S4.next→S6.obj p=S4.obj p:=fun p hp=>by rw [hup6.2 p (by omega),hq5 p hp]
       have hb6:S6.obj S4.next=some (.row 2 [[E.c1 s,E.c2 s]]):=by rw [hup6.2 _ (by omega)];exact hb5
       have hr6:S6.obj o=some (.row 2 (els E.e x)):=by rw [hq6 o (by omega)];exact row
       have hes:(els E.e x).set i [E.c1 (Y.ev x i),E.c2 (Y.ev x i)]=els E.e (x.set i (Y.ev x i)):=xAg (e:=E.e)
       simp [h2,h19,xAd hin,hr6,hs,El.e,E.o1,E.o2,hes]
       generalize hS7:S6.set o (.row 2 (els E.e (x.set i (Y.ev x i))))=S7
       have hn7:S7.next=S6.next:=by rw [← hS7];simp
       have hr7:S7.obj o=some (.row 2 (els E.e (x.set i (Y.ev x i)))):=by rw [← hS7];simp
       have hq7:∀p,p < S4.next→p ≠ o→S7.obj p=S4.obj p:=fun p hp hpo=>by rw [← hS7];simp [hpo,hq6 p hp]
       have hb7:S7.obj S4.next=some (.row 2 [[E.c1 s,E.c2 s]]):=by rw [← hS7];simp [show ¬ S4.next=o by omega,hb6]
       clear hS7
       have hw7:=hw.keep2 (S':=S7) row (by omega) fun p hp h=>hq7 p hp h
       have inn7:S7.obj S.next=some (.row 1 (els boolc (List.replicate Y.n true))):=by rw [hq7 S.next (by omega) (by omega)];exact inn
       have keep7:∀q,q < S.next→q ≠ o→S7.obj q=S.obj q:=fun q h1 h2=>by rw [hq7 q (by omega) h2];exact keep q h1 h2
       have hg7:(x.set i (Y.ev x i))[i]?=some (Y.ev x i):=yAF (by omega)
       obtain ⟨tt,htt,hsame⟩:=hE.same s (Y.ev x i) hso hto
       have p1:∀n a,pict S7 [] (n + 1) (E.c1 a)=some (E.c1 a):=fun n a=>xAc (E.s1 a)
       have p2:∀n a,pict S7 [] (n + 1) (E.c2 a)=some (E.c2 a):=fun n a=>xAc (E.s2 a)
       refine Dra.auto [] mix ?_ ?_
       ·kernel_rfl
       simp [classes,h4,h2,h19,hb7,xAd hin,hr7,hg7,El.e]
       refine hsame.b (n:=9) (by simp [mapOpt,p1,p2,El.e]) rfl ?_
       simp
       have hgap:s ≠ Y.ev x i→Y.gap (x.set i (Y.ev x i)) < Y.gap x:=fun hne=>Sys.gap_set hm.fit.ok hs hto (hm.pre i s hs) hne
       cases tt with
       | true =>
        have hse:s=Y.ev x i:=htt.1 rfl
        have hm2:Y.Mid (x.set i (Y.ev x i)) (fun j=>todo ord h j):=hm.step hs (fun k hk=>by
         by_cases hki:k=i
         ·exact .inl hki
         ·exact .inr fun hh=>by rcases hh with hh | hh;exact hk hh;cases hh;exact hki rfl) (fun hne=>absurd hse hne)
        have hgs:Y.gap (x.set i (Y.ev x i))=Y.gap x:=by rw [← hse,set_same hs]
        simp [h15]
        refine xEH (S0:=S) hl hw7 hA hI hH hh hm2 hr7 inn7 ⟨hlt.1,hlt.2.1,by omega,hlt.2.2.2⟩ keep7 fun S8 h8 t8 c8 hR8 hc8 hlen8=>?_
        simp [h2,h3,h4,h11,h12,h15]
        exact ⟨x.set i (Y.ev x i),h8,t8,by omega,hc8,rfl,hR8⟩
       | false =>
        have hse:s ≠ Y.ev x i:=fun h=>by cases htt.2 h
        have hgl:=hgap hse
        simp [h11,h19]
        obtain ⟨m,hmi⟩:∃ m,L[i]?=some m:=⟨_,xgG (by omega)⟩
        have hLm:=hLs m (xmG hmi)
        have hmf:FSl intc 1 (encF intc 1 m) m:=xAt
        have hrf:FSl (fun m=>[encF intc 1 m]) 1 (.fsl 1 (els (fun m=>[encF intc 1 m]) L)) L:=FSl.mk
        simp [hrf.idx hmi,hmf.len]
        refine W.whileI (fun (a:Nat) F S'=>a≤m.length∧F 2=.sl 2 o 0 Y.n∧F 3=evV∧F 4=.func (.func fs) [] []∧F 11=.fsl 1 (els (fun m=>[encF intc 1 m]) L)∧F 12=.sl 1 S.next 0 Y.n∧F 15=.ptr Wp 0 0 ∧
         (∃ c,F 18=.int .i64 c)∧F 96=encF intc 1 m∧F 97=.int .i64 m.length∧F 98=.int .i64 a∧GPut Y E o S.next (S.next + 1) (x.set i (Y.ev x i)) ord Wp A I H ov (fun a j=>todo ord h j ∨ (j:Int) ∈ m.take a) a S S') (fun a=>m.length - a) ?_ 0 _ _ ?_
        ·rintro a F S8 ⟨ha,h2,h3,h4,h11,h12,h15,⟨c,h18⟩,h96,h97,h98,ho8,h8,hw8,hb8,ht8,hr8,hi8,hn8,hk8⟩
         by_cases hlta:a < m.length
         ·have e4:=wrapS a (by omega)
          obtain ⟨r,hr⟩:∃ r,m[a]?=some r:=⟨_,xgG hlta⟩
          have hr0:=hLm.2 r (xmG hr)
          obtain ⟨r,rfl⟩:∃ k:Nat,r=(k:Int):=⟨r.toNat,by omega⟩
          have hrl:r < Y.n:=by omega
          have hrt:(List.replicate Y.n true)[r]?=some true:=by simp [hrl]
          simp [h97,h98,hlta]
          simp [h96,h98,hmf.idx hr,h12,xAd hrl,hi8,hrt,boolc,intc,h15]
          refine xFl hw8 hrl (by omega) fun S9 ho9 h9 b9 k1 k2 k3 k4 k5=>?_
          obtain ⟨m1,m2,m3,m4⟩:=xEb (o:=o) (ib:=S.next) (B:=S.next + 1) k3 k4 ⟨by omega,by omega,hn8⟩ hI hH hb8 hk8
          simp [h2,h3,h4,h11,h12,h15,h18,h96,h97,h98,e4]
          refine ⟨a + 1,by omega,by omega,by omega,ho9,h9,k1,m3,fun j=>?_,by rw [m1];exact hr8,by rw [m2];exact hi8,by have:=k3.1;omega,m4⟩
          show todo ord h9 j ↔ (todo ord h j ∨ (j:Int) ∈ m.take (a + 1))
          rw [k2,ht8]
          show (todo ord h j ∨ (j:Int) ∈ m.take a) ∨ j=r ↔ _
          rw [yBV,hr]
          have e:((j:Int)=(r:Int)) ↔ j=r:=by omega
          simp [or_assoc,e]
         ·have:a=m.length:=by omega
          subst this
          simp [h97,h98,hlta,h15]
          have hm2:Y.Mid (x.set i (Y.ev x i)) (fun j=>todo ord h8 j):=hm.step hs (fun k hk=>by
           by_cases hki:k=i
           ·exact .inl hki
           ·refine .inr fun hh=>?_
            rcases hh with hh | hh
            ·exact hk ((ht8 k).2 (.inl hh))
            ·cases hh;exact hki rfl) (fun hne k hkn hi=>by
             obtain ⟨c,hc⟩:∃ c,G[k]?=some c:=⟨_,xgG (by omega)⟩
             rw [hrd k c hc] at hi
             obtain ⟨m',q1,q2⟩:=hTa i k c hc hi
             rw [hmi] at q1;cases q1
             exact (ht8 k).2 (.inr (by simpa using q2)))
          have hl8:=hw8.hl
          refine xEH (S0:=S) hl hw8 hA hI hH hb8 hm2 hr8 hi8 ⟨hlt.1,hlt.2.1,hn8,hlt.2.2.2⟩ hk8 fun S9 h9 t9 c9 hR9 hc9 hlen9=>?_
          simp [h2,h3,h4,h11,h12,h15,h18]
          refine ⟨x.set i (Y.ev x i),h9,t9,?_,hc9,rfl,hR9⟩
          omega
        ·simp [h2,h3,h4,h11,h12,h15]
         exact ⟨ho',h,hw7,hh,fun j=>by simp,hr7,inn7,by omega,keep7⟩
     ·simp [h2,h3,h4,h11,h12,h15]
      exact ⟨hc,hR⟩
   ·simp [h2,h3,h4,h11,h12]
    exact ⟨hh,[],hw,hBh.2.2.2.2,fun j=>⟨fun h=>absurd h (hntd j),fun h=>absurd h (by omega)⟩,hro2,hob2,by omega,hke2⟩
 ·simp [e1]
  exact ⟨Up.new _ _,List.replicate Y.n false,by simp,rfl⟩
end
end Go.Proofs.YtnhfofmhkfdpgaaGreatDoor.Vm
namespace Go.Proofs.YtnhfofmhkfdpgaaGreatDoor.Vm
open Go Go.RowKit
set_option maxRecDepth 100000
variable {N:Nat} {g:Glob}
structure Flw where
 w:Nat
 rs:List (List Int)
 gen:List BSet
 kill:List BSet
variable {F:Flw}
end Go.Proofs.YtnhfofmhkfdpgaaGreatDoor.Vm
namespace Go.Proofs.YtnhfofmhkfdpgaaGreatDoor.Vm
open Go Go.RowKit
variable {N:Nat} {g:Glob}
open Classical in
noncomputable def Fun.ends (f:Fun):List BSet:=if h:f.dflow.OK then f.dflow.sol h else []
end Go.Proofs.YtnhfofmhkfdpgaaGreatDoor.Vm
namespace Go.Proofs.YtnhfofmhkfdpgaaGreatDoor.Vm
open Go Go.RowKit
variable {N:Nat} {g:Glob}
theorem xOe {n:Nat} {h:Int→Env} (hh:∀j,(h j).fit n) (m:List Int):∀{e:Env},e.fit n→e.le (m.foldl (fun e j=>e.join (h j)) e)∧∀j ∈ m,(h j).le (m.foldl (fun e j=>e.join (h j)) e):=by
 induction m with
 | nil=>intro e he;exact ⟨Env.le_refl e,fun j hj=>by cases hj⟩
 | cons j m ih =>
  intro e he
  have hj:=Env.join_fit he (hh j)
  obtain ⟨h1,h2⟩:=ih hj
  have hf:=xK9 hh m hj
  refine ⟨Env.le_trans hj hf (Env.le_join_l he (hh j)) h1 he,fun k hk=>?_⟩
  rcases yAS.1 hk with rfl | hk
  ·exact Env.le_trans hj hf (Env.le_join_r he (hh k)) h1 (hh k)
  ·exact h2 k hk
theorem pred_le {f:Fun} {b j:Nat} {B:Blk} (hB:f.blks[b]?=some B) (hj:(j:Int) ∈ B.out) (hjl:j < f.blks.length):(f.cat b B.ins.length).le (f.cin.getD j Option.none):=by
 rw [xKi hjl,xKj hB]
 have hm:(b:Int) ∈ f.preds j:=Fun.preds_mem.2 ⟨b,B,rfl,hB,hj⟩
 have:=(xOe (n:=f.wid) (h:=fun j=>pastL (f.cin.getD j.toNat Option.none) (f.code j.toNat)) (fun j=>xB4 (f.cin_fit _)) (f.preds j) (f.cev_first j)).2 _ hm
 exact this
theorem start_le {f:Fun} (h:0 < f.blks.length):f.start.le (f.cin.getD 0 Option.none):=by
 rw [xKi h]
 have:=(xOe (n:=f.wid) (h:=fun j=>pastL (f.cin.getD j.toNat Option.none) (f.code j.toNat)) (fun j=>xB4 (f.cin_fit _)) (f.preds (0:Nat)) (f.cev_first 0)).1
 exact this
theorem xLc {v:Int}:∀(l out:List Int),v ∈ out ∨ v ∈ l→v ∈ l.foldl addOnce out
 | [],out,h=>by simpa using h
 | x :: l,out,h=>by
  refine xLc l (addOnce out x) ?_
  rcases h with h | h
  ·left;unfold addOnce;split
   ·exact h
   ·exact List.mem_append_left _ h
  ·rcases yAS.1 h with rfl | h
   ·left;unfold addOnce;split
    ·assumption
    ·simp
   ·exact .inr h
theorem ins_ab {p:Prg} {f:Fun} {x:Ins} (hok:FunOK p f) (h:p.insOK f x=true):(-2147483648≤x.c∧x.c≤2147483647)∧(x.def < 0 ∨ (0≤x.def∧x.def < (f.wid:Int)∧0≤x.a∧x.a < (f.wid:Int)∧0≤x.b∧x.b < (f.wid:Int))):=by
 obtain ⟨hu,hd⟩:=xHT h
 have h':=h
 simp only [Prg.insOK,yAJ] at h'
 have hox:=h'.1.1
 have hp:x.okP:=by simpa [Ins.ok] using hox
 obtain ⟨_,_,_,_,_,hc1,hc2,_,ha,hb,_,_,_,_,hbare⟩:=hp
 refine ⟨⟨hc1,hc2⟩,?_⟩
 rw [hok.wid]
 rcases hd with hd | ⟨hd0,hdl⟩
 ·left;omega
 ·right
  have all:∀v ∈ x.all,v < f.vars:=fun v hv=>(hu v (by unfold Ins.uses;rw [if_pos hox];exact xLc _ _ (.inr hv))).2
  have ha':x.a < f.vars:=by
   cases hk:khas x.kind 97
   ·have:x.bare.a=0:=by rw [hbare];rfl
    simp [Ins.bare,hk] at this
    omega
   ·exact all _ (by unfold Ins.all;rw [hk];simp)
  have hb':x.b < f.vars:=by
   cases hk:khas x.kind 98
   ·have:x.bare.b=0:=by rw [hbare];rfl
    simp [Ins.bare,hk] at this
    omega
   ·exact all _ (by unfold Ins.all;rw [hk];simp)
  exact ⟨hd0,hdl,ha,ha',hb,hb'⟩
def beginL (par:Int) (w:List Int) (n:Nat):List Int:=(List.range n).map fun v:Nat=>if (v:Int) < par∧v < w.length then wrap32 (w.getD v 0) else 0
theorem begin_tells (f:Fun) (w:List Int):Tells f.wid (beginL f.par w f.wid) f.start:=by
 refine ⟨by simp [beginL],startL f.par f.vars,rfl,xEC _ _,xI7 _ _,fun k u v hu hv=>?_⟩
 have hk:k < f.wid:=by have:=(xgS hu).1;simpa [beginL] using this
 have hv':v=if (k:Int) < f.par then ⟨2,0⟩ else ⟨1,0⟩:=by
  simp [startL,show k < capN f.vars from hk] at hv
  exact hv.symm
 have hu':u=if (k:Int) < f.par∧k < w.length then wrap32 (w.getD k 0) else 0:=by
  simp [beginL,hk] at hu
  rw [← hu];simp
 by_cases hp:(k:Int) < f.par
 ·rw [if_pos hp] at hv'
  subst hv'
  refine ⟨?_,.inr (.inl rfl)⟩
  rw [hu']
  split
  ·exact xBG _
  ·omega
 ·rw [if_neg hp] at hv'
  rw [if_neg fun h=>hp h.1] at hu'
  subst hv';subst hu'
  exact ⟨by omega,Val.le_refl _⟩
end Go.Proofs.YtnhfofmhkfdpgaaGreatDoor.Vm
namespace Go.Proofs.YtnhfofmhkfdpgaaGreatDoor.Vm
open Go Go.RowKit
def sgS (s:Int):Int:=if 0≤s∧s≤7 then s else 7
def sgOf (c:Int):Int:=if c < 0 then 1 else if 0 < c then 4 else 2
def sgOr (a b:Int):Int:=((a.toNat ||| b.toNat:Nat):Int)
def sgJ (a b:Int):Int:=sgOr (sgS a) (sgS b)
def sgLe (a b:Int):Prop:=sgOr a b=b
instance (a b:Int):Decidable (sgLe a b):=inferInstanceAs (Decidable (_=_))
def sgList (s:Int):List Int:=([0,1,2].filter fun k=>(sgS s).toNat.testBit k).map fun k:Nat=>(k:Int) - 1
def sgEntry (t:List Int) (x y:Int):Int:=t.getD ((x + 1).toNat * 3 + (y + 1).toNat) 0
def sgTab (t:List Int) (a b:Int):Int:=(sgList a).foldl (fun o x=>(sgList b).foldl (fun o y=>sgOr o (sgEntry t x y)) o) 0
def sumsT:List Int:=[1,1,7,1,2,4,7,4,4]
def prodT:List Int:=[4,2,1,2,2,2,1,2,4]
def sgAdd (a b:Int):Int:=sgTab sumsT a b
def sgMul (a b:Int):Int:=sgTab prodT a b
def sgNeg (a:Int):Int:=sgMul a 1
def sgSub (a b:Int):Int:=sgAdd a (sgNeg b)
def sgOk (s:Int):Prop:=0≤s∧s≤7
theorem xAu:sgOk 0:=⟨by omega,by omega⟩
theorem sg8 {s:Int} (h:sgOk s):∃ k:Fin 8,s=((k:Nat):Int):=⟨⟨s.toNat,by have:=h.1;have:=h.2;omega⟩,by have:=h.1;simp;omega⟩
theorem xBe (s:Int):sgOk (sgS s):=by
 unfold sgS
 split
 ·assumption
 ·exact ⟨by omega,by omega⟩
theorem xAv {s:Int} (h:sgOk s):sgS s=s:=by
 have h':0≤s∧s≤7:=h
 unfold sgS
 rw [if_pos h']
theorem xKs (s:Int):sgS (sgS s)=sgS s:=xAv (xBe s)
theorem xAW (c:Int):sgOk (sgOf c):=by
 unfold sgOf
 repeat' split
 all_goals exact ⟨by omega,by omega⟩
theorem xBp (c:Int):(c < 0∧sgOf c=1) ∨ (c=0∧sgOf c=2) ∨ (0 < c∧sgOf c=4):=by
 unfold sgOf
 repeat' split
 all_goals omega
theorem xEJ {a b:Int} (ha:sgOk a) (hb:sgOk b):sgOk (sgOr a b):=by
 obtain ⟨i,rfl⟩:=sg8 ha
 obtain ⟨j,rfl⟩:=sg8 hb
 have:∀i j:Fin 8,sgOr ((i:Nat):Int) ((j:Nat):Int)≤7:=by decide +kernel
 exact ⟨Int.natCast_nonneg _,this i j⟩
theorem xOf (a b:Int):sgOk (sgJ a b):=xEJ (xBe a) (xBe b)
theorem xPS (a:Int):sgJ a 0=sgS a:=by
 obtain ⟨i,hi⟩:=sg8 (xBe a)
 have:∀i:Fin 8,sgOr ((i:Nat):Int) (sgS 0)=((i:Nat):Int):=by decide +kernel
 unfold sgJ;rw [hi];exact this i
theorem xQx {a b:Int} (ha:sgOk a) (hb:sgOk b):sgJ a b=sgOr a b:=by unfold sgJ;rw [xAv ha,xAv hb]
theorem xAw {a:Int} (ha:sgOk a):sgLe a a:=by
 obtain ⟨i,rfl⟩:=sg8 ha
 have:∀i:Fin 8,sgLe ((i:Nat):Int) ((i:Nat):Int):=by decide +kernel
 exact this i
theorem xAT {a b c:Int} (ha:sgOk a) (hb:sgOk b) (hc:sgOk c) (h1:sgLe a b) (h2:sgLe b c):sgLe a c:=by
 obtain ⟨i,rfl⟩:=sg8 ha
 obtain ⟨j,rfl⟩:=sg8 hb
 obtain ⟨k,rfl⟩:=sg8 hc
 have:∀i j k:Fin 8,sgLe ((i:Nat):Int) ((j:Nat):Int)→sgLe ((j:Nat):Int) ((k:Nat):Int)→sgLe ((i:Nat):Int) ((k:Nat):Int):=by decide +kernel
 exact this i j k h1 h2
theorem xOg {a b:Int} (ha:sgOk a) (hb:sgOk b) (h1:sgLe a b) (h2:sgLe b a):a=b:=by
 obtain ⟨i,rfl⟩:=sg8 ha
 obtain ⟨j,rfl⟩:=sg8 hb
 have:∀i j:Fin 8,sgLe ((i:Nat):Int) ((j:Nat):Int)→sgLe ((j:Nat):Int) ((i:Nat):Int)→((i:Nat):Int)=((j:Nat):Int):=by decide +kernel
 exact this i j h1 h2
theorem xF9 {a:Int} (ha:sgOk a):sgLe 0 a:=by
 obtain ⟨i,rfl⟩:=sg8 ha
 have:∀i:Fin 8,sgLe 0 ((i:Nat):Int):=by decide +kernel
 exact this i
theorem xLd {a:Int} (ha:sgOk a):sgLe a 7:=by
 obtain ⟨i,rfl⟩:=sg8 ha
 have:∀i:Fin 8,sgLe ((i:Nat):Int) 7:=by decide +kernel
 exact this i
theorem xJk {a b:Int} (ha:sgOk a) (hb:sgOk b):sgLe a (sgOr a b):=by
 obtain ⟨i,rfl⟩:=sg8 ha
 obtain ⟨j,rfl⟩:=sg8 hb
 have:∀i j:Fin 8,sgLe ((i:Nat):Int) (sgOr ((i:Nat):Int) ((j:Nat):Int)):=by decide +kernel
 exact this i j
theorem xJl {a b:Int} (ha:sgOk a) (hb:sgOk b):sgLe b (sgOr a b):=by
 obtain ⟨i,rfl⟩:=sg8 ha
 obtain ⟨j,rfl⟩:=sg8 hb
 have:∀i j:Fin 8,sgLe ((j:Nat):Int) (sgOr ((i:Nat):Int) ((j:Nat):Int)):=by decide +kernel
 exact this i j
theorem xOh {a b c:Int} (ha:sgOk a) (hb:sgOk b) (hc:sgOk c) (h1:sgLe a c) (h2:sgLe b c):sgLe (sgOr a b) c:=by
 obtain ⟨i,rfl⟩:=sg8 ha
 obtain ⟨j,rfl⟩:=sg8 hb
 obtain ⟨k,rfl⟩:=sg8 hc
 have:∀i j k:Fin 8,sgLe ((i:Nat):Int) ((k:Nat):Int)→sgLe ((j:Nat):Int) ((k:Nat):Int)→sgLe (sgOr ((i:Nat):Int) ((j:Nat):Int)) ((k:Nat):Int):=by decide +kernel
 exact this i j k h1 h2
theorem xOi {a b a' b':Int} (ha:sgOk a) (hb:sgOk b) (ha':sgOk a') (hb':sgOk b') (h1:sgLe a a') (h2:sgLe b b'):sgLe (sgOr a b) (sgOr a' b') :=
 xOh ha hb (xEJ ha' hb') (xAT ha ha' (xEJ ha' hb') h1 (xJk ha' hb')) (xAT hb hb' (xEJ ha' hb') h2 (xJl ha' hb'))
theorem xPT {a b a' b':Int} (h1:sgLe (sgS a) (sgS a')) (h2:sgLe (sgS b) (sgS b')):sgLe (sgJ a b) (sgJ a' b'):=xOi (xBe a) (xBe b) (xBe a') (xBe b') h1 h2
theorem xOj (t:List Int) (a b:Int):sgTab t (sgS a) (sgS b)=sgTab t a b:=by unfold sgTab sgList;rw [xKs,xKs]
theorem xBx (a b:Int):sgOk (sgAdd a b):=by
 unfold sgAdd;rw [← xOj]
 obtain ⟨i,hi⟩:=sg8 (xBe a)
 obtain ⟨j,hj⟩:=sg8 (xBe b)
 rw [hi,hj]
 have:∀i j:Fin 8,0≤sgTab sumsT ((i:Nat):Int) ((j:Nat):Int)∧sgTab sumsT ((i:Nat):Int) ((j:Nat):Int)≤7:=by decide +kernel
 exact this i j
theorem xBy (a b:Int):sgOk (sgMul a b):=by
 unfold sgMul;rw [← xOj]
 obtain ⟨i,hi⟩:=sg8 (xBe a)
 obtain ⟨j,hj⟩:=sg8 (xBe b)
 rw [hi,hj]
 have:∀i j:Fin 8,0≤sgTab prodT ((i:Nat):Int) ((j:Nat):Int)∧sgTab prodT ((i:Nat):Int) ((j:Nat):Int)≤7:=by decide +kernel
 exact this i j
theorem xBz (a:Int):sgOk (sgNeg a):=xBy a 1
theorem xFm (a b:Int):sgOk (sgSub a b):=xBx _ _
theorem xGa:∀i j k:Fin 8,sgLe ((i:Nat):Int) ((j:Nat):Int)→sgLe (sgTab sumsT ((i:Nat):Int) ((k:Nat):Int)) (sgTab sumsT ((j:Nat):Int) ((k:Nat):Int))∧sgLe (sgTab sumsT ((k:Nat):Int) ((i:Nat):Int)) (sgTab sumsT ((k:Nat):Int) ((j:Nat):Int)):=by decide +kernel
theorem xGb:∀i j k:Fin 8,sgLe ((i:Nat):Int) ((j:Nat):Int)→sgLe (sgTab prodT ((i:Nat):Int) ((k:Nat):Int)) (sgTab prodT ((j:Nat):Int) ((k:Nat):Int))∧sgLe (sgTab prodT ((k:Nat):Int) ((i:Nat):Int)) (sgTab prodT ((k:Nat):Int) ((j:Nat):Int)):=by decide +kernel
theorem xEK {a b a' b':Int} (ha:sgOk a) (hb:sgOk b) (ha':sgOk a') (hb':sgOk b') (h1:sgLe a a') (h2:sgLe b b'):sgLe (sgAdd a b) (sgAdd a' b'):=by
 have h3:sgLe (sgAdd a b) (sgAdd a' b):=by
  obtain ⟨i,rfl⟩:=sg8 ha
  obtain ⟨j,rfl⟩:=sg8 ha'
  obtain ⟨k,rfl⟩:=sg8 hb
  exact (xGa i j k h1).1
 have h4:sgLe (sgAdd a' b) (sgAdd a' b'):=by
  obtain ⟨i,rfl⟩:=sg8 hb
  obtain ⟨j,rfl⟩:=sg8 hb'
  obtain ⟨k,rfl⟩:=sg8 ha'
  exact (xGa i j k h2).2
 exact xAT (xBx _ _) (xBx _ _) (xBx _ _) h3 h4
theorem xEL {a b a' b':Int} (ha:sgOk a) (hb:sgOk b) (ha':sgOk a') (hb':sgOk b') (h1:sgLe a a') (h2:sgLe b b'):sgLe (sgMul a b) (sgMul a' b'):=by
 have h3:sgLe (sgMul a b) (sgMul a' b):=by
  obtain ⟨i,rfl⟩:=sg8 ha
  obtain ⟨j,rfl⟩:=sg8 ha'
  obtain ⟨k,rfl⟩:=sg8 hb
  exact (xGb i j k h1).1
 have h4:sgLe (sgMul a' b) (sgMul a' b'):=by
  obtain ⟨i,rfl⟩:=sg8 hb
  obtain ⟨j,rfl⟩:=sg8 hb'
  obtain ⟨k,rfl⟩:=sg8 ha'
  exact (xGb i j k h2).2
 exact xAT (xBy _ _) (xBy _ _) (xBy _ _) h3 h4
theorem xEM {a a':Int} (ha:sgOk a) (ha':sgOk a') (h:sgLe a a'):sgLe (sgNeg a) (sgNeg a'):=xEL ha ⟨by omega,by omega⟩ ha' ⟨by omega,by omega⟩ h (xAw ⟨by omega,by omega⟩)
theorem xMo {a b a' b':Int} (ha:sgOk a) (hb:sgOk b) (ha':sgOk a') (hb':sgOk b') (h1:sgLe a a') (h2:sgLe b b'):sgLe (sgSub a b) (sgSub a' b'):=xEK ha (xBz _) ha' (xBz _) h1 (xEM hb hb' h2)
theorem xLe (x y:Int):sgLe (sgOf (x * y)) (sgMul (sgOf x) (sgOf y)):=by
 rcases xBp x with ⟨hx,ex⟩ | ⟨rfl,ex⟩ | ⟨hx,ex⟩ <;> rcases xBp y with ⟨hy,ey⟩ | ⟨rfl,ey⟩ | ⟨hy,ey⟩ <;> first | rw [ex,ey] | rw [ex]
 ·have:=Int.mul_pos_of_neg_of_neg hx hy
  rw [show sgOf (x * y)=4 by unfold sgOf;rw [if_neg (by omega),if_pos this]];decide +kernel
 ·rw [Int.mul_zero];decide +kernel
 ·have:=Int.mul_neg_of_neg_of_pos hx hy
  rw [show sgOf (x * y)=1 by unfold sgOf;rw [if_pos this]];decide +kernel
 ·rw [Int.zero_mul];decide +kernel
 ·rw [Int.zero_mul];decide +kernel
 ·rw [Int.zero_mul];decide +kernel
 ·have:=Int.mul_neg_of_pos_of_neg hx hy
  rw [show sgOf (x * y)=1 by unfold sgOf;rw [if_pos this]];decide +kernel
 ·rw [Int.mul_zero];decide +kernel
 ·have:=Int.mul_pos hx hy
  rw [show sgOf (x * y)=4 by unfold sgOf;rw [if_neg (by omega),if_pos this]];decide +kernel
theorem xPU (x y:Int):sgLe (sgOf (x + y)) (sgAdd (sgOf x) (sgOf y)):=by
 rcases xBp x with ⟨hx,ex⟩ | ⟨rfl,ex⟩ | ⟨hx,ex⟩ <;> rcases xBp y with ⟨hy,ey⟩ | ⟨rfl,ey⟩ | ⟨hy,ey⟩ <;> first | rw [ex,ey] | rw [ex]
 ·rw [show sgOf (x + y)=1 by unfold sgOf;rw [if_pos (by omega)]];decide +kernel
 ·rw [Int.add_zero,ex];decide +kernel
 ·rcases xBp (x + y) with ⟨_,e⟩ | ⟨_,e⟩ | ⟨_,e⟩ <;> rw [e] <;> decide +kernel
 ·rw [Int.zero_add,ey];decide +kernel
 ·decide +kernel
 ·rw [Int.zero_add,ey];decide +kernel
 ·rcases xBp (x + y) with ⟨_,e⟩ | ⟨_,e⟩ | ⟨_,e⟩ <;> rw [e] <;> decide +kernel
 ·rw [Int.add_zero,ex];decide +kernel
 ·rw [show sgOf (x + y)=4 by unfold sgOf;rw [if_neg (by omega),if_pos (by omega)]];decide +kernel
theorem xPV (x:Int):sgLe (sgOf (-x)) (sgNeg (sgOf x)):=by
 have:=xLe x (-1)
 rw [show x * -1=-x by omega] at this
 exact this
theorem xJm {x y a b:Int} (ha:sgOk a) (hb:sgOk b) (h1:sgLe (sgOf x) a) (h2:sgLe (sgOf y) b):sgLe (sgOf (x + y)) (sgAdd a b) :=
 xAT (xAW _) (xBx _ _) (xBx _ _) (xPU x y) (xEK (xAW _) (xAW _) ha hb h1 h2)
theorem xOk {x y a b:Int} (ha:sgOk a) (hb:sgOk b) (h1:sgLe (sgOf x) a) (h2:sgLe (sgOf y) b):sgLe (sgOf (x * y)) (sgMul a b) :=
 xAT (xAW _) (xBy _ _) (xBy _ _) (xLe x y) (xEL (xAW _) (xAW _) ha hb h1 h2)
theorem xJn {x a:Int} (ha:sgOk a) (h1:sgLe (sgOf x) a):sgLe (sgOf (-x)) (sgNeg a) :=
 xAT (xAW _) (xBz _) (xBz _) (xPV x) (xEM (xAW _) ha h1)
theorem xOl {x y a b:Int} (ha:sgOk a) (hb:sgOk b) (h1:sgLe (sgOf x) a) (h2:sgLe (sgOf y) b):sgLe (sgOf (x - y)) (sgSub a b):=by
 rw [Int.sub_eq_add_neg]
 exact xJm ha (xBz b) h1 (xJn hb h2)
def sgPop (s:Int):Nat:=s.toNat % 2 + s.toNat / 2 % 2 + s.toNat / 4 % 2
theorem xLf {a b:Int} (ha:sgOk a) (hb:sgOk b) (h:sgLe a b):sgPop a≤sgPop b∧(a ≠ b→sgPop a < sgPop b)∧sgPop b≤3:=by
 obtain ⟨i,rfl⟩:=sg8 ha
 obtain ⟨j,rfl⟩:=sg8 hb
 have:∀i j:Fin 8,sgLe ((i:Nat):Int) ((j:Nat):Int)→sgPop ((i:Nat):Int)≤sgPop ((j:Nat):Int)∧(((i:Nat):Int) ≠ ((j:Nat):Int)→sgPop ((i:Nat):Int) < sgPop ((j:Nat):Int))∧sgPop ((j:Nat):Int)≤3:=by decide +kernel
 exact this i j h
end Go.Proofs.YtnhfofmhkfdpgaaGreatDoor.Vm
namespace Go.Proofs.YtnhfofmhkfdpgaaGreatDoor.Vm
open Go Go.RowKit
variable {N:Nat} {g:Glob}
theorem xJo {a b:Int} (ha:sgOk a) (hb:sgOk b):(iandNot .i64 a b=0) ↔ sgLe a b:=by
 obtain ⟨i,rfl⟩:=sg8 ha
 obtain ⟨j,rfl⟩:=sg8 hb
 have:∀i j:Fin 8,(iandNot .i64 ((i:Nat):Int) ((j:Nat):Int)=0) ↔ sgLe ((i:Nat):Int) ((j:Nat):Int):=by decide +kernel
 exact this i j
theorem xQy {a b:Int} (ha:sgOk a) (hb:sgOk b):ior .i64 a b=sgOr a b:=by
 obtain ⟨i,rfl⟩:=sg8 ha
 obtain ⟨j,rfl⟩:=sg8 hb
 have:∀i j:Fin 8,ior .i64 ((i:Nat):Int) ((j:Nat):Int)=sgOr ((i:Nat):Int) ((j:Nat):Int):=by decide +kernel
 exact this i j
theorem xOm {s:Int} (h:sgOk s):Ret P g false 83 [.int .i64 s] (.bool true):=by
 refine Ret.in c83 (by simp) ?_
 have:=(xJo h (b:=7) ⟨by omega,by omega⟩).2 (xLd h)
 simp [k83,this]
 exact RK.stab rfl
theorem xC6 {s:Int} (h:sgOk s):Ret P g false 44 [.int .i64 s] (.int .i64 s):=by
 refine Ret.in c44 (by simp) ?_
 simp [k44]
 refine (xOm h).use (n:=9) ?_ rfl ?_ <;> simp
 exact RK.stab rfl
theorem xKt (c:Int):Ret P g false 13 [.int .i64 c] (.int .i64 (sgOf c)):=by
 refine Ret.in c13 (by simp) ?_
 simp [k13]
 refine xAj (fun h=>?_) (fun h=>?_) <;> simp [h]
 ·exact RK.eq (by simp [sgOf,h]) rfl
 ·refine xAj (fun h2=>?_) (fun h2=>?_) <;> simp [h2]
  ·exact RK.eq (by simp [sgOf,h,h2]) rfl
  ·exact RK.eq (by simp [sgOf,h,h2]) rfl
theorem xEf {a b:Int} (ha:sgOk a) (hb:sgOk b):Ret P g false 24 [.int .i64 a,.int .i64 b] (.int .i64 (sgJ a b)):=by
 refine Ret.in c24 (by simp) ?_
 simp [k24]
 refine (xC6 ha).use (n:=9) ?_ rfl ?_ <;> simp
 refine (xC6 hb).use (n:=9) ?_ rfl ?_ <;> simp
 exact RK.eq (by rw [xQx ha hb,xQy ha hb]) rfl
theorem xH1 {a b:Int} (ha:sgOk a) (hb:sgOk b):Ret P g false 12 [.int .i64 a,.int .i64 b] (.bool (decide (sgLe a b))):=by
 refine Ret.in c12 (by simp) ?_
 simp [k12]
 refine (xC6 ha).use (n:=9) ?_ rfl ?_ <;> simp
 refine (xC6 hb).use (n:=9) ?_ rfl ?_ <;> simp
 exact RK.eq (by simp [xJo ha hb]) rfl
def sgListTo (s:Int) (k:Nat):List Int:=((List.range k).filter fun k=>s.toNat.testBit k).map fun k:Nat=>(k:Int) - 1
theorem xC7 (s:Int) (k:Nat):(sgListTo s k).length≤k:=by
 unfold sgListTo
 have:=yAb (fun k=>s.toNat.testBit k) (List.range k)
 simpa using this
theorem xH2 (s:Int) (k:Nat):sgListTo s (k + 1)=sgListTo s k ++ if s.toNat.testBit k=true then [(k:Int) - 1] else []:=by
 unfold sgListTo
 rw [yAo,List.filter_append,List.map_append]
 congr 1
 by_cases h:s.toNat.testBit k=true <;> simp [h]
theorem xEN {s:Int} (h:sgOk s):sgListTo s 3=sgList s:=by
 unfold sgListTo sgList
 rw [xAv h];rfl
theorem xUg {s:Int} (h:sgOk s) {k:Nat} (hk:k < 3):ishift .shr .i64 s (k:Int)=some (.int .i64 (s.fdiv (2 ^ k)))∧(iand .i64 (s.fdiv (2 ^ k)) 1=1 ↔ s.toNat.testBit k=true):=by
 refine ⟨?_,?_⟩
 ·have e:min k IntKind.i64.bits=k:=by show min k 64=k;omega
  simp [ishift,show ¬ (k:Int) < 0 by omega,e]
 ·obtain ⟨i,rfl⟩:=sg8 h
  have:∀(i:Fin 8) (k:Fin 3),(iand .i64 (((i:Nat):Int).fdiv (2 ^ (k:Nat))) 1=1) ↔ ((i:Nat):Int).toNat.testBit (k:Nat)=true:=by decide +kernel
  exact this i ⟨k,hk⟩
theorem xJp {s:Int} (h:sgOk s):OwnL P g intc 1 236 [.int .i64 s] (sgList s):=by
 refine OwnL.in c236 (by simp) ?_
 simp [k236]
 refine W.whileI (fun (k:Nat) F S=>k≤3∧F 0=.int .i64 s∧F 5=.int .i64 k∧Has intc 1 S (F 3) (sgListTo s k)∧Bel S (F 3)) (fun k=>3 - k) ?_ 0 _ _ ?_
 ·rintro k F S ⟨hk,f0,f5,h3,b3⟩
  by_cases hlt:k < 3
  ·have e4:=wrapS k (by omega)
   have e5:IntKind.i64.wrap ((k:Int) - 1)=(k:Int) - 1:=xAa (by omega)
   have e6:IntKind.u64.wrap (k:Int)=(k:Int):=xCd (by omega)
   have hlt':(k:Int) < 3:=by omega
   obtain ⟨hs1,hs2⟩:=xUg h hlt
   have hl:=xC7 s k
   have hst:=xH2 s k
   simp [f5,hlt']
   simp [f0,f5,hlt']
   refine (xC6 h).use (n:=9) ?_ rfl ?_ <;> simp
   simp [e6,hs1]
   by_cases hb:s.toNat.testBit k=true
   ·simp [hs2,hb] at hst ⊢
    simp [e5]
    refine xBi (e:=intc) (x:=(k:Int) - 1) (h3.new b3) rfl (by simp [room];omega) ?_
    intro S' hS hnx hoth
    simp [f0,f5,e4]
    exact ⟨k + 1,by omega,by omega,by omega,by rw [hst];simpa using hS,Bel.sl (by rw [hnx];exact Nat.lt_succ_self _)⟩
   ·simp [hs2,hb] at hst ⊢
    simp [f0,f5,e4]
    exact ⟨k + 1,by omega,by omega,by omega,by rw [hst];exact h3,b3⟩
  ·have:k=3:=by omega
   subst this
   simp [f5]
   rw [← xEN h]
   exact h3
 ·simp
  exact ⟨.nil,Bel.nil⟩
def tabV (t:List Int):AV:=.agg (t.map (AV.int .i64))
structure TabOk (t:List Int):Prop where
 len:t.length=9
 ok:∀v ∈ t,sgOk v
def tabIn (t:List Int) (x:Int) (o:Int) (m:List Int):Int:=m.foldl (fun o y=>sgOr o (sgEntry t x y)) o
def tabOut (t:List Int) (l m:List Int) (o:Int):Int:=l.foldl (fun o x=>tabIn t x o m) o
theorem xG6 {s x:Int} (h:x ∈ sgList s):∃ k:Nat,k < 3∧x=(k:Int) - 1:=by
 simp only [sgList,yAU,yAp] at h
 obtain ⟨k,⟨hk,_⟩,rfl⟩:=h
 refine ⟨k,?_,rfl⟩
 simp at hk;omega
theorem xLg {t:List Int} (ht:TabOk t) {i j:Nat} (hi:i < 3) (hj:j < 3):∃ v,t[i * 3 + j]?=some v∧sgEntry t ((i:Int) - 1) ((j:Int) - 1)=v∧sgOk v:=by
 have hlt:i * 3 + j < t.length:=by rw [ht.len];omega
 refine ⟨t[i * 3 + j],xgG hlt,?_,ht.ok _ (yAi _)⟩
 unfold sgEntry
 rw [show ((i:Int) - 1 + 1).toNat=i by omega,show ((j:Int) - 1 + 1).toNat=j by omega,yAA,xgG hlt]
 rfl
theorem xLh {t:List Int} (ht:TabOk t) {a b:Int} (ha:sgOk a) (hb:sgOk b):Ret P g false 188 [tabV t,.int .i64 a,.int .i64 b] (.int .i64 (sgTab t a b)):=by
 refine Ret.in c188 (by simp) ?_
 have hL:=fun x hx=>xG6 (s:=a) (x:=x) hx
 have hM:=fun x hx=>xG6 (s:=b) (x:=x) hx
 have hLf:FSl intc 1 (encF intc 1 (sgList a)) (sgList a):=xAt
 have hMf:FSl intc 1 (encF intc 1 (sgList b)) (sgList b):=xAt
 have hla:(sgList a).length≤3:=by rw [← xEN ha];exact xC7 a 3
 have hlb:(sgList b).length≤3:=by rw [← xEN hb];exact xC7 b 3
 have hT:sgTab t a b=tabOut t (sgList a) (sgList b) 0:=rfl
 have hc:(tabV t).cells=t.map (AV.int .i64):=rfl
 have htl:=ht.len
 rw [hT]
 simp [k188,hc,htl]
 refine (xJp ha).ret.use (n:=9) ?_ rfl ?_ <;> simp
 generalize sgList a=l at *
 have hcl:(encF intc 1 l).cells=[encF intc 1 l]:=hLf.cells
 simp [hcl,hLf.len]
 refine W.whileI (fun (i:Nat) F S=>i≤l.length∧F 2=.int .i64 b∧F 3=.ptr 0 0 0∧F 7=.int .i64 (tabOut t (l.take i) (sgList b) 0)∧sgOk (tabOut t (l.take i) (sgList b) 0)∧F 13=encF intc 1 l∧F 14=.int .i64 l.length∧F 15=.int .i64 i∧S.obj 0=some (.row 9 [t.map (AV.int .i64)])) (fun i=>l.length - i) ?_ 0 _ _ ?_
 ·rintro i F S ⟨hi,f2,f3,f7,ho,f13,f14,f15,s0⟩
  by_cases hlt:i < l.length
  ·have e4:=wrapS i (by omega)
   obtain ⟨x,hx⟩:∃ x,l[i]?=some x:=⟨_,xgG hlt⟩
   obtain ⟨p,hp,rfl⟩:=hL x (xmG hx)
   have ep:IntKind.i64.wrap (p:Int)=(p:Int):=xAa (by omega)
   have hst:tabOut t (l.take (i + 1)) (sgList b) 0=tabIn t ((p:Int) - 1) (tabOut t (l.take i) (sgList b) 0) (sgList b):=by
    unfold tabOut
    rw [xAi _ _ _ _ _ hx]
   generalize tabOut t (l.take i) (sgList b) 0=o at *
   simp [f14,f15,hlt]
   simp [f13,f15,hLf.idx hx,intc,f2]
   refine (xJp hb).ret.use (n:=9) ?_ rfl ?_ <;> simp
   generalize sgList b=m at *
   have hcm:(encF intc 1 m).cells=[encF intc 1 m]:=hMf.cells
   simp [hcm,hMf.len]
   refine W.whileI (fun (j:Nat) F S=>j≤m.length∧F 2=.int .i64 b∧F 3=.ptr 0 0 0∧F 7=.int .i64 (tabIn t ((p:Int) - 1) o (m.take j))∧sgOk (tabIn t ((p:Int) - 1) o (m.take j))∧F 9=.int .i64 ((p:Int) - 1)∧F 13=encF intc 1 l∧F 14=.int .i64 l.length∧F 15=.int .i64 i∧F 20=encF intc 1 m∧F 21=.int .i64 m.length∧F 22=.int .i64 j∧S.obj 0=some (.row 9 [t.map (AV.int .i64)])) (fun j=>m.length - j) ?_ 0 _ _ ?_
   ·rintro j F S ⟨hj,f2,f3,f7,ho2,f9,f13,f14,f15,f20,f21,f22,s0⟩
    by_cases hltj:j < m.length
    ·have e5:=wrapS j (by omega)
     obtain ⟨y,hy⟩:∃ y,m[j]?=some y:=⟨_,xgG hltj⟩
     obtain ⟨q,hq,rfl⟩:=hM y (xmG hy)
     have eq:IntKind.i64.wrap (q:Int)=(q:Int):=xAa (by omega)
     obtain ⟨v,hv1,hv2,hv3⟩:=xLg ht hp hq
     have hst2:tabIn t ((p:Int) - 1) o (m.take (j + 1))=sgOr (tabIn t ((p:Int) - 1) o (m.take j)) v:=by
      unfold tabIn
      rw [xAi _ _ _ _ _ hy,hv2]
     have hor:=xQy ho2 hv3
     have hp3:(p:Int) < 3:=by omega
     have hq3:(q:Int) < 3:=by omega
     generalize tabIn t ((p:Int) - 1) o (m.take j)=u at *
     simp [f21,f22,hltj]
     simp [f20,f22,hMf.idx hy,intc,f3,f7,f9,ep,eq,xAR,hp3,hq3,hp,hq,s0,hv1,hor]
     simp [f2,f9,f13,f14,f15,f20,f21,f22,e5]
     exact ⟨j + 1,by omega,by omega,by rw [hst2],by rw [hst2];exact xEJ ho2 hv3,by omega⟩
    ·have:j=m.length:=by omega
     subst this
     rw [yAV] at f7 ho2
     simp [f21,f22,f2,f3,f7,f13,f14,f15,e4]
     exact ⟨i + 1,by omega,by omega,by rw [hst],by rw [hst];exact ho2,by omega,s0⟩
   ·simp [f2,f3,f7,f13,f14,f15,tabIn,ho]
    exact s0
  ·have:i=l.length:=by omega
   subst this
   rw [yAV] at f7
   simp [f14,f15,f7]
   exact RK.stab rfl
 ·simp [tabOut]
  exact ⟨by omega,by omega⟩
theorem xPX:TabOk sumsT:=⟨rfl,by unfold sgOk;decide +kernel⟩
theorem xPY:TabOk prodT:=⟨rfl,by unfold sgOk;decide +kernel⟩
theorem xOn:Ret P g false 187 [] (tabV sumsT):=by
 refine Ret.in c187 (by simp) ?_
 simp [k187]
 exact ⟨9,by simp [tabV,sumsT,mapOpt]⟩
theorem xH3:Ret P g false 189 [] (tabV prodT):=by
 refine Ret.in c189 (by simp) ?_
 simp [k189]
 exact ⟨9,by simp [tabV,prodT,mapOpt]⟩
theorem xLi {a b:Int} (ha:sgOk a) (hb:sgOk b):Ret P g false 134 [.int .i64 a,.int .i64 b] (.int .i64 (sgAdd a b)):=by
 refine Ret.in c134 (by simp) ?_
 simp [k134]
 refine xOn.use (n:=9) ?_ rfl ?_ <;> simp
 refine (xLh xPX ha hb).use (n:=9) (by simp [tabV,sumsT,mapOpt]) rfl ?_
 simp
 exact RK.stab rfl
theorem xLj {a b:Int} (ha:sgOk a) (hb:sgOk b):Ret P g false 136 [.int .i64 a,.int .i64 b] (.int .i64 (sgMul a b)):=by
 refine Ret.in c136 (by simp) ?_
 simp [k136]
 refine xH3.use (n:=9) ?_ rfl ?_ <;> simp
 refine (xLh xPY ha hb).use (n:=9) (by simp [tabV,prodT,mapOpt]) rfl ?_
 simp
 exact RK.stab rfl
theorem xLk {a:Int} (ha:sgOk a):Ret P g false 133 [.int .i64 a] (.int .i64 (sgNeg a)):=by
 refine Ret.in c133 (by simp) ?_
 simp [k133]
 refine (xLj ha (b:=1) ⟨by omega,by omega⟩).use (n:=9) ?_ rfl ?_ <;> simp
 exact RK.stab rfl
theorem xPZ {a b:Int} (ha:sgOk a) (hb:sgOk b):Ret P g false 135 [.int .i64 a,.int .i64 b] (.int .i64 (sgSub a b)):=by
 refine Ret.in c135 (by simp) ?_
 simp [k135]
 refine (xLk hb).use (n:=9) ?_ rfl ?_ <;> simp
 refine (xLi ha (xBz b)).use (n:=9) ?_ rfl ?_ <;> simp
 exact RK.stab rfl
end Go.Proofs.YtnhfofmhkfdpgaaGreatDoor.Vm
