/- A part of the proof: Ac Ab. -/
import Derived.Test.YtbhkamemheaajaaGreatDoorQ27
set_option linter.unusedVariables false
set_option linter.unusedSimpArgs false
set_option linter.constructorNameAsVariable false
namespace Go.Proofs.YtbhkamemheaajaaGreatDoor.Vm
open Go Go.RowKit
set_option maxRecDepth 100000
variable {N:Nat} {g:Glob}
def XW (w:Nat) (bad:Nat→Prop) (S:St) (o:Nat) (x:List BSet):Prop:=∃ es,S.obj o=some (.row 2 es)∧es.length=x.length∧o < S.next∧∀(k:Nat) (s:BSet),x[k]?=some s→∃ q,es[k]?=some [.int .i64 w,.sl 1 q 0 (nw w)]∧q < S.next∧S.obj q=some (.row 1 (els u64c s.ws))∧¬ bad q
theorem XW.step {w:Nat} {bad bad':Nat→Prop} {S S':St} {o:Nat} {x:List BSet} (h:XW w bad S o x) (hn:S.next≤S'.next) (ho:S'.obj o=S.obj o) (hq:∀q,q < S.next→q ≠ o→¬ bad q→S'.obj q=S.obj q) (hb:∀q,q < S.next→bad' q→bad q):XW w bad' S' o x:=by
 obtain ⟨es,h1,h2,h3,h4⟩:=h
 refine ⟨es,by rw [ho];exact h1,h2,by omega,fun k s hs=>?_⟩
 obtain ⟨q,k1,k2,k3,k4⟩:=h4 k s hs
 have hqo:q ≠ o:=fun e=>by rw [e,h1] at k3;cases k3
 exact ⟨q,k1,by omega,by rw [hq q k2 hqo k4];exact k3,fun h=>k4 (hb q k2 h)⟩
theorem XW.put {w:Nat} {bad:Nat→Prop} {S:St} {o:Nat} {x:List BSet} (h:XW w bad S o x) {i q:Nat} {t:BSet} (hi:i < x.length) (h1:q < S.next) (h2:S.obj q=some (.row 1 (els u64c t.ws))) (h3:¬ bad q) :
  ∃ es,S.obj o=some (.row 2 es)∧i < es.length∧XW w bad (S.set o (.row 2 (es.set i [.int .i64 w,.sl 1 q 0 (nw w)]))) o (x.set i t):=by
 obtain ⟨es,k1,k2,k3,k4⟩:=h
 have hqo:q ≠ o:=fun e=>by rw [e,k1] at h2;cases h2
 refine ⟨es,k1,by omega,es.set i [.int .i64 w,.sl 1 q 0 (nw w)],by simp,by simp [k2],by simpa using k3,fun k s hs=>?_⟩
 by_cases hk:k=i
 ·subst hk
  rw [List.getElem?_set_self hi] at hs
  cases hs
  exact ⟨q,by rw [List.getElem?_set_self (by omega)],by simpa using h1,by simp [hqo,h2],h3⟩
 ·rw [List.getElem?_set_ne (Ne.symm hk)] at hs
  obtain ⟨p,m1,m2,m3,m4⟩:=k4 k s hs
  have hpo:p ≠ o:=fun e=>by rw [e,k1] at m3;cases m3
  exact ⟨p,by rw [List.getElem?_set_ne (Ne.symm hk)];exact m1,by simpa using m2,by simp [hpo,m3],m4⟩
theorem XW.pict {w:Nat} {bad:Nat→Prop} {S:St} {o:Nat} {x:List BSet} {m:Nat} (h:XW w bad S o x) (hx:GoodW w x):Vm.pict S [] (m + 3) (.sl 2 o 0 x.length)=some (.fsl 2 (els setc x)):=by
 obtain ⟨es,k1,k2,k3,k4⟩:=h
 refine pict_row k1 k2 (by simp) fun k e he=>?_
 have hlt:=(List.getElem?_eq_some_iff.1 he).1
 obtain ⟨s,hs⟩:∃ s,x[k]?=some s:=⟨_,List.getElem?_eq_getElem (by omega)⟩
 obtain ⟨q,m1,m2,m3,m4⟩:=k4 k s hs
 rw [he] at m1;cases m1
 have hso:=hx s (List.mem_of_getElem? hs)
 have hl:s.ws.length=nw w:=by rw [hso.1.len,hso.2]
 have hp:Vm.pict S [] (m + 2) (.sl 1 q 0 (nw w))=some (.fsl 1 (els u64c s.ws)):=by
  refine pict_row (es:=els u64c s.ws) m3 (by simp [hl]) (by simp [hl]) fun k e he=>?_
  rw [he]
  simp only [els,List.getElem?_map] at he
  cases hz:s.ws[k]? with
  | none=>rw [hz] at he;cases he
  | some x=>rw [hz] at he;cases he;simp [u64c]
 simp only [mapOpt,hp,pict_int,els_get,hs]
 simp [hso.2]
structure RunW (Q:Flw) (hF:Q.OK) (L:List (List Int)) (o ib B:Nat) (x:List BSet) (h:List Nat) (t:Option Nat) (S:St) (W:Nat):Prop where
 ex:∃ ord A I H ho ov,Wo Q.rs.length ord S W A I H ho ov h∧XW Q.w (badW I H ho) S o x∧B≤I∧B≤H∧B≤ho∧(Q.sys hF).Mid x (fun j=>todo ord h j ∨ t=some j)∧(t=none→∀j,¬ todo ord h j)
 ti:∀i,t=some i→i < Q.rs.length
 inn:S.obj ib=some (.row 1 (els boolc (List.replicate Q.rs.length true)))
 lt:o < B∧ib < B∧B≤S.next
def PutV (w n o ib B:Nat) (x:List BSet) (ord:List Nat) (W A I H:Nat) (ov:AV) (a:Nat) (S:St):Prop:=∃ ho h,Wo n ord S W A I H ho ov h∧XW w (badW I H ho) S o x∧B≤ho∧(∀j,todo ord h j ↔ j < a)∧S.obj ib=some (.row 1 (els boolc (List.replicate n true)))∧B≤S.next
def PutU (w n o ib B:Nat) (x:List BSet) (ord:List Nat) (W A I H:Nat) (ov:AV) (h0:List Nat) (m:List Int) (a:Nat) (S:St):Prop:=∃ ho h,Wo n ord S W A I H ho ov h∧XW w (badW I H ho) S o x∧B≤ho∧(∀j,todo ord h j ↔ todo ord h0 j ∨ (j:Int) ∈ m.take a)∧S.obj ib=some (.row 1 (els boolc (List.replicate n true)))∧B≤S.next
theorem putW_step {w o ib B:Nat} {x:List BSet} {I H ho ho':Nat} {S S':St} (hx:XW w (badW I H ho) S o x) (hf:WoF S S' I H ho) (hho:ho'=ho ∨ S.next≤ho') (hB:o < B∧ib < B∧B≤S.next) (hI:B≤I) (hH:B≤H) (hh:B≤ho) :
  XW w (badW I H ho') S' o x∧S'.obj ib=S.obj ib∧B≤ho':=by
 refine ⟨hx.step hf.1 (hf.2 o (by omega) (by omega) (by omega) (by omega)) (fun q h1 h2 h3=>hf.2 q h1 (fun e=>h3 (.inl e)) (fun e=>h3 (.inr (.inl e))) fun e=>h3 (.inr (.inr e))) (fun q h1 h2=>?_),hf.2 ib (by omega) (by omega) (by omega) (by omega),by omega⟩
 rcases h2 with h2 | h2 | h2
 ·exact .inl h2
 ·exact .inr (.inl h2)
 ·exact .inr (.inr (by omega))
theorem runW_Take {Q:Flw} (hF:Q.OK) {L:List (List Int)} {o ib B:Nat} {x:List BSet} {ord:List Nat} {S:St} {Wp A I H ho:Nat} {ov:AV} {h:List Nat} {K:AV→St→Prop} (hw:Wo Q.rs.length ord S Wp A I H ho ov h) (hx:XW Q.w (badW I H ho) S o x) (hI:B≤I) (hH:B≤H) (hh:B≤ho) (hm:(Q.sys hF).Mid x (fun j=>todo ord h j))
  (inn:S.obj ib=some (.row 1 (els boolc (List.replicate Q.rs.length true)))) (lt:o < B∧ib < B∧B≤S.next)
  (hk:∀S' h' t (c:Int),RunW Q hF L o ib B x h' t S' Wp→(∀i:Nat,t=some i→c=(i:Int))→h'.length + (if t.isSome then 1 else 0)≤h.length→K (.tuple [.int .i64 c,.bool t.isSome]) S'):Cal P g 125 [.ptr Wp 0 0] S K:=by
 have hl:=hF.n
 refine work_Take hw (by omega) (fun h0=>?_) fun S' h' i k1 k2 k3 k4 k5 k6=>?_
 ·subst h0
  have hnt:∀j,¬ todo ord [] j:=fun j ⟨k,h,_⟩=>by simp at h
  refine hk S [] none 0 ⟨⟨ord,A,I,H,ho,ov,hw,hx,hI,hH,hh,?_,fun _=>hnt⟩,(fun i h=>by cases h),inn,lt⟩ (fun i h=>by cases h) (by simp)
  have e:(fun j=>todo ord [] j ∨ (none:Option Nat)=some j)=fun j=>todo ord [] j:=by funext j;simp
  rw [e];exact hm
 ·obtain ⟨m1,m2,m3⟩:=putW_step (ib:=ib) (B:=B) hx k5 (.inl rfl) lt hI hH hh
  refine hk S' h' (some i) i ⟨⟨ord,A,I,H,ho,ov,k1,m1,hI,hH,hh,?_,(fun h=>by cases h)⟩,(fun j h=>by cases h;exact k2),by rw [m2];exact inn,⟨lt.1,lt.2.1,by have:=k5.1;omega⟩⟩ (fun j h=>by cases h;rfl) (by simp;omega)
  have e:(fun j=>todo ord h' j ∨ some i=some j)=fun j=>todo ord h j:=by
   funext j
   simp only [k4,Option.some.injEq,eq_iff_iff]
   constructor
   ·rintro (h | rfl)
    ·exact h.1
    ·exact k3
   ·intro h
    by_cases hj:i=j
    ·exact .inr hj
    ·exact .inl ⟨h,fun e=>hj e.symm⟩
  rw [e];exact hm
theorem runW {Q:Flw} (hF:Q.OK) {S:St} {o:Nat} {K:AV→St→Prop} (hx:XW Q.w (fun _=>False) S o (List.replicate Q.rs.length (BSet.new Q.w)))
  (hk:∀S',XW Q.w (fun _=>False) S' o (Q.sol hF)→S.next≤S'.next→K (.anyi .i64) S') :
  Cal P g 140 [.fsl 1 (els prc Q.rs),.fsl 1 (els natc (List.range Q.rs.length)),.sl 2 o 0 Q.rs.length,.func (.func 141) [flwE Q] [],.func (.func 16) [] []] S K:=by
 refine Cal.post ?_
 have hl:=hF.n
 have hout:=hF.r
 have hgr:GrV (.fsl 1 (els prc Q.rs)) Q.rs:=by
  refine .inr ⟨Q.rs.map (encF intc 1),by simp [els,prc],by simp,fun k w m hw hm=>?_⟩
  rw [List.getElem?_map,hm] at hw
  cases hw
  exact encF_sl
 have hfst:∀(S:St) (n:Nat),pict S [] (n + 2) (flwE Q)=some (flwE Q):=fun S n=>by
  simp [flwE,mapOpt]
 have hrd:∀(k:Nat) (m:List Int),Q.rs[k]?=some m→(Q.sys hF).rd k=m:=fun k m hm=>by
  show Q.rs.getD k []=m
  rw [List.getD_eq_getElem?_getD,hm];rfl
 have hos:o < S.next:=by obtain ⟨es,_,_,h,_⟩:=hx;exact h
 have hroom:Q.rs.length≤room:=by simp [room];omega
 have hlf:FSl natc 1 (.fsl 1 (els natc (List.range Q.rs.length))) (List.range Q.rs.length):=FSl.mk
 refine c140.in (by simp) ?_
 simp [k140]
 refine (graph_Turn hgr (by omega) (fun m hm=>(hout m hm).1)).use (n:=9) (by simp [pict_stab hgr.stab]) (by simp [solids,hgr.solid]) ?_
 rintro _ ⟨L,rfl,hT⟩
 have hLl:L.length=Q.rs.length:=by rw [hT.len];simp [cleanG]
 have hLs:∀m ∈ L,m.length≤768∧∀x ∈ m,0≤x∧x < Q.rs.length:=by
  intro m hm
  have h1:=hT.short m hm
  have h2:=hT.sub m hm
  simp [cleanG] at h1 h2
  exact ⟨by omega,h2⟩
 have hTa:∀(i k:Nat) (c:List Int),Q.rs[k]?=some c→(i:Int) ∈ c→∃ m,L[i]?=some m∧(k:Int) ∈ m:=by
  intro i k c hc hi
  have h1:=(hout c (List.mem_of_getElem? hc)).2 _ hi
  refine hT.all k i (cleanL Q.rs.length c) ?_ ?_
  ·simp [cleanG,hc]
  ·rw [cleanL_mem]
   exact ⟨hi,by omega,by omega⟩
 clear hT
 simp [hgr.len,hroom]
 have e1:∀n:Nat,List.replicate n [AV.bool false]=els boolc (List.replicate n false):=fun n=>els_replicate (e:=boolc)
 refine W.whileI (fun (a:Nat) F S'=>a≤Q.rs.length∧F 0=.fsl 1 (els prc Q.rs)∧F 2=.sl 2 o 0 Q.rs.length∧F 3=.func (.func 141) [flwE Q] []∧F 4=.func (.func 16) [] []∧F 11=.fsl 1 (els (fun m=>[encF intc 1 m]) L)∧F 12=.sl 1 S.next 0 Q.rs.length ∧
  F 29=.fsl 1 (els natc (List.range Q.rs.length))∧F 30=.int .i64 Q.rs.length∧F 31=.int .i64 a∧S'.next=S.next + 1∧Up S S'∧∃ m:List Bool,m.length=Q.rs.length∧S'.obj S.next=some (.row 1 (els boolc m))∧m.take a=List.replicate a true) (fun a=>Q.rs.length - a) ?_ 0 _ _ ?_
 ·rintro a F S' ⟨ha,h0,h2,h3,h4,h11,h12,h29,h30,h31,hn,hup,m,hm,hob,hmt⟩
  by_cases hlt:a < Q.rs.length
  ·have e4:=wrapS a (by omega)
   have hr:(List.range Q.rs.length)[a]?=some a:=by rw [List.getElem?_range hlt]
   obtain ⟨u,hu⟩:∃ u,m[a]?=some u:=⟨_,List.getElem?_eq_getElem (by omega)⟩
   simp [h30,h31,hlt]
   simp [h29,h31,hlf.idx hr,natc,h0,hgr.len,hlt]
   simp [h12,ix_sl hlt,hob,hu,boolc,h0,h2,h3,h4,h11,h29,h30,h31,e4]
   refine ⟨a + 1,by omega,by omega,by omega,hn,⟨by simpa using hup.1,fun q hq=>by simp [show ¬ q=S.next by omega];exact hup.2 q hq⟩,m.set a true,by simp [hm],by rw [← els_set];rfl,?_⟩
   rw [set_take_succ (by omega),hmt,List.replicate_succ']
  ·have:a=Q.rs.length:=by omega
   subst this
   have hmR:m=List.replicate Q.rs.length true:=by rw [← hmt,List.take_of_length_le (by omega)]
   subst hmR
   simp [h30,h31,h11]
   refine (rank_Schedule (encR_gr L) (by omega) (fun m hm=>by have:=(hLs m hm).1;omega) 0).use (n:=9) (by simp) (by simp [solids,AV.solid]) ?_
   rintro _ ⟨ord,rfl,hord⟩
   rw [hLl] at hord
   simp
   refine work_New rfl hord (by omega) fun S2 Wp A I H ho ov hw hup2 hids=>?_
   have hob2:S2.obj S.next=some (.row 1 (els boolc (List.replicate Q.rs.length true))):=by rw [hup2.2 _ (by omega)];exact hob
   have hn2:=hup2.1
   have hx2:XW Q.w (badW I H ho) S2 o (List.replicate Q.rs.length (BSet.new Q.w)):=by
    refine hx.step (by omega) ?_ (fun q h1 h2 _=>?_) (fun q h1 h2=>?_)
    ·rw [hup2.2 o (by omega),hup.2 o hos]
    ·rw [hup2.2 q (by omega),hup.2 q h1]
    ·rcases h2 with rfl | rfl | rfl <;> omega
   have hBh:S.next + 1≤Wp∧S.next + 1≤A∧S.next + 1≤I∧S.next + 1≤H∧S.next + 1≤ho:=by rw [hn] at hids;exact hids
   have hntd:∀j,¬ todo ord [] j:=fun j ⟨k,h,_⟩=>by simp at h
   have hbf:FSl boolc 1 (.fsl 1 (els boolc (List.replicate Q.rs.length true))) (List.replicate Q.rs.length true):=FSl.mk
   simp [h12]
   refine W.whileI (fun (a:Nat) F S'=>a≤Q.rs.length∧F 2=.sl 2 o 0 Q.rs.length∧F 3=.func (.func 141) [flwE Q] []∧F 4=.func (.func 16) [] []∧F 11=.fsl 1 (els (fun m=>[encF intc 1 m]) L)∧F 12=.sl 1 S.next 0 Q.rs.length∧F 15=.ptr Wp 0 0 ∧
    F 50=.sl 1 S.next 0 Q.rs.length∧F 51=.int .i64 Q.rs.length∧F 52=.int .i64 a∧PutV Q.w Q.rs.length o S.next (S.next + 1) (List.replicate Q.rs.length (BSet.new Q.w)) ord Wp A I H ov a S') (fun a=>Q.rs.length - a) ?_ 0 _ _ ?_
   ·rintro a F S3 ⟨ha,h2,h3,h4,h11,h12,h15,h50,h51,h52,ho3,h',hw3,hx3,hb3,ht3,hi3,hn3⟩
    by_cases hlt:a < Q.rs.length
    ·have e4:=wrapS a (by omega)
     have hr:(List.replicate Q.rs.length true)[a]?=some true:=by simp [hlt]
     simp [h51,h52,hlt]
     simp [h50,h52,ix_sl hlt,hi3,hr,boolc,h15]
     refine work_Put hw3 hlt (by omega) fun S4 ho4 h4' b k1 k2 k3 k4 k5=>?_
     obtain ⟨m1,m2,m3⟩:=putW_step (ib:=S.next) (B:=S.next + 1) hx3 k3 k4 ⟨by omega,by omega,hn3⟩ hBh.2.2.1 hBh.2.2.2.1 hb3
     simp [h2,h3,h4,h11,h12,h15,h50,h51,h52,e4]
     refine ⟨a + 1,by omega,by omega,by omega,ho4,h4',k1,m1,m3,fun j=>?_,by rw [m2];exact hi3,by have:=k3.1;omega⟩
     rw [k2,ht3];omega
    ·have:a=Q.rs.length:=by omega
     subst this
     simp [h51,h52,hlt,h15]
     have hmid:(Q.sys hF).Mid (List.replicate Q.rs.length (BSet.new Q.w)) (fun j=>todo ord h' j):=by
      have:=Sys.Mid.start (Y:=Q.sys hF)
      have e:(fun i=>i < (Q.sys hF).n)=fun j=>todo ord h' j:=by funext j;exact propext (ht3 j).symm
      rw [e] at this
      exact this
     refine runW_Take hF (L:=L) (B:=S.next + 1) hw3 hx3 hBh.2.2.1 hBh.2.2.2.1 hb3 hmid hi3 ⟨by omega,by omega,hn3⟩ fun S4 h4' t c hR hc hlen=>?_
     simp
     refine W.whileI (fun (z:List BSet × List Nat × Option Nat) F S'=>F 2=.sl 2 o 0 Q.rs.length∧F 3=.func (.func 141) [flwE Q] []∧F 4=.func (.func 16) [] []∧F 11=.fsl 1 (els (fun m=>[encF intc 1 m]) L)∧F 12=.sl 1 S.next 0 Q.rs.length∧F 15=.ptr Wp 0 0 ∧
      (∃ c,F 18=.int .i64 c)∧(∃ c:Int,F 19=.int .i64 c∧∀i:Nat,z.2.2=some i→c=(i:Int))∧F 20=.bool z.2.2.isSome∧RunW Q hF L o S.next (S.next + 1) z.1 z.2.1 z.2.2 S' Wp) (fun z=>(Q.sys hF).gap z.1 * 100 + z.2.1.length + (if z.2.2.isSome then 1 else 0)) ?_ (List.replicate Q.rs.length (BSet.new Q.w),h4',t) _ _ ?_
     ·rintro ⟨x,h,t⟩ F S4 ⟨h2,h3,h4,h11,h12,h15,⟨c,h18⟩,⟨i',h19,hti⟩,h20,hR⟩
      simp only at hti h20 hR
      obtain ⟨⟨ord,A,I,H,ho,ov,hw,hx,hI,hH,hh,hm,htn⟩,hil,inn,hlt⟩:=hR
      cases t with
      | none =>
       simp [h20]
       have e:x=Q.sol hF:=(hm.done fun j hj=>by rcases hj with hj | hj;exact htn rfl j hj;cases hj).sol
       subst e
       refine .inr ⟨.anyi .i64,.inl ⟨_,_,h18,rfl⟩,S4,Wk.refl S4,hk S4 (hx.step (Nat.le_refl _) rfl (fun _ _ _ _=>rfl) fun _ _ h=>h.elim) (by omega)⟩
      | some i =>
       have hin:=hil i rfl
       have:=hti i rfl
       subst this
       have hxl:x.length=Q.rs.length:=hm.fit.len
       have hgo:GoodW Q.w x:=fun a ha=>hm.fit.ok a ha
       obtain ⟨s,hs⟩:∃ s,x[i]?=some s:=⟨_,List.getElem?_eq_getElem (by omega)⟩
       obtain ⟨es,k1,k2,k3,k4⟩:=id hx
       obtain ⟨q,m1,m2,m3,m4⟩:=k4 i s hs
       simp [h20,h18,h2,h19,ix_sl hin,k1,m1,h3]
       generalize hS5:(S4.new (.row 2 [[.int .i64 0,.nilsl]])).set S4.next (.row 2 [[.int .i64 Q.w,.sl 1 q 0 (nw Q.w)]])=S5
       have hn5:S5.next=S4.next + 1:=by rw [← hS5];simp
       have hq5:∀p,p < S4.next→S5.obj p=S4.obj p:=fun p hp=>by rw [← hS5];simp [show ¬ p=S4.next by omega]
       have hx5:XW Q.w (badW I H ho) S5 o x:=hx.step (by omega) (hq5 o (by omega)) (fun p hp _ _=>hq5 p hp) fun p _ h=>h
       have hw5:=hw.keep2 (S':=S5) k1 (by omega) fun p hp _=>hq5 p hp
       have hb5:S5.obj S4.next=some (.row 2 [[.int .i64 Q.w,.sl 1 q 0 (nw Q.w)]]):=by rw [← hS5];simp
       have hp5:=hx5.pict (m:=6) hgo
       rw [hxl] at hp5
       refine (flw_eval hF hgo hxl hin).use' (n:=9) (by simp [mapOpt,hp5,hfst]) (by simp) ?_
       simp
       obtain ⟨es',j1,j2,hx7⟩:=(hx5.step (S':=S5.new (.row 1 (els u64c (Q.ev x i).ws))) (bad':=badW I H ho) (by simp) (by simp [show ¬ o=S5.next by omega]) (fun p hp _ _=>by simp [show ¬ p=S5.next by omega]) fun p _ h=>h).put (i:=i) (q:=S5.next) (t:=Q.ev x i) (by omega) (by simp) (by simp) (fun h=>by have:=hw5.lt;have:=hw5.hp.lH;have:=hw5.hp.lo;rcases h with h | h | h <;> omega)
       simp [show ¬ o=S5.next by omega,hq5 o (by omega),k1] at j1
       subst j1
       have m1':es[i]=[.int .i64 Q.w,.sl 1 q 0 (nw Q.w)]:=by rw [List.getElem?_eq_getElem j2] at m1;exact Option.some.inj m1
       simp [h2,ix_sl hin,hq5 o (by omega),k1,show ¬ o=S5.next by omega,j2,m1']
       have hso:=hgo s (List.mem_of_getElem? hs)
       have heo:=Flw.ev_ok hF hgo i
       generalize hS7:(S5.new (.row 1 (els u64c (Q.ev x i).ws))).set o (.row 2 (es.set i [.int .i64 Q.w,.sl 1 S5.next 0 (nw Q.w)]))=S7 at hx7 ⊢
       have hn7:S7.next=S5.next + 1:=by rw [← hS7];simp
       have ho7:S7.obj o=some (.row 2 (es.set i [.int .i64 Q.w,.sl 1 S5.next 0 (nw Q.w)])):=by rw [← hS7];simp
       have hr7:S7.obj S5.next=some (.row 1 (els u64c (Q.ev x i).ws)):=by rw [← hS7];simp [show ¬ S5.next=o by omega]
       have hu7:∀p,p < S4.next→p ≠ o→S7.obj p=S4.obj p:=fun p hp h=>by rw [← hS7];simp [h,show ¬ p=S5.next by omega,hq5 p hp]
       have hb7:S7.obj S4.next=some (.row 2 [[.int .i64 Q.w,.sl 1 q 0 (nw Q.w)]]):=by rw [← hS7];simp [show ¬ S4.next=o by omega,show ¬ S4.next=S5.next by omega,hb5]
       have hq7:S7.obj q=some (.row 1 (els u64c s.ws)):=by rw [hu7 q (by omega) (fun e=>by rw [e,k1] at m3;cases m3)];exact m3
       have hw7:=hw.keep2 (S':=S7) k1 (by omega) fun p hp h=>hu7 p hp h
       have hg7:(es.set i [.int .i64 Q.w,.sl 1 S5.next 0 (nw Q.w)])[i]?=some [.int .i64 Q.w,.sl 1 S5.next 0 (nw Q.w)]:=List.getElem?_set_self (by omega)
       clear hS7
       have hsl:s.ws.length=nw Q.w:=by rw [hso.1.len,hso.2]
       have hel:(Q.ev x i).ws.length=nw Q.w:=by rw [heo.1.len,heo.2]
       have p1:∀n,pict S7 [] (n + 2) (.sl 1 q 0 (nw Q.w))=some (.fsl 1 (els u64c s.ws)):=fun n=>IsRow.pict hso.1 (.inr ⟨q,by omega,by rw [hso.2],hq7⟩)
       have p2:∀n,pict S7 [] (n + 2) (.sl 1 S5.next 0 (nw Q.w))=some (.fsl 1 (els u64c (Q.ev x i).ws)):=fun n=>IsRow.pict heo.1 (.inr ⟨S5.next,by omega,by rw [heo.2],hr7⟩)
       refine Dra.auto [] mix ?_ ?_
       ·kernel_rfl
       simp [classes,h4,h2,h19,hb7,ix_sl hin,ho7,hg7]
       refine (bits_Same s (Q.ev x i) hso.1 heo.1).b (n:=9) ?_ rfl ?_ <;> simp [hso.2,heo.2,mapOpt,p1,p2]
       have hlen2:=hw7.hl
       have hgap:s ≠ Q.ev x i→(Q.sys hF).gap (x.set i (Q.ev x i)) < (Q.sys hF).gap x:=fun hne=>Sys.gap_set hm.fit.ok hs heo (hm.pre i s hs) hne
       by_cases hse:s=Q.ev x i
       ·have hm2:(Q.sys hF).Mid (x.set i (Q.ev x i)) (fun j=>todo ord h j):=hm.step hs (fun k hk=>by
         by_cases hki:k=i
         ·exact .inl hki
         ·exact .inr fun hh=>by rcases hh with hh | hh;exact hk hh;cases hh;exact hki rfl) (fun hne=>absurd hse hne)
        have hgs:(Q.sys hF).gap (x.set i (Q.ev x i))=(Q.sys hF).gap x:=by rw [← hse,set_same hs]
        simp [hse,h15]
        refine runW_Take hF (L:=L) (B:=S.next + 1) (ib:=S.next) hw7 hx7 hI hH hh hm2 (by rw [hu7 S.next (by omega) (by omega)];exact inn) ⟨by omega,by omega,by omega⟩ fun S8 h8 t8 c8 hR8 hc8 hlen8=>?_
        simp [h2,h3,h4,h11,h12,h15]
        exact ⟨x.set i (Q.ev x i),h8,t8,by omega,hc8,rfl,hR8⟩
       ·simp [hse,h11,h19]
        obtain ⟨m,hmi⟩:∃ m,L[i]?=some m:=⟨_,List.getElem?_eq_getElem (by omega)⟩
        have hLm:=hLs m (List.mem_of_getElem? hmi)
        have hmf:FSl intc 1 (encF intc 1 m) m:=encF_sl
        have hrf:FSl (fun m=>[encF intc 1 m]) 1 (.fsl 1 (els (fun m=>[encF intc 1 m]) L)) L:=FSl.mk
        simp [hrf.idx hmi,hmf.len]
        refine W.whileI (fun (a:Nat) F S'=>a≤m.length∧F 2=.sl 2 o 0 Q.rs.length∧F 3=.func (.func 141) [flwE Q] []∧F 4=.func (.func 16) [] []∧F 11=.fsl 1 (els (fun m=>[encF intc 1 m]) L)∧F 12=.sl 1 S.next 0 Q.rs.length∧F 15=.ptr Wp 0 0 ∧
         (∃ c,F 18=.int .i64 c)∧F 96=encF intc 1 m∧F 97=.int .i64 m.length∧F 98=.int .i64 a∧PutU Q.w Q.rs.length o S.next (S.next + 1) (x.set i (Q.ev x i)) ord Wp A I H ov h m a S') (fun a=>m.length - a) ?_ 0 _ _ ?_
        ·rintro a F S8 ⟨ha,h2,h3,h4,h11,h12,h15,⟨c,h18⟩,h96,h97,h98,ho8,h8,hw8,hx8,hb8,ht8,hi8,hn8⟩
         by_cases hlta:a < m.length
         ·have e4:=wrapS a (by omega)
          obtain ⟨r,hr⟩:∃ r,m[a]?=some r:=⟨_,List.getElem?_eq_getElem hlta⟩
          have hr0:=hLm.2 r (List.mem_of_getElem? hr)
          obtain ⟨r,rfl⟩:∃ k:Nat,r=(k:Int):=⟨r.toNat,by omega⟩
          have hrl:r < Q.rs.length:=by omega
          have hrt:(List.replicate Q.rs.length true)[r]?=some true:=by simp [hrl]
          simp [h97,h98,hlta]
          simp [h96,h98,hmf.idx hr,h12,ix_sl hrl,hi8,hrt,boolc,intc,h15]
          refine work_Put hw8 hrl (by omega) fun S9 ho9 h9 b9 k1 k2 k3 k4 k5=>?_
          obtain ⟨m1,m2,m3⟩:=putW_step (ib:=S.next) (B:=S.next + 1) hx8 k3 k4 ⟨by omega,by omega,hn8⟩ hI hH hb8
          simp [h2,h3,h4,h11,h12,h15,h18,h96,h97,h98,e4]
          refine ⟨a + 1,by omega,by omega,by omega,ho9,h9,k1,m1,m3,fun j=>?_,by rw [m2];exact hi8,by have:=k3.1;omega⟩
          rw [k2,ht8,List.take_add_one,hr]
          have e:((j:Int)=(r:Int)) ↔ j=r:=by omega
          simp [or_assoc,e]
         ·have:a=m.length:=by omega
          subst this
          simp [h97,h98,hlta,h15]
          have hm2:(Q.sys hF).Mid (x.set i (Q.ev x i)) (fun j=>todo ord h8 j):=hm.step hs (fun k hk=>by
           by_cases hki:k=i
           ·exact .inl hki
           ·refine .inr fun hh=>?_
            rcases hh with hh | hh
            ·exact hk ((ht8 k).2 (.inl hh))
            ·cases hh;exact hki rfl) (fun hne k hkn hi=>by
             obtain ⟨c,hc⟩:∃ c,Q.rs[k]?=some c:=⟨_,List.getElem?_eq_getElem (by have:k < Q.rs.length:=hkn;omega)⟩
             rw [hrd k c hc] at hi
             obtain ⟨m',q1,q2⟩:=hTa i k c hc hi
             rw [hmi] at q1;cases q1
             exact (ht8 k).2 (.inr (by simpa using q2)))
          have hl8:=hw8.hl
          refine runW_Take hF (L:=L) (B:=S.next + 1) (ib:=S.next) hw8 hx8 hI hH hb8 hm2 hi8 ⟨by omega,by omega,hn8⟩ fun S9 h9 t9 c9 hR9 hc9 hlen9=>?_
          simp [h2,h3,h4,h11,h12,h15,h18]
          refine ⟨x.set i (Q.ev x i),h9,t9,?_,hc9,rfl,hR9⟩
          have:=hgap hse
          omega
        ·simp [h2,h3,h4,h11,h12,h15]
         exact ⟨ho,h,hw7,hx7,hh,fun j=>by simp,by rw [hu7 S.next (by omega) (by omega)];exact inn,by omega⟩
     ·simp [h2,h3,h4,h11,h12,h15]
      exact ⟨hc,hR⟩
   ·simp [h2,h3,h4,h11,h12]
    refine ⟨ho,[],hw,hx2,hBh.2.2.2.2,fun j=>⟨fun h=>absurd h (hntd j),fun h=>absurd h (by omega)⟩,hob2,by omega⟩
 ·simp [e1]
  exact ⟨Up.new _ _,List.replicate Q.rs.length false,by simp,rfl⟩
end Go.Proofs.YtbhkamemheaajaaGreatDoor.Vm
namespace Go.Proofs.YtbhkamemheaajaaGreatDoor.Vm
open Go Go.RowKit
set_option maxRecDepth 100000
variable {N:Nat} {g:Glob} {F:Flw}
theorem setsW1 {S:St} {o w:Nat} {w1 w2 w3:AV} {s:BSet} {K:AV→St→Prop} (hs:s.OK) (hn:s.n=w) (ho:S.obj o=some (.row 4 [[.int .i64 w,w1,w2,w3]])) (hol:o < S.next) (hk:∀S',Up S S'→K (.bool false) S'):Cal P g 198 [encB s,.ptr o 0 0] S K:=by
 refine c198.in (by simp) ?_
 simp [k198,show ¬ o=S.next by omega,ho,hn]
 refine (bits_Sane s hs).use (n:=9) ?_ rfl ?_ <;> simp [hn]
 exact hk _ (Up.new _ _)
theorem flw_sets (hF:F.OK) {xs:List BSet} (hx:GoodW F.w xs) (hxl:xs.length=F.rs.length):Ret P g false 136 [flwE F,.fsl 2 (els setc xs)] (.bool true):=by
 refine Ret.in c136 (by simp) ?_
 have hxf:FSl setc 2 (.fsl 2 (els setc xs)) xs:=FSl.mk
 obtain ⟨w1,w2,w3,he,f1,f2,f3⟩:=flw_cut F
 have c1:w1.cells=[w1]∧w1.one=true:=⟨f1.cells,fsl_one f1⟩
 have c2:w2.cells=[w2]∧w2.one=true:=⟨f2.cells,fsl_one f2⟩
 have c3:w3.cells=[w3]∧w3.one=true:=⟨f3.cells,fsl_one f3⟩
 rw [he]
 simp [k136,c1,c2,c3,hxf.len,f1.len,hxl]
 refine ContainsFunc_set hxf (by have:=hF.n;omega) (fun _=>false) ?_ ?_
 ·intro s hs S' hup K' hk
  simp
  have h0:=hup.2 0 (by simp)
  simp at h0
  exact setsW1 (hx s hs).1 (hx s hs).2 h0 (by have:=hup.1;simp at this;omega) fun S'' h2=>hk S'' (hup.trans h2)
 ·intro S' hup
  simp
  exact RK.eq (by simp) rfl
theorem flw_Sane (hF:F.OK):Ret P g false 92 [flwE F] (.bool true):=by
 refine Ret.in c92 (by simp) ?_
 have s2:=flw_sets (g:=g) hF hF.g hF.gl
 have s3:=flw_sets (g:=g) hF hF.k hF.kl
 have o1:FSl prc 1 (.fsl 1 (els prc F.rs)) F.rs:=FSl.mk
 have n2:FSl setc 2 (.fsl 2 (els setc F.gen)) F.gen:=FSl.mk
 have n3:FSl setc 2 (.fsl 2 (els setc F.kill)) F.kill:=FSl.mk
 have hw:=hF.w
 have hn:=hF.n
 have hr:=hF.r
 unfold flwE at s2 s3 ⊢
 generalize F.gen=sg at *
 generalize F.kill=sk at *
 generalize hG:F.rs=G at *
 generalize F.w=w at *
 generalize hg1:AV.fsl 1 (els prc G)=v1 at *
 generalize hg2:AV.fsl 2 (els setc sg)=v2 at *
 generalize hg3:AV.fsl 2 (els setc sk)=v3 at *
 clear hg1 hg2 hg3 hF
 have c1:v1.cells=[v1]∧v1.one=true:=⟨o1.cells,fsl_one o1⟩
 have c2:v2.cells=[v2]∧v2.one=true:=⟨n2.cells,fsl_one n2⟩
 have c3:v3.cells=[v3]∧v3.one=true:=⟨n3.cells,fsl_one n3⟩
 simp [k92,c1,c2,c3,o1.len,show ¬ (128:Int) < w by omega,show ¬ (w:Int) < 0 by omega,show ¬ (64:Int) < G.length by omega]
 refine (s2).use (n:=9) (by simp [mapOpt,pict_stab o1.stab,pict_stab n2.stab,pict_stab n3.stab]) (by simp [solids,AV.solid,o1.solid,n2.solid,n3.solid]) ?_
 simp [c1,c2,c3]
 refine (s3).use (n:=9) (by simp [mapOpt,pict_stab o1.stab,pict_stab n2.stab,pict_stab n3.stab]) (by simp [solids,AV.solid,o1.solid,n2.solid,n3.solid]) ?_
 simp [o1.len]
 refine W.whileI (fun (a:Nat) F' S=>a≤G.length∧F' 1=.ptr 0 0 0∧F' 34=v1∧F' 35=.int .i64 G.length∧F' 36=.int .i64 a∧1≤S.next∧S.obj 0=some (.row 4 [[.int .i64 w,v1,v2,v3]])) (fun a=>G.length - a) ?_ 0 _ _ ?_
 ·rintro a F' S ⟨ha,h1,h34,h35,h36,hn,h0⟩
  by_cases hlt:a < G.length
  ·have e4:=wrapS a (by omega)
   obtain ⟨m,hm⟩:∃ b,G[a]?=some b:=⟨_,List.getElem?_eq_getElem hlt⟩
   have hbo:=hr m (List.mem_of_getElem? hm)
   have hmf:FSl intc 1 (encF intc 1 m) m:=encF_sl
   simp [h35,h36,hlt]
   simp [h34,h36,o1.idx hm,prc,h1]
   refine ContainsFunc_int hmf (by omega) (fun _=>false) ?_ ?_
   ·intro j hj S' hup K' hk
    simp
    exact solver_Sane1 (by rw [hup.2 0 (by omega)];exact h0) o1.len (hbo.2 j hj) (hk S' hup)
   ·intro S' hup
    have hfl:(m.any fun _=>false)=false:=by simp
    simp [hfl,h35,h36,h34,h1,e4]
    exact ⟨a + 1,by omega,by omega,by omega,by have:=hup.1;omega,by rw [hup.2 0 (by omega)];exact h0⟩
  ·have:a=G.length:=by omega
   subst this
   simp [h35,h36]
   exact RK.eq rfl rfl
 ·simp
theorem XW.news {w:Nat} {S:St} {o:Nat} {x:List BSet} (h:XW w (fun _=>False) S o x):XW w (fun _=>False) S.news o x:=by
 obtain ⟨es,k1,k2,k3,k4⟩:=h
 refine ⟨es,?_,k2,k3,fun k s hs=>?_⟩
 ·rw [news_obj,k1]
  have:(AObj.row 2 es).young=true:=by
   simp only [AObj.young,youngss_iff,List.mem_flatten]
   rintro v ⟨e,he,hv⟩
   obtain ⟨k,hk⟩:=List.getElem?_of_mem he
   have hlt:=(List.getElem?_eq_some_iff.1 hk).1
   obtain ⟨q,m1,_⟩:=k4 k x[k] (List.getElem?_eq_getElem (by omega))
   rw [hk] at m1;cases m1
   simp at hv
   rcases hv with rfl | rfl <;> rfl
  simp [Option.filter,this]
 ·obtain ⟨q,m1,m2,m3,m4⟩:=k4 k s hs
  refine ⟨q,m1,m2,?_,m4⟩
  rw [news_obj,m3]
  have:(AObj.row 1 (els u64c s.ws)).young=true:=by
   simp only [AObj.young,youngss_iff,List.mem_flatten,els,List.mem_map]
   rintro v ⟨e,⟨w,_,rfl⟩,hv⟩
   simp [u64c] at hv
   subst hv;rfl
  simp [Option.filter,this]
def SolW (w n q a:Nat) (S:St):Prop:=q < S.next∧q ≠ 0∧∃ es,S.obj q=some (.row 2 es)∧es.length=n∧(∀e ∈ es,e.length=2)∧∀k,k < a→∃ p,es[k]?=some [.int .i64 w,.sl 1 p 0 (nw w)]∧p < S.next∧S.obj p=some (.row 1 (els u64c (BSet.new w).ws))
theorem SolW.step {w n q a:Nat} {S:St} (h:SolW w n q a S) (ha:a < n):∃ es,S.obj q=some (.row 2 es)∧es.length=n∧(∀e ∈ es,e.length=2) ∧
  SolW w n q (a + 1) ((S.new (.row 1 (els u64c (List.replicate (nw w) 0)))).set q (.row 2 (es.set a [.int .i64 w,.sl 1 S.next 0 (nw w)]))):=by
 obtain ⟨h1,h0,es,h2,h3,h5,h4⟩:=h
 refine ⟨es,h2,h3,h5,by simp;omega,h0,_,by simp;rfl,by simp [h3],fun e he=>?_,fun k hk=>?_⟩
 ·rcases List.mem_or_eq_of_mem_set he with h | rfl
  ·exact h5 e h
  ·rfl
 by_cases hka:k=a
 ·subst hka
  refine ⟨S.next,by rw [List.getElem?_set_self (by omega)],by simp,?_⟩
  simp [show ¬ S.next=q by omega];rfl
 ·obtain ⟨p,k1,k2,k3⟩:=h4 k (by omega)
  have hpq:¬ p=q:=fun e=>by rw [e,h2] at k3;cases k3
  exact ⟨p,by rw [List.getElem?_set_ne (Ne.symm hka)];exact k1,by simp;omega,by simp [hpq,show ¬ p=S.next by omega,k3]⟩
theorem SolW.done {w n q:Nat} {S:St} (h:SolW w n q n S):XW w (fun _=>False) S q (List.replicate n (BSet.new w)):=by
 obtain ⟨h1,h0,es,h2,h3,h5,h4⟩:=h
 refine ⟨es,h2,by simp [h3],h1,fun k s hs=>?_⟩
 rw [List.getElem?_replicate] at hs
 split at hs
 ·rename_i hk
  cases hs
  obtain ⟨p,k1,k2,k3⟩:=h4 k hk
  exact ⟨p,k1,k2,k3,fun h=>h⟩
 ·cases hs
theorem flw_solve (hF:F.OK):Ret P g true 93 [flwE F,.fsl 2 (List.replicate F.rs.length [.int .i64 0,.nilsl]),.fsl 1 (els natc (List.range F.rs.length))] (.tuple [.fsl 2 (els setc (F.sol hF)),.anyi .i64]):=by
 refine Ret.inP c93 (by simp) ?_
 have hlf:FSl natc 1 (.fsl 1 (els natc (List.range F.rs.length))) (List.range F.rs.length):=FSl.mk
 have hw:=hF.lt
 have hn12:=hF.n
 have hrun:=@runW g F hF
 have hcl:(flwE F).cells=[.int .i64 (F.w:Int),.fsl 1 (els prc F.rs),.fsl 2 (els setc F.gen),.fsl 2 (els setc F.kill)]:=by simp [flwE]
 simp [k93,flwE]
 refine slices_Clone_sets hF.n hF.n0 fun q S1 h1 h2 h3 h4=>?_
 simp [hlf.len]
 refine W.whileI (fun (a:Nat) F' S=>a≤F.rs.length∧F' 2=.fsl 1 (els natc (List.range F.rs.length))∧F' 3=.ptr 0 0 0∧F' 8=.sl 2 q 0 F.rs.length∧F' 13=.fsl 1 (els natc (List.range F.rs.length))∧F' 14=.int .i64 F.rs.length∧F' 15=.int .i64 a∧S.obj 0=some (.row 4 [(flwE F).cells])∧0 < S.next∧SolW F.w F.rs.length q a S) (fun a=>F.rs.length - a) ?_ 0 _ _ ?_
 ·rintro a F' S ⟨ha,h2,h3,h8,h13,h14,h15,h0,hn0,hI⟩
  by_cases hlt:a < F.rs.length
  ·have e4:=wrapS a (by omega)
   have hr:(List.range F.rs.length)[a]?=some a:=by rw [List.getElem?_range hlt]
   rw [hcl] at h0
   simp [h14,h15,hlt]
   simp [h13,h15,hlf.idx hr,natc,h8,h3,h0]
   refine (bits_New F.w hw).use' (n:=9) ?_ ?_ ?_ <;> simp
   obtain ⟨es,he,hel,h2e,hI2⟩:=hI.step hlt
   have hq:=hI.1
   have hq0:=hI.2.1
   simp [ix_sl hlt,he,show ¬ q=S.next by omega,hel,hlt,h2,h3,h8,h13,h14,h15,e4,Ne.symm hq0,show ¬ 0=S.next by omega,h0,hcl]
   have hea:=h2e es[a] (List.getElem_mem _)
   match hz:es[a],hea with
   | [u,v],_ =>
    simp
    exact ⟨a + 1,by omega,by omega,by omega,hI2⟩
  ·have:a=F.rs.length:=by omega
   subst this
   rw [hcl] at h0
   simp [h14,h15,hlt,h3,h2,h8,h0]
   refine hrun hI.done fun S2 hx2 hn2=>?_
   simp [RP]
   refine ⟨7,?_⟩
   have hp:=hx2.news.pict (m:=3) (Flw.sol_good hF)
   rw [Flw.sol_len hF] at hp
   simp [mapOpt,hp]
 ·simp
  exact ⟨by rw [h3.2 0 (by simp)];simp [flwE],by omega,h2,by simp at h1;omega,_,h4,by simp,fun e he=>by rw [List.mem_replicate] at he;rw [he.2];rfl,fun k hk=>absurd hk (by omega)⟩
theorem flw_Solve (hF:F.OK):Ret P g false 44 [flwE F] (.tuple [.fsl 2 (els setc (F.sol hF)),.anyi .i64]):=by
 refine Ret.in c44 (by simp) ?_
 have hn12:=hF.n
 have hroom:F.rs.length≤room:=by simp [room];omega
 have hs:=flw_Sane (g:=g) hF
 have hv:=flw_solve (g:=g) hF
 have ha:=solver_all (g:=g) F.rs.length (by omega)
 obtain ⟨w1,w2,w3,he,f1,f2,f3⟩:=flw_cut F
 have c1:w1.cells=[w1]∧w1.one=true:=⟨f1.cells,fsl_one f1⟩
 have c2:w2.cells=[w2]∧w2.one=true:=⟨f2.cells,fsl_one f2⟩
 have c3:w3.cells=[w3]∧w3.one=true:=⟨f3.cells,fsl_one f3⟩
 rw [he] at hs hv ⊢
 generalize hsol:F.sol hF=sl at *
 generalize F.w=w at *
 simp [k44,c1,c2,c3]
 refine (hs).use (n:=9) (by simp [mapOpt,pict_stab f1.stab,pict_stab f2.stab,pict_stab f3.stab]) (by simp [solids,AV.solid,f1.solid,f2.solid,f3.solid]) ?_
 simp [f1.len]
 refine Dra.auto [5] mix ?_ ?_
 ·kernel_rfl
 simp [classes,hroom,c1,c2,c3]
 refine (ha).b (n:=9) ?_ rfl ?_ <;> simp
 have hp:∀n,pict ((St.empty.new (.row 4 [[.int .i64 w,w1,w2,w3]])).new (.row 2 (List.replicate F.rs.length [.int .i64 0,.nilsl]))) [] (n + 2) (.sl 2 1 0 F.rs.length)=some (.fsl 2 (List.replicate F.rs.length [.int .i64 0,.nilsl])):=by
  intro n
  refine pict_row (es:=List.replicate F.rs.length [.int .i64 0,.nilsl]) (by simp) (by simp) (by simp) fun k e he=>?_
  rw [he]
  have:=List.mem_of_getElem? he
  rw [List.mem_replicate] at this
  rw [this.2]
  simp [mapOpt]
 refine ⟨.tuple [.fsl 2 (els setc sl),.anyi .i64],(St.empty.new (.row 4 [[.int .i64 w,w1,w2,w3]])).new (.row 2 (List.replicate F.rs.length [.int .i64 0,.nilsl])),(hv).use (n:=9) (by simp [mapOpt,hp,pict_stab f1.stab,pict_stab f2.stab,pict_stab f3.stab]) (by simp) ⟨rfl,rfl⟩,?_⟩
 simp
 exact ⟨2,by simp [mapOpt]⟩
end Go.Proofs.YtbhkamemheaajaaGreatDoor.Vm
