/- A part of the proof: Ga Gy Gz Hb Hc Hd He Hf Hg Hi Ra Rc Rd Re Rf Rb. -/
import Derived.Test.YtbhkamemheaajaaGreatDoorQ24
set_option linter.unusedVariables false
set_option linter.unusedSimpArgs false
set_option linter.constructorNameAsVariable false
namespace Go.Proofs.YtbhkamemheaajaaGreatDoor.Vm
open Go Go.RowKit
variable {N:Nat} {g:Glob}
theorem SetsRow.grown {S S':St} {v:AV} {l:List BSet} (h:SetsRow S v l) (hn:S.next≤S'.next) (hl:∀s ∈ l,s.ws ≠ [])
  (hk:∀q,q < S.next→((∃ c,v=.sl 2 q 0 c) ∨ ∃ ws,ws ≠ []∧S.obj q=some (.row 1 (els u64c ws)))→S'.obj q=S.obj q):SetsRow S' v l:=by
 rcases h with h | ⟨o,es,rfl,ho,hob,hlen,hne,hes⟩
 ·exact .inl h
 ·refine .inr ⟨o,es,rfl,by omega,by rw [hk o ho (.inl ⟨_,rfl⟩)];exact hob,hlen,hne,fun i s hs=>?_⟩
  obtain ⟨w,hw,hr⟩:=hes i s hs
  refine ⟨w,hw,?_⟩
  rcases hr with hr | ⟨q,h1,rfl,h2⟩
  ·exact .inl hr
  ·exact .inr ⟨q,by omega,rfl,by rw [hk q h1 (.inr ⟨_,hl s (List.mem_of_getElem? hs),h2⟩)];exact h2⟩
theorem SetsRow.up {S S':St} {v:AV} {l:List BSet} (h:SetsRow S v l) (hu:Up S S') (hl:∀s ∈ l,s.ws ≠ []):SetsRow S' v l:=h.grown hu.1 hl fun q hq _=>hu.2 q hq
theorem SetsRow.at {S:St} {v:AV} {l:List BSet} (h:SetsRow S v l) {q c:Nat} (e:v=.sl 2 q 0 c):q < S.next∧∃ es,S.obj q=some (.row 2 es):=by
 rcases h with ⟨rfl,_⟩ | ⟨o,es,rfl,ho,hob,_⟩
 ·cases e
 ·cases e;exact ⟨ho,es,hob⟩
theorem SetsRow.pict {S:St} {v:AV} {l:List BSet} {n:Nat} (h:SetsRow S v l) (hok:∀s ∈ l,s.OK):Vm.pict S [] (n + 3) v=some (encF setc 2 l):=by
 rcases h with ⟨rfl,rfl⟩ | ⟨o,es,rfl,ho,hob,hlen,hne,hes⟩
 ·rfl
 ·have hel:elems S (.sl 2 o 0 l.length)=some es:=by rw [elems_sl hob (by omega),List.drop_zero,List.take_of_length_le (by omega)]
  rw [pict_sl,hel]
  have:mapOpt (mapOpt (Vm.pict S [] (n + 2))) es=some (els setc l):=by
   have key:∀(es:List (List AV)) (l:List BSet),es.length=l.length→(∀s ∈ l,s.OK)→(∀(i:Nat) (s:BSet),l[i]?=some s→∃ w,es[i]?=some [.int .i64 s.n,w]∧IsRow S w s)→mapOpt (mapOpt (Vm.pict S [] (n + 2))) es=some (els setc l):=by
    intro es
    induction es with
    | nil=>intro l h _ _;cases l with
     | nil=>rfl
     | cons s l=>simp at h
    | cons e es ih =>
     intro l h hok hes
     cases l with
     | nil=>simp at h
     | cons s l =>
      obtain ⟨w,hw,hr⟩:=hes 0 s rfl
      simp at hw
      have h1:=ih l (by simpa using h) (fun t ht=>hok t (by simp [ht])) fun i t ht=>by simpa using hes (i + 1) t (by simpa using ht)
      have h2:=hr.pict (n:=n) (hok s (by simp))
      rw [hw]
      simp [mapOpt,h1,h2,els]
   exact key es l hlen hok hes
  simp only [Option.bind_some,this]
  simp [encF,hne]
def outc (b:Blk):List AV:=[b.outV]
theorem Has.up {α:Type} {e:α→List AV} {sz:Nat} {S S':St} {v:AV} {l:List α} (h:Has e sz S v l) (hb:Bel S v) (hu:Up S S'):Has e sz S' v l:=h.keep fun q ⟨c,e⟩=>hu.2 q (hb _ _ _ e)
theorem gen_ws (b:Blk):b.gen.ws ≠ []:=by
 intro h
 have:=b.gen_ok.1.len
 rw [h,b.gen_ok.2] at this
 simp [nw] at this
theorem kill_ws (b:Blk):b.kill.ws ≠ []:=by
 intro h
 have:=b.kill_ok.1.len
 rw [h,b.kill_ok.2] at this
 simp [nw] at this
structure Flo (S:St) (v1 v2 v3:AV) (l:List Blk):Prop where
 a:Has outc 1 S v1 l
 b:SetsRow S v2 (l.map Blk.gen)
 c:SetsRow S v3 (l.map Blk.kill)
 ba:Bel S v1
 la:∀sz q c,v1=.sl sz q 0 c→4≤q
 lb:∀sz q c,v2=.sl sz q 0 c→4≤q
 lc:∀sz q c,v3=.sl sz q 0 c→4≤q
 sep:∀q c d,v2=.sl 2 q 0 c→v3=.sl 2 q 0 d→False
theorem gens_ws (l:List Blk):∀s ∈ l.map Blk.gen,s.ws ≠ []:=by
 intro s hs
 rw [List.mem_map] at hs
 obtain ⟨b,_,rfl⟩:=hs
 exact gen_ws b
theorem kills_ws (l:List Blk):∀s ∈ l.map Blk.kill,s.ws ≠ []:=by
 intro s hs
 rw [List.mem_map] at hs
 obtain ⟨b,_,rfl⟩:=hs
 exact kill_ws b
theorem Flo.up {S S':St} {v1 v2 v3:AV} {l:List Blk} (h:Flo S v1 v2 v3 l) (hu:Up S S'):Flo S' v1 v2 v3 l :=
 ⟨h.a.up h.ba hu,h.b.up hu (gens_ws l),h.c.up hu (kills_ws l),h.ba.mono hu.1,h.la,h.lb,h.lc,h.sep⟩
end Go.Proofs.YtbhkamemheaajaaGreatDoor.Vm
namespace Go.Proofs.YtbhkamemheaajaaGreatDoor.Vm
open Go Go.RowKit
variable {N:Nat} {g:Glob}
theorem solver_all (n:Nat) (hn:n < 2 ^ 30):Ret P g false 94 [.int .i64 (n:Int)] (.fsl 1 (els natc (List.range n))):=by
 refine Ret.in c94 (by simp) ?_
 have hroom:n≤room:=by simp [room];omega
 simp [k94,hroom]
 refine W.whileI (fun (a:Nat) F S=>a≤n∧F 3=.sl 1 0 0 n∧F 7=.sl 1 0 0 n∧F 8=.int .i64 n∧F 9=.int .i64 a∧∃ o:List Nat,o.length=n∧o.take a=List.range a∧S.obj 0=some (.row 1 (els natc o))) (fun a=>n - a) ?_ 0 _ _ ?_
 ·rintro a F S ⟨ha,h3,h7,h8,h9,o,hol,hot,hob⟩
  by_cases hlt:a < n
  ·have e4:=wrapS a (by omega)
   obtain ⟨u,hu⟩:∃ u,o[a]?=some u:=⟨_,List.getElem?_eq_getElem (by omega)⟩
   simp [h8,h9,hlt]
   simp [h3,h7,h8,h9,ix_sl hlt,hob,hu,natc,e4]
   refine ⟨a + 1,by omega,by omega,by omega,o.set a a,by simp [hol],?_,by rw [← els_set];rfl⟩
   rw [set_take_succ (by omega),hot,List.range_succ]
  ·have:a=n:=by omega
   subst this
   have hoR:o=List.range a:=by rw [← hot,List.take_of_length_le (by omega)]
   subst hoR
   simp [h8,h9,h3]
   refine ⟨2,?_⟩
   have:=ints_pict (m:=0) (o:=0) (l:=(List.range a).map fun k:Nat=>(k:Int)) (S:=S) (by rw [hob,natc_eq])
   rw [natc_eq]
   simpa using this
 ·simp
  exact ⟨List.replicate n 0,by simp,by simp [els,natc]⟩
theorem union_ret {a b:BSet} (ha:a.OK) (hb:b.OK):Ret P g true 14 [encB a,encB b] (encB (a.or b)):=(bits_Union a b ha hb).setR rfl (BSet.or_ok ha hb).len
theorem minus_ret {a b:BSet} (ha:a.OK) (hb:b.OK):Ret P g true 19 [encB a,encB b] (encB (a.minus b)):=(bits_Minus a b ha hb).setR rfl (BSet.minus_ok ha hb).len
end Go.Proofs.YtbhkamemheaajaaGreatDoor.Vm
namespace Go.Proofs.YtbhkamemheaajaaGreatDoor.Vm
open Go Go.RowKit
variable {N:Nat} {g:Glob}
def XR (bad:Nat→Prop) (S:St) (o:Nat) (x:List BSet):Prop:=∃ es,S.obj o=some (.row 2 es)∧es.length=x.length∧o < S.next∧∀(k:Nat) (s:BSet),x[k]?=some s→∃ q,es[k]?=some [.int .i64 6,.sl 1 q 0 1]∧q < S.next∧S.obj q=some (.row 1 (els u64c s.ws))∧¬ bad q
theorem XR.step {bad bad':Nat→Prop} {S S':St} {o:Nat} {x:List BSet} (h:XR bad S o x) (hn:S.next≤S'.next) (ho:S'.obj o=S.obj o) (hq:∀q,q < S.next→q ≠ o→¬ bad q→S'.obj q=S.obj q) (hb:∀q,q < S.next→bad' q→bad q):XR bad' S' o x:=by
 obtain ⟨es,h1,h2,h3,h4⟩:=h
 refine ⟨es,by rw [ho];exact h1,h2,by omega,fun k s hs=>?_⟩
 obtain ⟨q,k1,k2,k3,k4⟩:=h4 k s hs
 have hqo:q ≠ o:=fun e=>by rw [e,h1] at k3;cases k3
 exact ⟨q,k1,by omega,by rw [hq q k2 hqo k4];exact k3,fun h=>k4 (hb q k2 h)⟩
theorem XR.put {bad:Nat→Prop} {S:St} {o:Nat} {x:List BSet} (h:XR bad S o x) {i q:Nat} {t:BSet} (hi:i < x.length) (h1:q < S.next) (h2:S.obj q=some (.row 1 (els u64c t.ws))) (h3:¬ bad q) :
  ∃ es,S.obj o=some (.row 2 es)∧i < es.length∧XR bad (S.set o (.row 2 (es.set i [.int .i64 6,.sl 1 q 0 1]))) o (x.set i t):=by
 obtain ⟨es,k1,k2,k3,k4⟩:=h
 have hqo:q ≠ o:=fun e=>by rw [e,k1] at h2;cases h2
 refine ⟨es,k1,by omega,es.set i [.int .i64 6,.sl 1 q 0 1],by simp,by simp [k2],by simpa using k3,fun k s hs=>?_⟩
 by_cases hk:k=i
 ·subst hk
  rw [List.getElem?_set_self hi] at hs
  cases hs
  exact ⟨q,by rw [List.getElem?_set_self (by omega)],by simpa using h1,by simp [hqo,h2],h3⟩
 ·rw [List.getElem?_set_ne (Ne.symm hk)] at hs
  obtain ⟨p,m1,m2,m3,m4⟩:=k4 k s hs
  have hpo:p ≠ o:=fun e=>by rw [e,k1] at m3;cases m3
  exact ⟨p,by rw [List.getElem?_set_ne (Ne.symm hk)];exact m1,by simpa using m2,by simp [hpo,m3],m4⟩
theorem XR.pict {bad:Nat→Prop} {S:St} {o:Nat} {x:List BSet} {m:Nat} (h:XR bad S o x) (hx:Good x):Vm.pict S [] (m + 3) (.sl 2 o 0 x.length)=some (.fsl 2 (els setc x)):=by
 obtain ⟨es,k1,k2,k3,k4⟩:=h
 refine pict_row k1 k2 (by simp) fun k e he=>?_
 have hlt:=(List.getElem?_eq_some_iff.1 he).1
 obtain ⟨s,hs⟩:∃ s,x[k]?=some s:=⟨_,List.getElem?_eq_getElem (by omega)⟩
 obtain ⟨q,m1,m2,m3,m4⟩:=k4 k s hs
 rw [he] at m1;cases m1
 have hso:=hx s (List.mem_of_getElem? hs)
 have hl:s.ws.length=1:=by rw [hso.1.len,hso.2];rfl
 have hp:Vm.pict S [] (m + 2) (.sl 1 q 0 1)=some (.fsl 1 (els u64c s.ws)):=by
  refine pict_row (es:=els u64c s.ws) m3 (by simp [hl]) (by simp [hl]) fun k e he=>?_
  rw [he]
  simp only [els,List.getElem?_map] at he
  cases hz:s.ws[k]? with
  | none=>rw [hz] at he;cases he
  | some x=>rw [hz] at he;cases he;simp [u64c]
 simp only [mapOpt,hp,pict_int,els_get,hs]
 simp [hso.2]
theorem Wo.keep2 {n:Nat} {ord:List Nat} {S S':St} {W A I H ho:Nat} {ov:AV} {h:List Nat} {o:Nat} {es:List (List AV)} (hw:Wo n ord S W A I H ho ov h) (hob:S.obj o=some (.row 2 es)) (hn:S.next≤S'.next) (hq:∀q,q < S.next→q ≠ o→S'.obj q=S.obj q):Wo n ord S' W A I H ho ov h:=by
 obtain ⟨obj,hp,⟨ea,a1,a2,a3⟩,⟨ei,b1,b2,b3⟩,ids,⟨l1,l2,l3⟩,oo,pm,nd,hlt⟩:=hw
 have nW:W ≠ o:=fun e=>by rw [e,hob] at obj;cases obj
 have nA:A ≠ o:=fun e=>by rw [e,hob] at a1;cases a1
 have nI:I ≠ o:=fun e=>by rw [e,hob] at b1;cases b1
 have nH:H ≠ o:=fun e=>by have:=hp.box;rw [e,hob] at this;cases this
 have nh:ho ≠ o:=fun e=>by have:=hp.row;rw [e,hob] at this;cases this
 refine ⟨by rw [hq W l1 nW];exact obj,⟨by rw [hq H hp.lH nH];exact hp.box,by rw [hq ho hp.lo nh];exact hp.row,hp.ne,by have:=hp.lH;omega,by have:=hp.lo;omega⟩,⟨ea,by rw [hq A l2 nA];exact a1,a2,a3⟩,⟨ei,by rw [hq I l3 nI];exact b1,b2,b3⟩,ids,⟨by omega,by omega,by omega⟩,?_,pm,nd,hlt⟩
 rcases oo with h | ⟨q,rfl,o1,o2,o3⟩
 ·exact .inl h
 ·have nq:q ≠ o:=fun e=>by rw [e,hob] at o2;cases o2
  exact .inr ⟨q,rfl,by omega,by rw [hq q o1 nq];exact o2,o3⟩
def badW (I H ho q:Nat):Prop:=q=I ∨ q=H ∨ q=ho
end Go.Proofs.YtbhkamemheaajaaGreatDoor.Vm
namespace Go.Proofs.YtbhkamemheaajaaGreatDoor.Vm
open Go Go.RowKit
variable {N:Nat} {g:Glob}
theorem slices_Clone_sets {n:Nat} {S:St} {K:AV→St→Prop} (hn:n≤12) (hn0:0 < n) (hk:∀q S',S.next≤q→q < S'.next→Up S S'→S'.obj q=some (.row 2 (List.replicate n [.int .i64 0,.nilsl]))→K (.sl 2 q 0 n) S'):Cal P g 139 [.fsl 2 (List.replicate n [.int .i64 0,.nilsl])] S K:=by
 refine c139.in (by simp) ?_
 have hroom:n≤room:=by simp [room];omega
 have hr0:¬ room=0:=by simp [room]
 simp [k139]
 have hnil:¬ n=0:=by omega
 have hok:okAll 2 (List.replicate n [.int .i64 0,.nilsl]):=by
  simp [okAll,okEl]
 simp [hnil,hroom,hr0,hok,show ¬ room < n by omega]
 refine hk _ _ (by omega) (by simp) ⟨by simp;omega,fun p hp=>by simp [show ¬ p=S.next by omega,show ¬ p=S.next + 1 by omega]⟩ (by simp)
theorem XR.news {S:St} {o:Nat} {x:List BSet} (h:XR (fun _=>False) S o x):XR (fun _=>False) S.news o x:=by
 obtain ⟨es,k1,k2,k3,k4⟩:=h
 refine ⟨es,?_,k2,k3,fun k s hs=>?_⟩
 ·rw [news_obj,k1]
  have:(AObj.row 2 es).young=true:=by
   simp only [AObj.young,youngss_iff,List.mem_flatten]
   rintro v ⟨e,he,hv⟩
   obtain ⟨k,hk⟩:=List.getElem?_of_mem he
   have hlt:=(List.getElem?_eq_some_iff.1 hk).1
   obtain ⟨q,m1,_⟩:=k4 k x[k] (List.getElem?_eq_getElem (by omega))
   rw [hk] at m1;cases m1
   simp at hv
   rcases hv with rfl | rfl <;> rfl
  simp [Option.filter,this]
 ·obtain ⟨q,m1,m2,m3,m4⟩:=k4 k s hs
  refine ⟨q,m1,m2,?_,m4⟩
  rw [news_obj,m3]
  have:(AObj.row 1 (els u64c s.ws)).young=true:=by
   simp only [AObj.young,youngss_iff,List.mem_flatten,els,List.mem_map]
   rintro v ⟨e,⟨w,_,rfl⟩,hv⟩
   simp [u64c] at hv
   subst hv;rfl
  simp [Option.filter,this]
def SolI (n q a:Nat) (S:St):Prop:=q < S.next∧q ≠ 0∧∃ es,S.obj q=some (.row 2 es)∧es.length=n∧(∀e ∈ es,e.length=2)∧∀k,k < a→∃ p,es[k]?=some [.int .i64 6,.sl 1 p 0 1]∧p < S.next∧S.obj p=some (.row 1 (els u64c (BSet.new 6).ws))
theorem SolI.step {n q a:Nat} {S:St} (h:SolI n q a S) (ha:a < n):∃ es,S.obj q=some (.row 2 es)∧es.length=n∧(∀e ∈ es,e.length=2) ∧
  SolI n q (a + 1) ((S.new (.row 1 (els u64c (List.replicate (nw 6) 0)))).set q (.row 2 (es.set a [.int .i64 6,.sl 1 S.next 0 (nw 6)]))):=by
 obtain ⟨h1,h0,es,h2,h3,h5,h4⟩:=h
 refine ⟨es,h2,h3,h5,by simp;omega,h0,_,by simp;rfl,by simp [h3],fun e he=>?_,fun k hk=>?_⟩
 ·rcases List.mem_or_eq_of_mem_set he with h | rfl
  ·exact h5 e h
  ·rfl
 by_cases hka:k=a
 ·subst hka
  refine ⟨S.next,by rw [List.getElem?_set_self (by omega)];rfl,by simp,?_⟩
  simp [show ¬ S.next=q by omega];rfl
 ·obtain ⟨p,k1,k2,k3⟩:=h4 k (by omega)
  have hpq:¬ p=q:=fun e=>by rw [e,h2] at k3;cases k3
  exact ⟨p,by rw [List.getElem?_set_ne (Ne.symm hka)];exact k1,by simp;omega,by simp [hpq,show ¬ p=S.next by omega,k3]⟩
theorem SolI.done {n q:Nat} {S:St} (h:SolI n q n S):XR (fun _=>False) S q (List.replicate n (BSet.new 6)):=by
 obtain ⟨h1,h0,es,h2,h3,h5,h4⟩:=h
 refine ⟨es,h2,by simp [h3],h1,fun k s hs=>?_⟩
 rw [List.getElem?_replicate] at hs
 split at hs
 ·rename_i hk
  cases hs
  obtain ⟨p,k1,k2,k3⟩:=h4 k hk
  exact ⟨p,k1,k2,k3,fun h=>h⟩
 ·cases hs
end Go.Proofs.YtbhkamemheaajaaGreatDoor.Vm
namespace Go.Proofs.YtbhkamemheaajaaGreatDoor.Vm
open Go Go.RowKit
variable {N:Nat} {g:Glob}
theorem solver_Sane1 {S:St} {o n:Nat} {w0 w1 w2 w3:AV} {j:Int} {K:AV→St→Prop} (ho:S.obj o=some (.row 4 [[w0,w1,w2,w3]])) (hw:lenV w1=some n) (hj:0≤j∧j < n) (hk:K (.bool false) S):Cal P g 138 [.int .i64 j,.ptr o 0 0] S K:=by
 refine c138.in (by simp) ?_
 simp [k138,ho,show ¬ j < 0 by omega,show ¬ (n:Int)≤j by omega,hw]
 exact hk
end Go.Proofs.YtbhkamemheaajaaGreatDoor.Vm
namespace Go.Proofs.YtbhkamemheaajaaGreatDoor.Vm
open Go Go.RowKit
variable {N:Nat} {g:Glob}
structure Flo3 (S:St) (v1 v2 v3:AV) (l1 l2 l3:List Blk):Prop where
 a:Has outc 1 S v1 l1
 b:SetsRow S v2 (l2.map Blk.gen)
 c:SetsRow S v3 (l3.map Blk.kill)
 ba:Bel S v1
 la:∀sz q c,v1=.sl sz q 0 c→4≤q
 lb:∀sz q c,v2=.sl sz q 0 c→4≤q
 lc:∀sz q c,v3=.sl sz q 0 c→4≤q
 sep:∀q c d,v2=.sl 2 q 0 c→v3=.sl 2 q 0 d→False
theorem Flo3.up {S S':St} {v1 v2 v3:AV} {l1 l2 l3:List Blk} (h:Flo3 S v1 v2 v3 l1 l2 l3) (hu:Up S S'):Flo3 S' v1 v2 v3 l1 l2 l3 :=
 ⟨h.a.up h.ba hu,h.b.up hu (gens_ws l2),h.c.up hu (kills_ws l3),h.ba.mono hu.1,h.la,h.lb,h.lc,h.sep⟩
end Go.Proofs.YtbhkamemheaajaaGreatDoor.Vm
namespace Go.Proofs.YtbhkamemheaajaaGreatDoor.Vm
open Go Go.RowKit
variable {N:Nat} {g:Glob}
structure FunOK (p:Prg) (f:Fun):Prop where
 vars:f.varsOK
 blks:f.blksOK
 msg:∀b ∈ f.blks,p.blkMsg f b=[]
theorem fn_sane {p:Prg} {i:Int} {f:Fun} (h:p.fn i=some f):p.sane=true∧0≤i∧p.funs[i.toNat]?=some f:=by
 unfold Prg.fn at h
 split at h
 ·rename_i hh;exact ⟨hh.2,hh.1,h⟩
 ·cases h
theorem firstMsg_all {p:Prg} {f:Fun}:∀{l:List Blk},firstMsg p f l=[]→∀b ∈ l,p.blkMsg f b=[]
 | [],_,b,hb=>by cases hb
 | c :: l,h,b,hb=>by
  rw [firstMsg] at h
  split at h
  ·rename_i hc
   rcases List.mem_cons.1 hb with rfl | hb
   ·exact hc
   ·exact firstMsg_all h b hb
  ·rename_i hc;exact absurd h hc
theorem sane_ok {p:Prg} (hs:p.sane=true) {f:Fun} (hf:f ∈ p.funs):FunOK p f:=by
 have h:=(Prg.sane_iff.1 hs).2.1 f hf
 unfold Prg.funMsg at h
 split at h
 ·cases h
 ·rename_i h1
  split at h
  ·cases h
  ·rename_i h2
   exact ⟨Decidable.not_not.1 h1,Decidable.not_not.1 h2,firstMsg_all h⟩
theorem fn_ok {p:Prg} {i:Int} {f:Fun} (h:p.fn i=some f):FunOK p f:=by
 obtain ⟨h1,_,h2⟩:=fn_sane h
 exact sane_ok h1 (List.mem_of_getElem? h2)
theorem FunOK.len {p:Prg} {f:Fun} (h:FunOK p f):0 < f.blks.length∧f.blks.length≤12:=⟨by have:=h.blks.1;omega,h.blks.2.1⟩
theorem FunOK.blk {p:Prg} {f:Fun} (h:FunOK p f) {b:Blk} (hb:b ∈ f.blks):(b.on=false→b.ins=[]∧b.out=[])∧rises b.out=true∧(∀j ∈ b.out,f.live j=true)∧b.ins.length≤16∧∀x ∈ b.ins,p.insOK f x=true:=by
 have hm:=h.msg b hb
 unfold Prg.blkMsg at hm
 split at hm
 ·cases hm
 ·rename_i h1
  split at hm
  ·cases hm
  ·rename_i h2
   split at hm
   ·cases hm
   ·rename_i h3
    refine ⟨fun ho=>?_,?_,fun j hj=>?_,by omega,fun x hx=>?_⟩
    ·have:¬ 0 < b.ins.length + b.out.length:=fun h=>h1 ⟨ho,h⟩
     exact ⟨List.length_eq_zero_iff.1 (by omega),List.length_eq_zero_iff.1 (by omega)⟩
    ·cases hr:rises b.out
     ·exact absurd (.inl hr) h2
     ·rfl
    ·cases hl:f.live j
     ·exact absurd (.inr (List.any_eq_true.2 ⟨j,hj,by simp [hl]⟩)) h2
     ·rfl
    ·cases hl:p.insOK f x
     ·exact absurd (.inr (List.any_eq_true.2 ⟨x,hx,by simp [hl]⟩)) h3
     ·rfl
theorem live_lt {f:Fun} {j:Int} (h:f.live j=true):0≤j∧j < f.blks.length∧∃ b,f.blks[j.toNat]?=some b∧b.on=true:=by
 simp only [Fun.live,Bool.and_eq_true,decide_eq_true_eq] at h
 obtain ⟨h0,h1⟩:=h
 cases hb:f.blks[j.toNat]? with
 | none=>rw [hb] at h1;cases h1
 | some b =>
  rw [hb] at h1
  have:=(List.getElem?_eq_some_iff.1 hb).1
  exact ⟨h0,by omega,b,rfl,h1⟩
theorem rises_at {l:List Int} (h:rises l=true) {lo:Int} (hlo:∀x ∈ l,lo≤x):∀(k:Nat) (x:Int),l[k]?=some x→lo + k≤x:=by
 have hr:risesTo l l.length:=by simpa [rises] using h
 intro k
 induction k with
 | zero=>intro x hx;have:=hlo x (List.mem_of_getElem? hx);omega
 | succ k ih =>
  intro x hx
  have hlt:=(List.getElem?_eq_some_iff.1 hx).1
  have h1:=hr k l[k] x (by omega) (List.getElem?_eq_getElem (by omega)) hx
  have:=ih l[k] (List.getElem?_eq_getElem (by omega))
  omega
theorem FunOK.out {p:Prg} {f:Fun} (h:FunOK p f):∀b ∈ f.blks,b.out.length < 64∧∀j ∈ b.out,0≤j∧j < f.blks.length:=by
 intro b hb
 obtain ⟨_,h1,h2,_⟩:=h.blk hb
 have h3:∀j ∈ b.out,0≤j∧j < f.blks.length:=fun j hj=>⟨(live_lt (h2 j hj)).1,(live_lt (h2 j hj)).2.1⟩
 refine ⟨?_,h3⟩
 have hl:=h.len.2
 cases hz:b.out.length with
 | zero=>omega
 | succ k =>
  have h4:=rises_at h1 (lo:=0) (fun x hx=>(h3 x hx).1) k b.out[k] (List.getElem?_eq_getElem (by omega))
  have h5:=(h3 b.out[k] (List.getElem_mem _)).2
  omega
theorem fsl_one {α:Type} {e:α→List AV} {sz:Nat} {v:AV} {l:List α} (h:FSl e sz v l):v.one=true:=by
 rcases h with rfl | ⟨rfl,_⟩ <;> rfl
end Go.Proofs.YtbhkamemheaajaaGreatDoor.Vm
namespace Go.Proofs.YtbhkamemheaajaaGreatDoor.Vm
open Go Go.RowKit
variable {N:Nat} {g:Glob}
theorem FSl.from {α:Type} {e:α→List AV} {sz:Nat} {v:AV} {l:List α} (h:FSl e sz v l) {k:Nat} (hk:k≤l.length):∃ v',pk (.slice sz true false false) [v,.int .i64 (k:Int)]=some v'∧FSl e sz v' (l.drop k):=by
 rcases h with rfl | ⟨rfl,rfl⟩
 ·refine ⟨.fsl sz (els e (l.drop k)),?_,.inl rfl⟩
  simp [pk,bnds,hk,els,List.take_of_length_le]
 ·refine ⟨.nilsl,?_,.inr ⟨rfl,by simp⟩⟩
  have:k=0:=by simpa using hk
  subst this
  simp [pk,bnds]
noncomputable def Fun.at (f:Fun) (b:Blk) (k:Nat):BSet:=(b.ins.drop k).foldr Ins.live (bigOr (sol f.blks) b.out)
noncomputable def Prg.at (p:Prg) (i j k:Int):BSet:=match p.fn i with
 | none=>BSet.new 6
 | some f=>match f.blk j with
  | none=>BSet.new 6
  | some b=>if 0≤k∧k≤b.ins.length then f.at b k.toNat else BSet.new 6
end Go.Proofs.YtbhkamemheaajaaGreatDoor.Vm
namespace Go.Proofs.YtbhkamemheaajaaGreatDoor.Vm
open Go Go.RowKit
variable {N:Nat} {g:Glob}
theorem insOK_of {p:Prg} {f:Fun} {i:Ins} (h1:i.ok=true) (h2:∀x ∈ i.uses,x < f.vars) (h3:i.def < f.vars) (h4:i.kind ≠ 7):p.insOK f i=true:=by
 have hv:(i.vars.any fun x=>decide (f.vars≤x))=false:=by
  rw [List.any_eq_false]
  intro x hx
  rw [vars_mem] at hx
  rcases hx with hx | ⟨_,rfl⟩
  ·have:=h2 x hx;simp;omega
  ·simp;omega
 simp [Prg.insOK,h1,hv,h4]
end Go.Proofs.YtbhkamemheaajaaGreatDoor.Vm
namespace Go.Proofs.YtbhkamemheaajaaGreatDoor.Vm
open Go Go.RowKit
variable {N:Nat} {g:Glob}
theorem low_and (a:Int):∃ n:Nat,iand IntKind.i64 a 65535=(n:Int):=by
 have h1:(BitVec.ofInt IntKind.i64.bits a &&& BitVec.ofInt IntKind.i64.bits 65535).toNat≤65535:=by
  rw [BitVec.toNat_and]
  exact Nat.and_le_right
 unfold iand
 exact ⟨_,wrap_in (by omega)⟩
theorem once_sub:∀(l out:List Int) (x:Int),x ∈ l.foldl addOnce out→x ∈ out ∨ x ∈ l
 | [],out,x,h=>.inl h
 | y :: l,out,x,h=>by
  rcases once_sub l (addOnce out y) x h with h | h
  ·unfold addOnce at h
   split at h
   ·exact .inl h
   ·rcases List.mem_append.1 h with h | h
    ·exact .inl h
    ·exact .inr (by simp at h;simp [h])
  ·exact .inr (by simp [h])
theorem use_nn {i:Ins} {x:Int} (h:x ∈ i.uses):0≤x:=by
 unfold Ins.uses at h
 split at h
 ·rename_i hok
  have hp:i.okP:=by simpa [Ins.ok] using hok
  rcases once_sub i.all [] x h with h | h
  ·cases h
  ·obtain ⟨_,_,_,_,_,_,_,_,ha,hb,_,h0,h1,h2,_⟩:=hp
   unfold Ins.all at h
   rcases List.mem_append.1 h with h | h
   ·rcases List.mem_append.1 h with h | h
    ·split at h
     ·simp at h;omega
     ·cases h
    ·split at h
     ·simp at h;omega
     ·cases h
   ·have:=List.mem_of_mem_take h
    simp at this
    omega
 ·cases h
theorem ins_vars {p:Prg} {f:Fun} {i:Ins} (h:p.insOK f i=true):(∀x ∈ i.uses,0≤x∧x < f.vars)∧(i.def=-1 ∨ (0≤i.def∧i.def < f.vars)):=by
 simp only [Prg.insOK,Bool.and_eq_true,Bool.not_eq_true',List.any_eq_false,decide_eq_true_eq] at h
 obtain ⟨⟨h1,h2⟩,_⟩:=h
 refine ⟨fun x hx=>⟨use_nn hx,?_⟩,?_⟩
 ·have:=h2 x ((vars_mem i x).2 (.inl hx))
  omega
 ·by_cases hd:i.def=-1
  ·exact .inl hd
  ·refine .inr ⟨?_,?_⟩
   ·have hp:i.okP:=by simpa [Ins.ok] using h1
    have:=hp.2.2.2.2.2.2.2.1
    unfold Ins.def at hd ⊢
    split
    ·exact this
    ·rename_i hh;rw [if_neg hh] at hd;exact absurd rfl hd
   ·have:=h2 i.def ((vars_mem i i.def).2 (.inr ⟨hd,rfl⟩))
    omega
theorem blk_at {f:Fun} {j:Int} {b:Blk} (h:f.blk j=some b):∃ n:Nat,j=(n:Int)∧f.blks[n]?=some b∧b.on=true:=by
 unfold Fun.blk at h
 split at h
 ·rename_i hl
  obtain ⟨h0,_,b',hb',hon⟩:=live_lt hl
  rw [h] at hb';cases hb'
  exact ⟨j.toNat,by omega,h,hon⟩
 ·cases h
end Go.Proofs.YtbhkamemheaajaaGreatDoor.Vm
namespace Go.Proofs.YtbhkamemheaajaaGreatDoor.Vm
open Go Go.RowKit
structure Sys (α:Type) where
 n:Nat
 ev:List α→Nat→α
 rd:Nat→List Int
 ok:α→Prop
 le:α→α→Prop
 bot:α
 ht:α→Nat
 top:Nat
 refl:∀a,ok a→le a a
 trans:∀a b c,ok a→ok b→ok c→le a b→le b c→le a c
 anti:∀a b,ok a→ok b→le a b→le b a→a=b
 botOk:ok bot
 botLe:∀a,ok a→le bot a
 htop:∀a,ok a→ht a≤top
 hlt:∀a b,ok a→ok b→le a b→a ≠ b→ht a < ht b
 evOk:∀x i,x.length=n→(∀a ∈ x,ok a)→i < n→ok (ev x i)
 mono:∀x y i,x.length=n→y.length=n→(∀a ∈ x,ok a)→(∀a ∈ y,ok a)→(∀(k:Nat) a b,x[k]?=some a→y[k]?=some b→le a b)→i < n→le (ev x i) (ev y i)
 dep:∀x i (k:Nat) a,(∀j ∈ rd i,j.toNat ≠ k)→ev (x.set k a) i=ev x i
 nn:∀i,∀j ∈ rd i,0≤j
variable {α:Type} (Y:Sys α)
structure Sys.Fit (x:List α):Prop where
 len:x.length=Y.n
 ok:∀a ∈ x,Y.ok a
def Sys.Post (y:List α):Prop:=Y.Fit y∧∀(i:Nat) a,y[i]?=some a→Y.le (Y.ev y i) a
structure Sys.Mid (x:List α) (T:Nat→Prop):Prop where
 fit:Y.Fit x
 low:∀y,Y.Post y→∀(i:Nat) a b,x[i]?=some a→y[i]?=some b→Y.le a b
 pre:∀(i:Nat) a,x[i]?=some a→Y.le a (Y.ev x i)
 fix:∀(i:Nat) a,x[i]?=some a→¬ T i→a=Y.ev x i
variable {Y}
theorem Sys.Fit.at {x:List α} (h:Y.Fit x) {i:Nat} (hi:i < Y.n):∃ a,x[i]?=some a∧Y.ok a:=by
 have hl:i < x.length:=by rw [h.len];exact hi
 exact ⟨x[i],List.getElem?_eq_getElem hl,h.ok _ (List.getElem_mem _)⟩
theorem Sys.Fit.lt {x:List α} (h:Y.Fit x) {i:Nat} {a:α} (ha:x[i]?=some a):i < Y.n∧Y.ok a:=⟨by rw [← h.len];exact (List.getElem?_eq_some_iff.1 ha).1,h.ok a (List.mem_of_getElem? ha)⟩
theorem Sys.Fit.ev {x:List α} (h:Y.Fit x) {i:Nat} (hi:i < Y.n):Y.ok (Y.ev x i):=Y.evOk x i h.len h.ok hi
theorem Sys.Fit.set {x:List α} (h:Y.Fit x) {i:Nat} {a:α} (ha:Y.ok a):Y.Fit (x.set i a):=by
 refine ⟨by simp [h.len],fun b hb=>?_⟩
 rcases List.mem_or_eq_of_mem_set hb with h1 | h1
 ·exact h.ok b h1
 ·rw [h1];exact ha
theorem Sys.Mid.start:Y.Mid (List.replicate Y.n Y.bot) (fun i=>i < Y.n):=by
 have hm:∀(i:Nat) a,(List.replicate Y.n Y.bot)[i]?=some a→a=Y.bot:=fun i a h=>by
  have:=List.mem_of_getElem? h
  rw [List.mem_replicate] at this
  exact this.2
 have hf:Y.Fit (List.replicate Y.n Y.bot):=⟨by simp,fun a ha=>by rw [List.mem_replicate] at ha;rw [ha.2];exact Y.botOk⟩
 refine ⟨hf,fun y hy i a b ha hb=>?_,fun i a ha=>?_,fun i a ha hT=>?_⟩
 ·rw [hm i a ha];exact Y.botLe b (hy.1.ok b (List.mem_of_getElem? hb))
 ·rw [hm i a ha];exact Y.botLe _ (hf.ev (hf.lt ha).1)
 ·exact absurd (hf.lt ha).1 hT
theorem set_same {α:Type} {x:List α} {i:Nat} {a:α} (h:x[i]?=some a):x.set i a=x:=by
 obtain ⟨hlt,h⟩:=List.getElem?_eq_some_iff.1 h
 rw [← h];exact List.set_getElem_self hlt
theorem Sys.Mid.step {x:List α} {T T':Nat→Prop} (h:Y.Mid x T) {i:Nat} {s:α} (hs:x[i]?=some s)
  (hT:∀k,¬ T' k→k=i ∨ ¬ T k) (hr:s ≠ Y.ev x i→∀k,k < Y.n→(i:Int) ∈ Y.rd k→T' k):Y.Mid (x.set i (Y.ev x i)) T':=by
 have hi:=(h.fit.lt hs).1
 have hok:=h.fit.ev hi
 have hil:i < x.length:=by rw [h.fit.len];exact hi
 have hf':=h.fit.set (i:=i) hok
 have hge:∀(k:Nat) a b,x[k]?=some a→(x.set i (Y.ev x i))[k]?=some b→Y.le a b:=fun k a b ha hb=>by
  by_cases hk:k=i
  ·subst hk
   rw [List.getElem?_set_self hil] at hb
   cases hb
   exact h.pre k a ha
  ·rw [List.getElem?_set_ne (Ne.symm hk)] at hb
   rw [ha] at hb;cases hb
   exact Y.refl a (h.fit.lt ha).2
 have hup:∀k,k < Y.n→Y.le (Y.ev x k) (Y.ev (x.set i (Y.ev x i)) k):=fun k hk=>Y.mono _ _ k h.fit.len hf'.len h.fit.ok hf'.ok hge hk
 refine ⟨hf',fun y hy k a b ha hb=>?_,fun k a ha=>?_,fun k a ha hnT=>?_⟩
 ·by_cases hk:k=i
  ·subst hk
   rw [List.getElem?_set_self hil] at ha
   cases ha
   have h1:=Y.mono x y k h.fit.len hy.1.len h.fit.ok hy.1.ok (fun j a b ha hb=>h.low y hy j a b ha hb) hi
   exact Y.trans _ _ _ hok (hy.1.ev hi) (hy.1.lt hb).2 h1 (hy.2 k b hb)
  ·rw [List.getElem?_set_ne (Ne.symm hk)] at ha
   exact h.low y hy k a b ha hb
 ·by_cases hk:k=i
  ·subst hk
   rw [List.getElem?_set_self hil] at ha
   cases ha
   exact hup k hi
  ·rw [List.getElem?_set_ne (Ne.symm hk)] at ha
   have h1:=h.fit.lt ha
   exact Y.trans _ _ _ h1.2 (h.fit.ev h1.1) (hf'.ev h1.1) (h.pre k a ha) (hup k h1.1)
 ·by_cases he:s=Y.ev x i
  ·rw [← he,set_same hs] at ha ⊢
   by_cases hk:k=i
   ·subst hk
    rw [hs] at ha;cases ha
    exact he
   ·exact h.fix k a ha ((hT k hnT).resolve_left hk)
  ·have hkn:=(hf'.lt ha).1
   have hno:∀j ∈ Y.rd k,j.toNat ≠ i:=by
    intro j hj e
    have:=Y.nn k j hj
    exact hnT (hr he k hkn (by rw [← e,Int.toNat_of_nonneg this];exact hj))
   rw [Y.dep x k i _ hno]
   by_cases hk:k=i
   ·subst hk
    rw [List.getElem?_set_self hil] at ha
    cases ha;rfl
   ·rw [List.getElem?_set_ne (Ne.symm hk)] at ha
    exact h.fix k a ha ((hT k hnT).resolve_left hk)
structure Sys.Least (Y:Sys α) (x:List α):Prop where
 fit:Y.Fit x
 fix:∀(i:Nat) a,x[i]?=some a→a=Y.ev x i
 low:∀y,Y.Post y→∀(i:Nat) a b,x[i]?=some a→y[i]?=some b→Y.le a b
theorem Sys.Mid.done {x:List α} {T:Nat→Prop} (h:Y.Mid x T) (hT:∀k,¬ T k):Y.Least x:=⟨h.fit,fun i a ha=>h.fix i a ha (hT i),h.low⟩
theorem Sys.Least.post {x:List α} (h:Y.Least x):Y.Post x:=⟨h.fit,fun i a ha=>by
 have:=h.fix i a ha
 rw [← this]
 exact Y.refl a (h.fit.lt ha).2⟩
theorem Sys.Least.eq {x y:List α} (h:Y.Least x) (h':Y.Least y):x=y:=by
 apply List.ext_getElem?
 intro i
 by_cases hi:i < Y.n
 ·obtain ⟨a,ha,ka⟩:=h.fit.at hi
  obtain ⟨b,hb,kb⟩:=h'.fit.at hi
  rw [ha,hb,Y.anti a b ka kb (h.low y h'.post i a b ha hb) (h'.low x h.post i b a hb ha)]
 ·rw [List.getElem?_eq_none (by rw [h.fit.len];omega),List.getElem?_eq_none (by rw [h'.fit.len];omega)]
noncomputable def Sys.sol (Y:Sys α):List α:=open Classical in if h:∃ x,Y.Least x then h.choose else []
theorem Sys.Least.sol {x:List α} (h:Y.Least x):x=Y.sol:=by
 unfold Sys.sol
 rw [dif_pos ⟨x,h⟩]
 exact h.eq (Exists.choose_spec (⟨x,h⟩:∃ x,Y.Least x))
def Sys.gap (Y:Sys α) (x:List α):Nat:=(x.map fun a=>Y.top - Y.ht a).sum
theorem Sys.gap_set {x:List α} (hx:∀a ∈ x,Y.ok a) {i:Nat} {s t:α} (hs:x[i]?=some s) (ht:Y.ok t) (hle:Y.le s t) (hne:s ≠ t):Y.gap (x.set i t) < Y.gap x:=by
 have hso:=hx s (List.mem_of_getElem? hs)
 have h1:=Y.hlt s t hso ht hle hne
 have h2:=Y.htop t ht
 unfold Sys.gap
 clear hx
 induction x generalizing i with
 | nil=>simp at hs
 | cons a x ih =>
  cases i with
  | zero =>
   simp at hs;subst hs
   simp only [List.set_cons_zero,List.map_cons,List.sum_cons]
   omega
  | succ i =>
   simp only [List.set_cons_succ,List.map_cons,List.sum_cons]
   have:=ih (by simpa using hs)
   omega
theorem Sys.Mid.ends:∀(m:Nat) {x:List α},Y.Mid x (fun _=>True)→Y.gap x≤m→∃ x,Y.Least x:=by
 intro m
 induction m with
 | zero =>
  intro x h hm
  by_cases hall:∀(i:Nat) a,x[i]?=some a→a=Y.ev x i
  ·exact ⟨x,h.fit,hall,h.low⟩
  ·have:∃ (i:Nat) (a:α),x[i]?=some a∧a ≠ Y.ev x i:=Classical.byContradiction fun hno=>hall fun i a ha=>Classical.byContradiction fun hne=>hno ⟨i,a,ha,hne⟩
   obtain ⟨i,a,ha,hne⟩:=this
   have:=Y.gap_set h.fit.ok ha (h.fit.ev (h.fit.lt ha).1) (h.pre i a ha) hne
   omega
 | succ m ih =>
  intro x h hm
  by_cases hall:∀(i:Nat) a,x[i]?=some a→a=Y.ev x i
  ·exact ⟨x,h.fit,hall,h.low⟩
  ·have:∃ (i:Nat) (a:α),x[i]?=some a∧a ≠ Y.ev x i:=Classical.byContradiction fun hno=>hall fun i a ha=>Classical.byContradiction fun hne=>hno ⟨i,a,ha,hne⟩
   obtain ⟨i,a,ha,hne⟩:=this
   have:=Y.gap_set h.fit.ok ha (h.fit.ev (h.fit.lt ha).1) (h.pre i a ha) hne
   exact ih (h.step (T':=fun _=>True) ha (fun k hk=>absurd trivial hk) fun _ _ _ _=>trivial) (by omega)
theorem Sys.least (Y:Sys α):Y.Least Y.sol:=by
 obtain ⟨x,hx⟩:=Sys.Mid.ends (Y.gap (List.replicate Y.n Y.bot)) (Y:=Y) (x:=List.replicate Y.n Y.bot) (by
  have:=Sys.Mid.start (Y:=Y)
  exact ⟨this.fit,this.low,this.pre,fun i a ha h=>absurd trivial h⟩) (Nat.le_refl _)
 rw [← hx.sol];exact hx
end Go.Proofs.YtbhkamemheaajaaGreatDoor.Vm
namespace Go.Proofs.YtbhkamemheaajaaGreatDoor.Vm
open Go Go.RowKit
variable {N:Nat} {g:Glob}
abbrev Env:=Option (List Val)
@[simp] def valc (v:Val):List AV:=[.int .i64 v.k,.int .i64 v.c]
instance:PlainE valc:=⟨fun x=>by simp [valc,AV.stab]⟩
def envc:Env→List AV
 | none=>[.bool false,.nilsl]
 | some l=>[.bool true,.fsl 2 (els valc l)]
@[simp] theorem envc_none:envc none=[.bool false,.nilsl]:=_root_.id rfl
@[simp] theorem envc_some {l:List Val}:envc (some l)=[.bool true,.fsl 2 (els valc l)]:=_root_.id rfl
@[simp] def encE (e:Env):AV:=.agg (envc e)
def opsV:AV:=.agg [.func (.func 127) [] [],.func (.func 128) [] []]
theorem pict_rowP {α:Type} {e:α→List AV} [PlainE e] {S:St} {o sz k n:Nat} {l:List α} (h:S.obj o=some (.row sz (els e l))) (hk:l.length=k):pict S [] (n + 2) (.sl sz o 0 k)=some (.fsl sz (els e l)):=by
 subst hk
 rw [pict_sl,elems_sl h (by simp)]
 simp [els_take]
def Val.zero:Val:=⟨0,0⟩
theorem Val.sane_ok (v:Val):v.sane.ok=true:=by
 unfold Val.sane
 split
 ·assumption
 ·rfl
theorem Val.sane_of {v:Val} (h:v.ok=true):v.sane=v:=by unfold Val.sane;rw [if_pos h]
theorem Val.ok_bot {v:Val} (h:v.ok=true) (hk:v.k=0):v=Val.zero:=by
 obtain ⟨k,c⟩:=v
 simp only at hk
 subst hk
 simp [Val.ok] at h
 simp [Val.zero,h]
def getL (l:List Val) (i:Int):Val:=if 0≤i∧i < l.length then (l.getD i.toNat Val.zero).sane else Val.zero
def Env.get (e:Env) (i:Int):Val:=match e with
 | none=>Val.zero
 | some l=>getL l i
@[simp] theorem pict_opsV {S:St} {n:Nat}:pict S [] (n + 3) opsV=some opsV:=by simp [opsV,pict_func]
@[simp] theorem solid_opsV:opsV.solid=true:=by simp [opsV]
@[simp] theorem cells_opsV:opsV.cells=[.func (.func 127) [] [],.func (.func 128) [] []]:=rfl
def ownL (l:List Val) (n:Nat):List Val:=(List.range (max n l.length)).map fun k:Nat=>getL l (k:Int)
theorem ownL_len (l:List Val) (n:Nat):(ownL l n).length=max n l.length:=by simp [ownL]
def Env.own (e:Env):Env:=e.map fun l=>ownL l 0
end Go.Proofs.YtbhkamemheaajaaGreatDoor.Vm
namespace Go.Proofs.YtbhkamemheaajaaGreatDoor.Vm
open Go Go.RowKit
variable {N:Nat} {g:Glob}
@[simp] theorem picts_envc {S:St} {n:Nat} (e:Env):mapOpt (pict S [] (n + 1)) (envc e)=some (envc e):=by cases e <;> simp [mapOpt]
@[simp] theorem pict_envE {S:St} {n:Nat} (e:Env):pict S [] (n + 2) (encE e)=some (encE e):=by cases e <;> simp [mapOpt]
@[simp] theorem pict_envc {S:St} {n:Nat} (e:Env):pict S [] (n + 2) (.agg (envc e))=some (.agg (envc e)):=pict_envE e
@[simp] theorem solid_envc (e:Env):solids (envc e)=true:=by cases e <;> simp
@[simp] theorem envc_len (e:Env):(envc e).length=2:=by cases e <;> rfl
@[simp] theorem envc_ones (e:Env):(∀x,x ∈ envc e→x.one=true)=True:=by cases e <;> simp
@[simp] theorem take_envc (e:Env):(envc e).take 2=envc e:=by cases e <;> rfl
@[simp] theorem over_envc (u v:AV) (e:Env):over [u,v] 0 (envc e)=envc e:=by cases e <;> rfl
@[simp] theorem over_envc2 (e' e:Env):over (envc e') 0 (envc e)=envc e:=by cases e <;> cases e' <;> rfl
@[simp] theorem okEl_envc (e:Env):okEl 2 (envc e)=true:=by cases e <;> rfl
def joinL (l m:List Val):List Val:=(List.range (max m.length l.length)).map fun k:Nat=>(getL l k).join (getL m k)
def Env.join (a b:Env):Env:=match a,b with
 | none,b=>b.own
 | a,none=>a.own
 | some l,some m=>some (joinL l m)
theorem getL_ownL (l:List Val) (n:Nat) {k:Nat} (hk:k < max n l.length):(ownL l n)[k]?=some (getL l k):=by simp [ownL,hk]
def Env.set (e:Env) (i:Int) (v:Val):Env:=e.own.map fun l=>if 0≤i∧i < l.length then l.set i.toNat v.sane else l
def leqL (l m:List Val) (k:Nat):Prop:=∀j,j < k→(getL l (j:Nat)).leq (getL m (j:Nat))=true
noncomputable instance (l m:List Val) (k:Nat):Decidable (leqL l m k):=Classical.propDecidable _
noncomputable def Env.leq (a b:Env):Bool:=match a,b with
 | none,_=>true
 | some _,none=>false
 | some l,some m=>decide (leqL l m (max l.length m.length))
end Go.Proofs.YtbhkamemheaajaaGreatDoor.Vm
namespace Go.Proofs.YtbhkamemheaajaaGreatDoor.Vm
open Go Go.RowKit
variable {N:Nat} {g:Glob}
def capN (n:Int):Nat:=(max 0 (min n 64)).toNat
def startL (par vars:Int):List Val:=(List.range (capN vars)).map fun k:Nat=>if (k:Int) < par then ⟨2,0⟩ else ⟨1,0⟩
theorem startL_len (par vars:Int):(startL par vars).length=capN vars:=by simp [startL]
def Ins.number (i:Ins) (e:Env):Val :=
 if i.kind=0 then ⟨1,wrap32 i.c⟩ else if i.kind=1 then e.get i.a else if i.kind=2 then Val.each i64sub ⟨1,wrap32 0⟩ (e.get i.a) else if i.kind=3 then (e.get i.a).each i64add (e.get i.b) else
 if i.kind=4 then (e.get i.a).each i64sub (e.get i.b) else if i.kind=5 then (e.get i.a).each i64mul (e.get i.b) else ⟨2,0⟩
def Ins.flat (i:Ins) (e:Env):Env:=e.set i.def (i.number e)
def pastL (e:Env) (l:List Ins):Env:=l.foldl (fun e i=>i.flat e) e
end Go.Proofs.YtbhkamemheaajaaGreatDoor.Vm
namespace Go.Proofs.YtbhkamemheaajaaGreatDoor.Vm
open Go Go.RowKit
theorem Val.cases {v:Val} (h:v.ok=true):v=⟨0,0⟩ ∨ v=⟨2,0⟩ ∨ ∃ c,v=⟨1,c⟩:=by
 obtain ⟨k,c⟩:=v
 unfold Val.ok at h
 simp only at h
 split at h
 ·rename_i hk;subst hk;exact .inr (.inr ⟨c,rfl⟩)
 ·split at h
  ·rename_i h1 hk
   simp only [decide_eq_true_eq] at h
   subst h
   rcases hk with rfl | rfl
   ·exact .inl rfl
   ·exact .inr (.inl rfl)
  ·cases h
theorem Val.join_of {a b:Val} (ha:a.ok=true) (hb:b.ok=true):a.join b=if a.k=0 ∨ a=b then b else if b.k=0 then a else ⟨2,0⟩:=by
 unfold Val.join;rw [Val.sane_of ha,Val.sane_of hb]
def Val.le (a b:Val):Prop:=a.k=0 ∨ b.k=2 ∨ a=b
theorem Val.le_refl (a:Val):a.le a:=.inr (.inr rfl)
theorem Val.ok_top {v:Val} (h:v.ok=true) (hk:v.k=2):v=⟨2,0⟩:=by
 rcases Val.cases h with rfl | rfl | ⟨c,rfl⟩
 ·cases hk
 ·rfl
 ·cases hk
theorem Val.le_trans {a b c:Val} (hb:b.ok=true) (h1:a.le b) (h2:b.le c):a.le c:=by
 rcases h1 with h1 | h1 | h1
 ·exact .inl h1
 ·rcases h2 with h2 | h2 | h2
  ·rw [h1] at h2;cases h2
  ·exact .inr (.inl h2)
  ·rw [← h2];exact .inr (.inl h1)
 ·rw [h1];exact h2
theorem Val.le_anti {a b:Val} (ha:a.ok=true) (hb:b.ok=true) (h1:a.le b) (h2:b.le a):a=b:=by
 rcases h1 with h1 | h1 | h1
 ·rcases h2 with h2 | h2 | h2
  ·rw [Val.ok_bot ha h1,Val.ok_bot hb h2]
  ·rw [h1] at h2;cases h2
  ·exact h2.symm
 ·rcases h2 with h2 | h2 | h2
  ·rw [h1] at h2;cases h2
  ·rw [Val.ok_top ha h2,Val.ok_top hb h1]
  ·exact h2.symm
 ·exact h1
theorem Val.join_ok {a b:Val} (ha:a.ok=true) (hb:b.ok=true):(a.join b).ok=true:=by
 rw [Val.join_of ha hb]
 split
 ·exact hb
 ·split
  ·exact ha
  ·rfl
theorem Val.join_ok' (a b:Val):(a.join b).ok=true:=by
 unfold Val.join
 split
 ·exact b.sane_ok
 ·split
  ·exact a.sane_ok
  ·rfl
theorem Val.le_join_l {a b:Val} (ha:a.ok=true) (hb:b.ok=true):a.le (a.join b):=by
 rw [Val.join_of ha hb]
 split
 ·rename_i h
  rcases h with h | h
  ·exact .inl h
  ·exact .inr (.inr h)
 ·split
  ·exact Val.le_refl a
  ·exact .inr (.inl rfl)
theorem Val.le_join_r {a b:Val} (ha:a.ok=true) (hb:b.ok=true):b.le (a.join b):=by
 rw [Val.join_of ha hb]
 split
 ·exact Val.le_refl b
 ·split
  ·rename_i h;exact .inl h
  ·exact .inr (.inl rfl)
theorem Val.join_le {a b c:Val} (ha:a.ok=true) (hb:b.ok=true) (hc:c.ok=true) (h1:a.le c) (h2:b.le c):(a.join b).le c:=by
 rw [Val.join_of ha hb]
 split
 ·exact h2
 ·split
  ·exact h1
  ·rename_i h3 h4
   rcases h1 with h1 | h1 | h1
   ·exact absurd (.inl h1) h3
   ·exact .inr (.inl h1)
   ·rcases h2 with h2 | h2 | h2
    ·exact absurd h2 h4
    ·exact .inr (.inl h2)
    ·exact absurd (.inr (h1.trans h2.symm)) h3
theorem Val.join_mono {a b a' b':Val} (ha:a.ok=true) (hb:b.ok=true) (ha':a'.ok=true) (hb':b'.ok=true) (h1:a.le a') (h2:b.le b'):(a.join b).le (a'.join b') :=
 Val.join_le ha hb (Val.join_ok ha' hb') (Val.le_trans ha' h1 (Val.le_join_l ha' hb')) (Val.le_trans hb' h2 (Val.le_join_r ha' hb'))
theorem Val.each_of {op:Int→Int→Int} {a b:Val} (ha:a.ok=true) (hb:b.ok=true):a.each op b=if a.k=0 ∨ b.k=0 then ⟨0,0⟩ else if a.k=2 ∨ b.k=2 then ⟨2,0⟩ else ⟨1,wrap32 (op a.c b.c)⟩:=by
 unfold Val.each;rw [Val.sane_of ha,Val.sane_of hb]
theorem Val.one_ok (n:Int):(⟨1,wrap32 n⟩:Val).ok=true:=by
 have:=wrap32_in n
 simp [Val.ok,this]
theorem Val.each_ok (op:Int→Int→Int) (a b:Val):(a.each op b).ok=true:=by
 unfold Val.each
 split
 ·rfl
 ·split
  ·rfl
  ·exact Val.one_ok _
theorem Val.each_mono {op:Int→Int→Int} {a b a' b':Val} (ha:a.ok=true) (hb:b.ok=true) (ha':a'.ok=true) (hb':b'.ok=true) (h1:a.le a') (h2:b.le b'):(a.each op b).le (a'.each op b'):=by
 have e3:=Val.each_of (op:=op) ha' hb'
 rw [Val.each_of ha hb]
 by_cases h0:a.k=0 ∨ b.k=0
 ·rw [if_pos h0];exact .inl rfl
 ·rw [if_neg h0]
  have n1:a'.k ≠ 0:=by
   intro h
   rcases h1 with h1 | h1 | h1
   ·exact h0 (.inl h1)
   ·rw [h] at h1;cases h1
   ·rw [← h1] at h;exact h0 (.inl h)
  have n2:b'.k ≠ 0:=by
   intro h
   rcases h2 with h2 | h2 | h2
   ·exact h0 (.inr h2)
   ·rw [h] at h2;cases h2
   ·rw [← h2] at h;exact h0 (.inr h)
  rw [if_neg (fun h=>h.elim n1 n2)] at e3
  by_cases h3:a'.k=2 ∨ b'.k=2
  ·rw [if_pos h3] at e3
   rw [e3];exact .inr (.inl rfl)
  ·rw [if_neg h3] at e3
   rw [e3]
   have e1:a=a':=by
    rcases h1 with h1 | h1 | h1
    ·exact absurd (.inl h1) h0
    ·exact absurd (.inl h1) h3
    ·exact h1
   have e2:b=b':=by
    rcases h2 with h2 | h2 | h2
    ·exact absurd (.inr h2) h0
    ·exact absurd (.inr h2) h3
    ·exact h2
   subst e1;subst e2
   rw [if_neg h3]
   exact Val.le_refl _
theorem Val.le_k {a b:Val} (ha:a.ok=true) (hb:b.ok=true) (h:a.le b):a.k.toNat≤b.k.toNat∧(a ≠ b→a.k.toNat < b.k.toNat)∧b.k.toNat≤2:=by
 rcases Val.cases ha with rfl | rfl | ⟨c,rfl⟩ <;> rcases Val.cases hb with rfl | rfl | ⟨d,rfl⟩ <;> simp [Val.le] at h ⊢
 exact h
def okL (l:List Val):Prop:=∀v ∈ l,v.ok=true
theorem getL_of {l:List Val} (h:okL l) {k:Nat} {v:Val} (hv:l[k]?=some v):getL l (k:Int)=v:=by
 have hk:=(List.getElem?_eq_some_iff.1 hv).1
 unfold getL
 rw [if_pos (by omega)]
 simp only [Int.toNat_natCast,List.getD_eq_getElem?_getD,hv,Option.getD_some]
 exact Val.sane_of (h v (List.mem_of_getElem? hv))
theorem getL_ok (l:List Val) (i:Int):(getL l i).ok=true:=by
 unfold getL
 split
 ·exact Val.sane_ok _
 ·rfl
theorem ownL_of {l:List Val} (h:okL l):ownL l 0=l:=by
 apply List.ext_getElem?
 intro k
 by_cases hk:k < l.length
 ·obtain ⟨v,hv⟩:∃ v,l[k]?=some v:=⟨_,List.getElem?_eq_getElem hk⟩
  rw [getL_ownL l 0 (by omega),getL_of h hv,hv]
 ·rw [List.getElem?_eq_none (by rw [ownL_len];omega),List.getElem?_eq_none (by omega)]
def leL (l m:List Val):Prop:=∀(k:Nat) (a b:Val),l[k]?=some a→m[k]?=some b→a.le b
theorem getL_mono {l m:List Val} (hl:okL l) (hm:okL m) (hn:l.length=m.length) (h:leL l m) (i:Int):(getL l i).le (getL m i):=by
 by_cases hi:0≤i∧i < l.length
 ·obtain ⟨k,rfl⟩:∃ k:Nat,i=(k:Int):=⟨i.toNat,by omega⟩
  obtain ⟨a,ha⟩:∃ v,l[k]?=some v:=⟨_,List.getElem?_eq_getElem (by omega)⟩
  obtain ⟨b,hb⟩:∃ v,m[k]?=some v:=⟨_,List.getElem?_eq_getElem (by omega)⟩
  rw [getL_of hl ha,getL_of hm hb]
  exact h k a b ha hb
 ·have e:getL l i=Val.zero:=by unfold getL;rw [if_neg hi]
  rw [e];exact .inl rfl
def Env.fit (n:Nat) (e:Env):Prop:=∀l,e=some l→l.length=n∧okL l
def Env.le (a b:Env):Prop:=∀l,a=some l→∃ m,b=some m∧leL l m
theorem Env.fit_none (n:Nat):Env.fit n none:=fun l h=>by cases h
theorem Env.fit_some {n:Nat} {l:List Val} (h1:l.length=n) (h2:okL l):Env.fit n (some l):=fun m h=>by cases h;exact ⟨h1,h2⟩
theorem Env.own_of {n:Nat} {e:Env} (h:e.fit n):e.own=e:=by
 cases e with
 | none=>rfl
 | some l=>simp [Env.own,ownL_of (h l rfl).2]
theorem Env.le_refl (e:Env):e.le e:=fun l h=>⟨l,h,fun k a b ha hb=>by rw [ha] at hb;cases hb;exact Val.le_refl a⟩
theorem Env.le_none (e:Env):Env.le none e:=fun l h=>by cases h
theorem Env.le_trans {n:Nat} {a b c:Env} (hb:b.fit n) (hc:c.fit n) (h1:a.le b) (h2:b.le c) (ha:a.fit n):a.le c:=by
 intro l hl
 obtain ⟨m,hm,h3⟩:=h1 l hl
 obtain ⟨q,hq,h4⟩:=h2 m hm
 refine ⟨q,hq,fun k x z hx hz=>?_⟩
 have hk:=(List.getElem?_eq_some_iff.1 hx).1
 have e1:=(ha l hl).1
 have e2:=(hb m hm).1
 obtain ⟨y,hy⟩:∃ v,m[k]?=some v:=⟨_,List.getElem?_eq_getElem (by omega)⟩
 exact Val.le_trans ((hb m hm).2 y (List.mem_of_getElem? hy)) (h3 k x y hx hy) (h4 k y z hy hz)
theorem Env.le_anti {n:Nat} {a b:Env} (ha:a.fit n) (hb:b.fit n) (h1:a.le b) (h2:b.le a):a=b:=by
 cases a with
 | none =>
  cases b with
  | none=>rfl
  | some m=>obtain ⟨l,hl,_⟩:=h2 m rfl;cases hl
 | some l =>
  obtain ⟨m,hm,h3⟩:=h1 l rfl
  subst hm
  obtain ⟨l',hl',h4⟩:=h2 m rfl
  cases hl'
  congr 1
  have e1:=(ha l rfl).1
  have e2:=(hb m rfl).1
  apply List.ext_getElem?
  intro k
  by_cases hk:k < n
  ·obtain ⟨x,hx⟩:∃ v,l[k]?=some v:=⟨_,List.getElem?_eq_getElem (by omega)⟩
   obtain ⟨y,hy⟩:∃ v,m[k]?=some v:=⟨_,List.getElem?_eq_getElem (by omega)⟩
   rw [hx,hy,Val.le_anti ((ha l rfl).2 x (List.mem_of_getElem? hx)) ((hb m rfl).2 y (List.mem_of_getElem? hy)) (h3 k x y hx hy) (h4 k y x hy hx)]
  ·rw [List.getElem?_eq_none (by omega),List.getElem?_eq_none (by omega)]
theorem joinL_get {l m:List Val} {n:Nat} (hl:l.length=n) (hm:m.length=n) {k:Nat} (hk:k < n):(joinL l m)[k]?=some ((getL l k).join (getL m k)):=by
 simp [joinL,hl,hm,hk]
theorem Env.join_fit {n:Nat} {a b:Env} (ha:a.fit n) (hb:b.fit n):(a.join b).fit n:=by
 cases a with
 | none=>show Env.fit n b.own;rw [Env.own_of hb];exact hb
 | some l =>
  cases b with
  | none=>show Env.fit n (Env.own (some l));rw [Env.own_of ha];exact ha
  | some m =>
   refine Env.fit_some ?_ fun v hv=>?_
   ·simp [joinL,(ha l rfl).1,(hb m rfl).1]
   ·simp only [joinL,List.mem_map] at hv
    obtain ⟨k,_,rfl⟩:=hv
    exact Val.join_ok' _ _
theorem Env.le_join_l {n:Nat} {a b:Env} (ha:a.fit n) (hb:b.fit n):a.le (a.join b):=by
 cases a with
 | none=>exact Env.le_none _
 | some l =>
  cases b with
  | none=>show Env.le (some l) (Env.own (some l));rw [Env.own_of ha];exact Env.le_refl _
  | some m =>
   intro l' hl'
   cases hl'
   refine ⟨joinL l m,rfl,fun k x z hx hz=>?_⟩
   have hk:=(List.getElem?_eq_some_iff.1 hx).1
   rw [joinL_get (ha l rfl).1 (hb m rfl).1 (by have:=(ha l rfl).1;omega),getL_of (ha l rfl).2 hx] at hz
   cases hz
   exact Val.le_join_l ((ha l rfl).2 x (List.mem_of_getElem? hx)) (getL_ok _ _)
theorem Env.le_join_r {n:Nat} {a b:Env} (ha:a.fit n) (hb:b.fit n):b.le (a.join b):=by
 cases a with
 | none=>show Env.le b b.own;rw [Env.own_of hb];exact Env.le_refl _
 | some l =>
  cases b with
  | none=>exact Env.le_none _
  | some m =>
   intro l' hl'
   cases hl'
   refine ⟨joinL l m,rfl,fun k x z hx hz=>?_⟩
   have hk:=(List.getElem?_eq_some_iff.1 hx).1
   rw [joinL_get (ha l rfl).1 (hb m rfl).1 (by have:=(hb m rfl).1;omega),getL_of (hb m rfl).2 hx] at hz
   cases hz
   exact Val.le_join_r (getL_ok _ _) ((hb m rfl).2 x (List.mem_of_getElem? hx))
theorem Env.join_le {n:Nat} {a b c:Env} (ha:a.fit n) (hb:b.fit n) (hc:c.fit n) (h1:a.le c) (h2:b.le c):(a.join b).le c:=by
 cases a with
 | none=>show Env.le b.own c;rw [Env.own_of hb];exact h2
 | some l =>
  cases b with
  | none=>show Env.le (Env.own (some l)) c;rw [Env.own_of ha];exact h1
  | some m =>
   intro l' hl'
   cases hl'
   obtain ⟨q,hq,h3⟩:=h1 l rfl
   obtain ⟨q',hq',h4⟩:=h2 m rfl
   rw [hq] at hq';cases hq'
   refine ⟨q,hq,fun k x z hx hz=>?_⟩
   have hk:=(List.getElem?_eq_some_iff.1 hz).1
   have e1:=(ha l rfl).1
   have e2:=(hb m rfl).1
   have e3:=(hc q hq).1
   obtain ⟨u,hu⟩:∃ v,l[k]?=some v:=⟨_,List.getElem?_eq_getElem (by omega)⟩
   obtain ⟨v,hv⟩:∃ v,m[k]?=some v:=⟨_,List.getElem?_eq_getElem (by omega)⟩
   rw [joinL_get e1 e2 (by omega),getL_of (ha l rfl).2 hu,getL_of (hb m rfl).2 hv] at hx
   cases hx
   exact Val.join_le ((ha l rfl).2 u (List.mem_of_getElem? hu)) ((hb m rfl).2 v (List.mem_of_getElem? hv)) ((hc q hq).2 z (List.mem_of_getElem? hz)) (h3 k u z hu hz) (h4 k v z hv hz)
theorem Env.join_mono {n:Nat} {a b a' b':Env} (ha:a.fit n) (hb:b.fit n) (ha':a'.fit n) (hb':b'.fit n) (h1:a.le a') (h2:b.le b'):(a.join b).le (a'.join b') :=
 Env.join_le ha hb (Env.join_fit ha' hb') (Env.le_trans ha' (Env.join_fit ha' hb') h1 (Env.le_join_l ha' hb') ha) (Env.le_trans hb' (Env.join_fit ha' hb') h2 (Env.le_join_r ha' hb') hb)
theorem Env.get_ok (e:Env) (i:Int):(e.get i).ok=true:=by
 cases e with
 | none=>rfl
 | some l=>exact getL_ok l i
theorem Env.get_mono {n:Nat} {a b:Env} (ha:a.fit n) (hb:b.fit n) (h:a.le b) (i:Int):(a.get i).le (b.get i):=by
 cases a with
 | none=>exact .inl rfl
 | some l =>
  obtain ⟨m,hm,h3⟩:=h l rfl
  subst hm
  exact getL_mono (ha l rfl).2 (hb m rfl).2 (by rw [(ha l rfl).1,(hb m rfl).1]) h3 i
theorem Env.set_of {n:Nat} {l:List Val} (h:Env.fit n (some l)) (i:Int) {v:Val} (hv:v.ok=true):Env.set (some l) i v=some (if 0≤i∧i < n then l.set i.toNat v else l):=by
 show Option.map _ (Env.own (some l))=_
 rw [Env.own_of h]
 simp [Val.sane_of hv,(h l rfl).1]
theorem Env.set_fit {n:Nat} {e:Env} (h:e.fit n) (i:Int) {v:Val} (hv:v.ok=true):(e.set i v).fit n:=by
 cases e with
 | none=>exact Env.fit_none n
 | some l =>
  rw [Env.set_of h i hv]
  refine Env.fit_some ?_ fun u hu=>?_
  ·split <;> simp [(h l rfl).1]
  ·split at hu
   ·rcases List.mem_or_eq_of_mem_set hu with h1 | h1
    ·exact (h l rfl).2 u h1
    ·rw [h1];exact hv
   ·exact (h l rfl).2 u hu
theorem Env.set_mono {n:Nat} {a b:Env} (ha:a.fit n) (hb:b.fit n) (h:a.le b) (i:Int) {u v:Val} (hu:u.ok=true) (hv:v.ok=true) (huv:u.le v):(a.set i u).le (b.set i v):=by
 cases a with
 | none=>exact Env.le_none _
 | some l =>
  obtain ⟨m,hm,h3⟩:=h l rfl
  subst hm
  rw [Env.set_of ha i hu,Env.set_of hb i hv]
  intro l' hl'
  cases hl'
  refine ⟨_,rfl,fun k x y hx hy=>?_⟩
  by_cases hi:0≤i∧i < n
  ·rw [if_pos hi] at hx hy
   by_cases hk:k=i.toNat
   ·subst hk
    rw [List.getElem?_set_self (by rw [(ha l rfl).1];omega)] at hx
    rw [List.getElem?_set_self (by rw [(hb m rfl).1];omega)] at hy
    cases hx;cases hy;exact huv
   ·rw [List.getElem?_set_ne (Ne.symm hk)] at hx hy
    exact h3 k x y hx hy
  ·rw [if_neg hi] at hx hy
   exact h3 k x y hx hy
theorem Ins.number_ok (i:Ins) (e:Env):(i.number e).ok=true:=by
 unfold Ins.number
 repeat' split
 all_goals first | exact Val.one_ok _ | exact Env.get_ok _ _ | exact Val.each_ok _ _ _ | rfl
theorem Ins.number_mono {n:Nat} {a b:Env} (ha:a.fit n) (hb:b.fit n) (h:a.le b) (i:Ins):(i.number a).le (i.number b):=by
 have g1:=Env.get_mono ha hb h i.a
 have g2:=Env.get_mono ha hb h i.b
 have o1:=Env.get_ok a i.a
 have o2:=Env.get_ok a i.b
 have o3:=Env.get_ok b i.a
 have o4:=Env.get_ok b i.b
 unfold Ins.number
 repeat' split
 all_goals first | exact Val.le_refl _ | exact g1 | exact Val.each_mono (Val.one_ok _) o1 (Val.one_ok _) o3 (Val.le_refl _) g1 | exact Val.each_mono o1 o2 o3 o4 g1 g2
theorem Ins.flat_fit {n:Nat} {e:Env} (h:e.fit n) (i:Ins):(i.flat e).fit n:=Env.set_fit h _ (i.number_ok e)
theorem Ins.flat_mono {n:Nat} {a b:Env} (ha:a.fit n) (hb:b.fit n) (h:a.le b) (i:Ins):(i.flat a).le (i.flat b):=Env.set_mono ha hb h _ (i.number_ok a) (i.number_ok b) (i.number_mono ha hb h)
theorem pastL_fit {n:Nat} {l:List Ins}:∀{e:Env},e.fit n→(pastL e l).fit n:=by
 induction l with
 | nil=>intro e h;exact h
 | cons i l ih=>intro e h;exact ih (i.flat_fit h)
theorem pastL_mono {n:Nat} {l:List Ins}:∀{a b:Env},a.fit n→b.fit n→a.le b→(pastL a l).le (pastL b l):=by
 induction l with
 | nil=>intro a b _ _ h;exact h
 | cons i l ih=>intro a b ha hb h;exact ih (i.flat_fit ha) (i.flat_fit hb) (i.flat_mono ha hb h)
theorem startL_ok (par vars:Int):okL (startL par vars):=by
 intro v hv
 simp only [startL,List.mem_map] at hv
 obtain ⟨k,_,rfl⟩:=hv
 split <;> rfl
def Env.ht:Env→Nat
 | none=>0
 | some l=>1 + (l.map fun v:Val=>v.k.toNat).sum
theorem htL {l m:List Val} (hl:okL l) (hm:okL m) (hn:l.length=m.length) (h:leL l m):(l.map fun v:Val=>v.k.toNat).sum≤(m.map fun v:Val=>v.k.toNat).sum∧(l ≠ m→(l.map fun v:Val=>v.k.toNat).sum < (m.map fun v:Val=>v.k.toNat).sum)∧(m.map fun v:Val=>v.k.toNat).sum≤2 * m.length:=by
 induction l generalizing m with
 | nil =>
  cases m with
  | nil=>simp
  | cons b m=>simp at hn
 | cons a l ih =>
  cases m with
  | nil=>simp at hn
  | cons b m =>
   obtain ⟨h1,h2,h3⟩:=ih (m:=m) (fun v hv=>hl v (by simp [hv])) (fun v hv=>hm v (by simp [hv])) (by simpa using hn) fun k x y hx hy=>h (k + 1) x y (by simpa using hx) (by simpa using hy)
   obtain ⟨g1,g2,g3⟩:=Val.le_k (hl a (by simp)) (hm b (by simp)) (h 0 a b rfl rfl)
   simp only [List.map_cons,List.sum_cons,List.length_cons]
   refine ⟨by omega,fun hne=>?_,by omega⟩
   by_cases hab:a=b
   ·have:l ≠ m:=fun e=>hne (by rw [hab,e])
    have:=h2 this
    omega
   ·have:=g2 hab
    omega
end Go.Proofs.YtbhkamemheaajaaGreatDoor.Vm
namespace Go.Proofs.YtbhkamemheaajaaGreatDoor.Vm
open Go Go.RowKit
set_option maxRecDepth 100000
variable {N:Nat} {g:Glob}
structure El (α:Type) where
 c1:α→AV
 c2:α→AV
 o1:∀a,(c1 a).one=true
 o2:∀a,(c2 a).one=true
 s1:∀a,(c1 a).stab=true
 s2:∀a,(c2 a).stab=true
 d1:∀a,(c1 a).solid=true
 d2:∀a,(c2 a).solid=true
def El.e {α:Type} (E:El α) (a:α):List AV:=[E.c1 a,E.c2 a]
section
variable {α:Type} {E:El α} {Y:Sys α}
end
end Go.Proofs.YtbhkamemheaajaaGreatDoor.Vm
