/- A part of the proof: Gc Gd Ge Gf Gg Gh Gi. -/
import Derived.Test.YtbhkamemheaajaaGreatDoorQ20
set_option linter.unusedVariables false
set_option linter.unusedSimpArgs false
set_option linter.constructorNameAsVariable false
namespace Go.Proofs.YtbhkamemheaajaaGreatDoor.Vm
open Go Go.RowKit
variable {N:Nat} {g:Glob}
theorem DeleteFunc_nw {fv:AV} {w:AV} {l:List Int} {S0 S:St} {K:AV→St→Prop} (h:Nw S0 S w l) (hl:l.length < 2 ^ 40) (q:Int→Bool)
  (hq:∀x ∈ l,∀S',Up S0 S'→∀K':AV→St→Prop,(∀S'',Up S' S''→K' (.bool (q x)) S'')→CalV P g fv [.int .i64 x] S' K')
  (hk:∀w' S',Nw S0 S' w' (l.filter fun x=>!q x)→K w' S'):Cal P g 66 [w,fv] S K:=by
 obtain ⟨h1,h2,h3⟩:=h
 rcases h1 with ⟨rfl,rfl⟩ | ⟨o,rfl,ho,hob⟩
 ·refine c66.in (by simp) ?_
  simp [k66]
  refine IndexFunc_int (FSl.nil (e:=intc) (sz:=1)) (by simp) q (fun x hx=>by simp at hx) fun S' hup=>?_
  simp [indexF]
  exact hk _ _ ⟨.inl ⟨rfl,rfl⟩,h2.trans hup,fun q c e=>by cases e⟩
 ·have hoo:=h3 o _ rfl
  have up:∀S',Keeps (·=o) S S'→Up S0 S':=fun S' hke=>⟨Nat.le_trans h2.1 hke.1,fun a ha=>by rw [hke.2 a (Nat.lt_of_lt_of_le ha h2.1) (by omega)];exact h2.2 a ha⟩
  refine DeleteFunc_own hob ho hl q (fun x hx S' hke K' hK'=>hq x hx S' (up S' hke) K' hK') fun S' hke hob'=>?_
  refine hk _ _ ⟨.inr ⟨o,rfl,Nat.lt_of_lt_of_le ho hke.1,hob'⟩,up S' hke,fun q c e=>by cases e;exact hoo⟩
theorem slices_Sort_empty {w:AV} {S:St} {K:AV→St→Prop} (hw:lenV w=some 0) (hk:K (.tuple []) S):Cal P g 59 [w] S K:=by
 refine c59.in (by simp) ?_
 simp [k59,hw]
 have e0:IntKind.u64.wrap 0=((0:Nat):Int):=rfl
 rw [e0]
 refine (bits_Len 0 (by omega)).use (n:=9) ?_ rfl ?_ <;> simp
 have e1:Lib.bitLen 0=0:=rfl
 rw [e1]
 refine pdq_nil _ _ _ ?_
 simp
 exact hk
theorem Sort_nw {w:AV} {l:List Int} {S0 S:St} {K:AV→St→Prop} (h:Nw S0 S w l) (hl:l.length < 2 ^ 40) (hk:∀S',Nw S0 S' w (sorted l)→K (.tuple []) S'):Cal P g 59 [w] S K:=by
 obtain ⟨h1,h2,h3⟩:=h
 rcases h1 with ⟨rfl,rfl⟩ | ⟨o,rfl,ho,hob⟩
 ·exact slices_Sort_empty rfl (hk S ⟨.inl ⟨rfl,by simp [sorted]⟩,h2,fun q c e=>by cases e⟩)
 ·have hoo:=h3 o _ rfl
  by_cases hne:l=[]
  ·subst hne
   exact slices_Sort_empty rfl (hk S ⟨.inr ⟨o,by simp [sorted],ho,by simpa [sorted] using hob⟩,h2,h3⟩)
  ·refine slices_Sort_one hob hne hl (hk _ ⟨.inr ⟨o,by rw [sorted_len],ho,by simp⟩,h2.put hoo _,h3⟩)
def Dn (S0 S:St) (w:AV) (l:List Int):Prop:=(w=.fsl 1 []∧l=[]) ∨ ∃ o,w=.sl 1 o 0 l.length∧S0.next≤o∧o < S.next∧S.obj o=some (.row 1 (els intc l))
theorem Compact_nw {w:AV} {l:List Int} {S0 S:St} {K:AV→St→Prop} (h:Nw S0 S w l) (hl:l.length < 2 ^ 40) (hk:∀w' S',Dn S0 S' w' (compactL l)→Up S0 S'→K w' S'):Cal P g 229 [w] S K:=by
 obtain ⟨h1,h2,h3⟩:=h
 refine Cal.post ?_
 rcases h1 with ⟨rfl,rfl⟩ | ⟨o,rfl,ho,hob⟩
 ·refine slices_Compact_nil ⟨.fsl 1 [],S,.inr (.inr ⟨rfl,1,rfl⟩),Wk.refl _,hk _ _ (.inl ⟨rfl,rfl⟩) h2⟩
 ·have hoo:=h3 o _ rfl
  refine slices_Compact_one hob hl ?_
  have hcut:=Wk.cut (S:=S.set o (.row 1 (els intc (compactL l ++ List.replicate (l.length - (compactL l).length) 0)))) (o:=o) (sz:=1) (compactL l).length (by simp;rfl)
  rw [els_take,List.take_left',set_set] at hcut
  ·by_cases hne:compactL l=[]
   ·refine ⟨.fsl 1 [],_,.inr (.inr ⟨by simp [hne],1,rfl⟩),hcut,hk _ _ (.inl ⟨rfl,hne⟩) (h2.put hoo _)⟩
   ·exact ⟨_,_,.inl rfl,hcut,hk _ _ (.inr ⟨o,rfl,hoo,ho,by simp⟩) (h2.put hoo _)⟩
  ·rfl
def GrV (v:AV) (G:List (List Int)):Prop:=(v=.nilsl∧G=[]) ∨ ∃ ws:List AV,v=.fsl 1 (ws.map fun w=>[w])∧ws.length=G.length∧∀(k:Nat) (w:AV) (l:List Int),ws[k]?=some w→G[k]?=some l→FSl intc 1 w l
theorem GrV.len {v:AV} {G:List (List Int)} (h:GrV v G):lenV v=some G.length:=by
 rcases h with ⟨rfl,rfl⟩ | ⟨ws,rfl,h,_⟩
 ·rfl
 ·simp [h]
theorem GrV.stab {v:AV} {G:List (List Int)} (h:GrV v G):v.stab=true:=by
 rcases h with ⟨rfl,rfl⟩ | ⟨ws,rfl,h,_⟩ <;> rfl
theorem GrV.cells {v:AV} {G:List (List Int)} (h:GrV v G):v.cells=[v]:=by
 rcases h with ⟨rfl,rfl⟩ | ⟨ws,rfl,h,_⟩ <;> rfl
theorem GrV.one {v:AV} {G:List (List Int)} (h:GrV v G):v.one=true:=by
 rcases h with ⟨rfl,rfl⟩ | ⟨ws,rfl,h,_⟩ <;> rfl
theorem GrV.solid {v:AV} {G:List (List Int)} (h:GrV v G):v.solid=true:=by
 rcases h with ⟨rfl,rfl⟩ | ⟨ws,rfl,h,_⟩ <;> rfl
theorem GrV.idx {v:AV} {G:List (List Int)} (h:GrV v G) {k:Nat} {l:List Int} (hl:G[k]?=some l):∃ w,FSl intc 1 w l∧pk (.indexAddr 1) [v,.int .i64 (k:Int)]=some (.fptr [w] 0):=by
 rcases h with ⟨rfl,rfl⟩ | ⟨ws,rfl,h1,h2⟩
 ·simp at hl
 ·have hlt:=(List.getElem?_eq_some_iff.1 hl).1
  have hw:ws[k]?=some (ws[k]'(by omega)):=List.getElem?_eq_getElem _
  refine ⟨_,h2 k _ l hw hl,?_⟩
  rw [pk_indexAddr1,if_pos (by omega)]
  simp [hw]
def inGr (n:Nat) (x:Int):Bool:=decide (0≤x) && decide (x < n)
theorem graph_is {v:AV} {n:Nat} (hv:lenV v=some n) (hs:v.stab=true) (x:Int):Ret P g false 228 [v,.int .i64 x] (.bool (inGr n x)):=by
 refine Ret.in c228 (by simp) ?_
 simp [k228,inGr]
 by_cases hx:(0:Int)≤x
 ·simp [hx,hv]
  exact RK.stab rfl
 ·simp [hx]
  exact RK.stab rfl
theorem graph_CleanF {x:Int} {p n:Nat} {v:AV} {S:St} {K:AV→St→Prop} (hp:S.obj p=some (.row 1 [[v]])) (hv:lenV v=some n) (hs:v.stab=true) (hk:K (.bool (!inGr n x)) S):Cal P g 227 [.int .i64 x,.ptr p 0 0] S K:=by
 refine c227.in (by simp) ?_
 simp [k227,hp]
 refine (graph_is hv hs x).use (n:=9) ?_ rfl ?_ <;> simp [pict_stab hs]
 exact hk
def cleanL (n:Nat) (l:List Int):List Int:=compactL (sorted (l.filter (inGr n)))
def cleanG (G:List (List Int)):List (List Int):=G.map (cleanL G.length)
def encG (G:List (List Int)):AV:=.fsl 1 (els (fun l=>[.fsl 1 (els intc l)]) G)
theorem cleanL_mem {n:Nat} {l:List Int} {x:Int}:x ∈ cleanL n l ↔ x ∈ l∧0≤x∧x < n:=by
 rw [cleanL,compact_mem,sorted,List.mem_mergeSort,List.mem_filter]
 simp [inGr]
theorem encG_gr (G:List (List Int)):GrV (encG G) G:=by
 refine .inr ⟨G.map fun l=>.fsl 1 (els intc l),by simp [encG,els],by simp,fun k w l hw hl=>?_⟩
 rw [List.getElem?_map,hl] at hw
 cases hw
 exact FSl.mk
theorem mapOpt_ix {α β:Type} {f:α→Option β}:∀{l:List α} {m:List β},l.length=m.length→(∀(k:Nat) (x:α),l[k]?=some x→f x=m[k]?)→mapOpt f l=some m
 | [],[],_,_=>rfl
 | [],_ :: _,h,_=>by simp at h
 | _ :: _,[],h,_=>by simp at h
 | x :: l,y :: m,h,hf=>by
  have h0:=hf 0 x rfl
  have:=mapOpt_ix (f:=f) (l:=l) (m:=m) (by simpa using h) fun k z hz=>by simpa using hf (k + 1) z (by simpa using hz)
  simp at h0
  simp [mapOpt,h0,this]
theorem pict_row {S:St} {o n sz m:Nat} {es ys:List (List AV)} (ho:S.obj o=some (.row sz es)) (hl:es.length=n) (hy:ys.length=n) (hp:∀(k:Nat) (e:List AV),es[k]?=some e→mapOpt (pict S [] m) e=ys[k]?):pict S [] (m + 1) (.sl sz o 0 n)=some (.fsl sz ys):=by
 have hel:elems S (.sl sz o 0 n)=some es:=by
  rw [elems_sl ho (by omega),List.drop_zero,List.take_of_length_le (by omega)]
 rw [pict_sl,hel]
 simp only [Option.bind_some]
 rw [mapOpt_ix (by omega) hp];rfl
theorem ints_news {S:St} {o:Nat} {l:List Int} (h:S.obj o=some (.row 1 (els intc l))):S.news.obj o=some (.row 1 (els intc l)):=by
 rw [news_obj,h]
 have:(AObj.row 1 (els intc l)).young=true:=by
  show youngss _=true
  rw [youngss_iff,intc_flat]
  intro x hx
  rw [List.mem_map] at hx
  obtain ⟨y,_,rfl⟩:=hx
  rfl
 simp [Option.filter,this]
theorem Dn.pict {S0 S:St} {w:AV} {l:List Int} {n:Nat} (h:Dn S0 S w l):Vm.pict S.news [] (n + 2) w=some (.fsl 1 (els intc l)):=by
 rcases h with ⟨rfl,rfl⟩ | ⟨o,rfl,_,_,ho⟩
 ·rfl
 ·refine pict_row (ints_news ho) (by simp) (by simp) fun k e he=>?_
  rw [he]
  simp only [els,List.getElem?_map] at he
  cases hx:l[k]? with
  | none=>rw [hx] at he;cases he
  | some x=>rw [hx] at he;cases he;simp [intc]
theorem Dn.young {S0 S:St} {w:AV} {l:List Int} (h:Dn S0 S w l):w.young=true:=by
 rcases h with ⟨rfl,rfl⟩ | ⟨o,rfl,_⟩ <;> rfl
theorem Dn.one {S0 S:St} {w:AV} {l:List Int} (h:Dn S0 S w l):w.one=true:=by
 rcases h with ⟨rfl,rfl⟩ | ⟨o,rfl,_⟩ <;> rfl
theorem Dn.keep {S0 S S':St} {w:AV} {l:List Int} {oo:Nat} (h:Dn S0 S w l) (hu:∀q,q < S.next→q ≠ oo→S'.obj q=S.obj q) (hn:S.next≤S'.next) (ho:oo < S0.next):Dn S0 S' w l:=by
 rcases h with h | ⟨o,rfl,h1,h2,h3⟩
 ·exact .inl h
 ·exact .inr ⟨o,rfl,h1,by omega,by rw [hu o h2 (by omega)];exact h3⟩
theorem one_cells {x:AV} (h:x.one=true):x.cells=[x]:=by
 cases x <;> first | rfl | (simp at h)
theorem graph_Clean {v:AV} {G:List (List Int)} (hv:GrV v G) (hG:G.length < 2 ^ 30) (hl:∀l ∈ G,l.length < 2 ^ 30):Ret P g true 178 [v] (encG (cleanG G)):=by
 refine Ret.inP c178 (by simp) ?_
 have hroom:G.length≤room:=by simp [room];omega
 simp [k178,hv.cells,hv.len,hroom,hv.one]
 refine W.whileI (fun (k:Nat) F S=>k≤G.length∧F 1=.ptr 0 0 0∧F 3=.sl 1 1 0 G.length∧F 10=v∧F 11=.int .i64 G.length∧F 12=.int .i64 k∧2≤S.next∧S.obj 0=some (.row 1 [[v]]) ∧
  ∃ es,S.obj 1=some (.row 1 es)∧es.length=G.length∧(∀e ∈ es,e.length=1)∧∀(j:Nat) (l:List Int),j < k→G[j]?=some l→∃ w,es[j]?=some [w]∧Dn ⟨2,fun _=>none⟩ S w (cleanL G.length l)) (fun k=>G.length - k) ?_ 0 _ _ ?_
 ·rintro k F S ⟨hkn,h1,h3,h10,h11,h12,hn,hb,es,he,hel,hel1,hes⟩
  by_cases hlt:k < G.length
  ·obtain ⟨l,hx⟩:∃ l,G[k]?=some l:=⟨_,List.getElem?_eq_getElem hlt⟩
   obtain ⟨w,hw,hix⟩:=hv.idx hx
   have hll:=hl l (List.mem_of_getElem? hx)
   have e4:=wrapS k (by omega)
   simp [h11,h12,hlt]
   simp [h10,h12,hix]
   refine slices_Clone_int hw hll (Up.refl S) fun w1 S1 hw1=>?_
   simp [h1]
   refine DeleteFunc_nw hw1 (by omega) (fun x=>!inGr G.length x) ?_ fun w2 S2 hw2=>?_
   ·intro x hx S' hup K' hK'
    simp
    exact graph_CleanF (by rw [hup.2 0 (by omega)];exact hb) hv.len hv.stab (hK' _ (Up.refl _))
   simp
   have hfl:(l.filter (inGr G.length)).length < 2 ^ 40:=Nat.lt_of_le_of_lt (List.length_filter_le _ _) (by omega)
   simp at hw2
   refine Sort_nw hw2 hfl fun S3 hw3=>?_
   simp
   refine Compact_nw hw3 (by rw [sorted_len];exact hfl) fun w4 S4 hw4 hup4=>?_
   have hup4':=hup4.2
   have he4:S4.obj 1=some (.row 1 es):=by rw [hup4' 1 (by omega)];exact he
   obtain ⟨e0,he0⟩:∃ e0,es[k]?=some e0:=⟨_,List.getElem?_eq_getElem (by omega)⟩
   obtain ⟨u0,rfl⟩:∃ u,e0=[u]:=List.length_eq_one_iff.1 (hel1 e0 (List.mem_of_getElem? he0))
   simp [h3,ix_sl hlt,he4,he0,hw4.one,h1,h10,h11,h12,e4,one_cells hw4.one]
   refine ⟨k + 1,by omega,by omega,by omega,by have:=hup4.1;omega,by rw [hup4' 0 (by omega)];exact hb,hel,?_,?_⟩
   ·intro e he
    rcases List.mem_or_eq_of_mem_set he with h | rfl
    ·exact hel1 e h
    ·rfl
   ·intro j m hj hm
    by_cases hjk:j=k
    ·subst hjk
     rw [hx] at hm;cases hm
     refine ⟨w4,by rw [List.getElem?_set_self (by omega)],?_⟩
     rcases hw4 with h | ⟨o,rfl,a1,a2,a3⟩
     ·exact .inl h
     ·exact .inr ⟨o,rfl,by show 2≤o;omega,by simpa using a2,by simp [show ¬ o=1 by omega];exact a3⟩
    ·obtain ⟨w',b1,b2⟩:=hes j m (by omega) hm
     refine ⟨w',by rw [List.getElem?_set_ne (Ne.symm hjk)];exact b1,?_⟩
     refine b2.keep (oo:=1) (fun q hq hq1=>?_) hup4.1 (by show 1 < 2;omega)
     simp [hq1]
     exact hup4' q hq
  ·have:k=G.length:=by omega
   subst this
   simp [h11,h12,h3]
   have hyo:(AObj.row 1 es).young=true:=by
    show youngss es=true
    rw [youngss_iff]
    intro x hx
    rw [List.mem_flatten] at hx
    obtain ⟨e,he',hx⟩:=hx
    obtain ⟨j,hj,rfl⟩:=List.mem_iff_getElem.1 he'
    obtain ⟨l,hl'⟩:∃ l,G[j]?=some l:=⟨_,List.getElem?_eq_getElem (by omega)⟩
    obtain ⟨w,a1,a2⟩:=hes j l (by omega) hl'
    rw [List.getElem?_eq_getElem hj] at a1
    simp at a1
    rw [a1] at hx
    simp at hx
    rw [hx];exact a2.young
   refine ⟨rfl,3,pict_row (es:=es) ?_ hel (by simp [cleanG]) fun j e hj=>?_⟩
   ·rw [news_obj,he]
    simp [Option.filter,hyo]
   ·have hjl:=(List.getElem?_eq_some_iff.1 hj).1
    obtain ⟨l,hl'⟩:∃ l,G[j]?=some l:=⟨_,List.getElem?_eq_getElem (by omega)⟩
    obtain ⟨w,a1,a2⟩:=hes j l (by omega) hl'
    rw [hj] at a1;cases a1
    simp [mapOpt,a2.pict,els,cleanG,hl']
 ·simp
end Go.Proofs.YtbhkamemheaajaaGreatDoor.Vm
namespace Go.Proofs.YtbhkamemheaajaaGreatDoor.Vm
open Go Go.RowKit
variable {N:Nat} {g:Glob}
structure RowsV (B:Nat) (S:St) (oo:Nat) (es:List (List AV)) (L:List (List Int)):Prop where
 lt:oo < B
 le:B≤S.next
 obj:S.obj oo=some (.row 1 es)
 len:es.length=L.length
 row:∀(k:Nat) (l:List Int),L[k]?=some l→∃ v,es[k]?=some [v]∧((v=.nilsl∧l=[]) ∨ ∃ o,v=.sl 1 o 0 l.length∧B≤o∧o < S.next∧S.obj o=some (.row 1 (els intc l))∧l ≠ [])
 inj:∀(j k o a b:Nat),es[j]?=some [.sl 1 o 0 a]→es[k]?=some [.sl 1 o 0 b]→j=k
theorem RowsV.new {B:Nat} {S:St} {oo:Nat} {es:List (List AV)} {L:List (List Int)} (h:RowsV B S oo es L) (x:AObj):RowsV B (S.new x) oo es L:=by
 have h1:=h.lt
 have h2:=h.le
 refine ⟨h1,by simp;omega,by simp [show ¬ oo=S.next by omega,h.obj],h.len,fun k l hl=>?_,h.inj⟩
 obtain ⟨v,hv,hc⟩:=h.row k l hl
 refine ⟨v,hv,?_⟩
 rcases hc with hc | ⟨o,rfl,a1,a2,a3,a4⟩
 ·exact .inl hc
 ·exact .inr ⟨o,rfl,a1,by simp;omega,by simp [show ¬ o=S.next by omega,a3],a4⟩
theorem RowsV.other {B:Nat} {S S':St} {oo:Nat} {es:List (List AV)} {L:List (List Int)} (h:RowsV B S oo es L) (hn:S.next≤S'.next) (ho:S'.obj oo=S.obj oo) (hq:∀q,B≤q→q < S.next→S'.obj q=S.obj q):RowsV B S' oo es L:=by
 refine ⟨h.lt,Nat.le_trans h.le hn,by rw [ho];exact h.obj,h.len,fun k l hl=>?_,h.inj⟩
 obtain ⟨v,hv,hc⟩:=h.row k l hl
 refine ⟨v,hv,?_⟩
 rcases hc with hc | ⟨o,rfl,a1,a2,a3,a4⟩
 ·exact .inl hc
 ·exact .inr ⟨o,rfl,a1,by omega,by rw [hq o a1 a2];exact a3,a4⟩
theorem RowsV.app {B:Nat} {S:St} {oo:Nat} {es:List (List AV)} {L:List (List Int)} {b:Nat} {v:AV} {l:List Int} {a:Int} (h:RowsV B S oo es L) (hv:es[b]?=some [v]) (hl:L[b]?=some l) (hr:l.length + 1≤room) :
  ∃ S',appV 1 v S [[.int .i64 a]]=some (.sl 1 S.next 0 (l.length + 1),S')∧S'.next=S.next + 1∧(∀q,q < B→S'.obj q=S.obj q)∧RowsV B (S'.set oo (.row 1 (es.set b [.sl 1 S.next 0 (l.length + 1)]))) oo (es.set b [.sl 1 S.next 0 (l.length + 1)]) (L.set b (l ++ [a])):=by
 have hoo:=h.lt
 have hle:=h.le
 have hr0:¬ room=0:=by simp [room]
 have hblt:b < es.length:=(List.getElem?_eq_some_iff.1 hv).1
 have old:∀(k o c:Nat),es[k]?=some [.sl 1 o 0 c]→B≤o∧o < S.next:=by
  intro k o c hk
  obtain ⟨m,hm⟩:∃ m,L[k]?=some m:=⟨_,List.getElem?_eq_getElem (by rw [← h.len];exact (List.getElem?_eq_some_iff.1 hk).1)⟩
  obtain ⟨u,hu,hc⟩:=h.row k m hm
  rw [hk] at hu;cases hu
  rcases hc with ⟨h1,_⟩ | ⟨o',h1,h2,h3,_⟩
  ·cases h1
  ·cases h1;exact ⟨h2,h3⟩
 have key:∀S':St,S'.next=S.next + 1→S'.obj S.next=some (.row 1 (els intc (l ++ [a])))→(∀q,q ≠ S.next→(∀c,v ≠ .sl 1 q 0 c)→S'.obj q=S.obj q) →
   (∀q,q < B→S'.obj q=S.obj q)∧RowsV B (S'.set oo (.row 1 (es.set b [.sl 1 S.next 0 (l.length + 1)]))) oo (es.set b [.sl 1 S.next 0 (l.length + 1)]) (L.set b (l ++ [a])):=by
  intro S' hn hnew hold
  refine ⟨fun q hq=>hold q (by omega) fun c e=>?_,hoo,by simp;omega,by simp,by simp [h.len],?_,?_⟩
  ·subst e
   have:=old b q c hv
   omega
  ·intro k m hm
   by_cases hk:k=b
   ·subst hk
    rw [List.getElem?_set_self (by rw [← h.len];exact hblt)] at hm
    cases hm
    exact ⟨_,by rw [List.getElem?_set_self hblt],.inr ⟨S.next,by simp,hle,by simp;omega,by simp [show ¬ S.next=oo by omega,hnew],by simp⟩⟩
   ·rw [List.getElem?_set_ne (Ne.symm hk)] at hm
    obtain ⟨u,hu,hc⟩:=h.row k m hm
    refine ⟨u,by rw [List.getElem?_set_ne (Ne.symm hk)];exact hu,?_⟩
    rcases hc with hc | ⟨o,rfl,a1,a2,a3,a4⟩
    ·exact .inl hc
    ·refine .inr ⟨o,rfl,a1,by simp;omega,?_,a4⟩
     simp [show ¬ o=oo by omega]
     rw [hold o (by omega) fun c e=>hk ?_]
     ·exact a3
     ·subst e
      exact h.inj k b o _ _ hu hv
  ·intro j k o c d hj hk
   by_cases hjb:j=b
   ·by_cases hkb:k=b
    ·rw [hjb,hkb]
    ·rw [hjb,List.getElem?_set_self hblt] at hj
     rw [List.getElem?_set_ne (Ne.symm hkb)] at hk
     cases hj
     have:=old k _ _ hk
     omega
   ·rw [List.getElem?_set_ne (Ne.symm hjb)] at hj
    by_cases hkb:k=b
    ·rw [hkb,List.getElem?_set_self hblt] at hk
     cases hk
     have:=old j _ _ hj
     omega
    ·rw [List.getElem?_set_ne (Ne.symm hkb)] at hk
     exact h.inj j k o c d hj hk
 obtain ⟨v1,hv1,hc⟩:=h.row b l hl
 rw [hv] at hv1;cases hv1
 rcases hc with ⟨rfl,rfl⟩ | ⟨o,rfl,a1,a2,a3,a4⟩
 ·refine ⟨S.new (.row 1 [[.int .i64 a]]),by simp [hr0],by simp,?_⟩
  exact key _ (by simp) (by simp [els,intc]) fun q hq _=>by simp [hq]
 ·refine ⟨(S.drop o).new (.row 1 (els intc l ++ [[.int .i64 a]])),by simp [hr0,a3,hr];rw [List.take_of_length_le (by simp)],by simp,?_⟩
  refine key _ (by simp) (by simp [els,intc]) fun q hq hne=>?_
  have:¬ q=o:=fun e=>hne _ (by rw [e])
  simp [hq,this]
theorem RowsV.start {S:St} (h:S.next < S.next + 1) (n:Nat):RowsV (S.next + 1) (S.new (.row 1 (List.replicate n [.nilsl]))) S.next (List.replicate n [.nilsl]) (List.replicate n []):=by
 refine ⟨h,by simp,by simp,by simp,fun k l hl=>⟨.nilsl,?_,.inl ⟨rfl,(List.mem_replicate.1 (List.mem_of_getElem? hl)).2⟩⟩,fun j k o a b hj=>?_⟩
 ·have:=(List.getElem?_eq_some_iff.1 hl).1
  simp at this
  rw [List.getElem?_replicate,if_pos this]
 ·have:=(List.mem_replicate.1 (List.mem_of_getElem? hj)).2
  simp at this
theorem RowsV.pict {B:Nat} {S:St} {oo:Nat} {es:List (List AV)} {L:List (List Int)} {m:Nat} (h:RowsV B S oo es L):Vm.pict S [] (m + 3) (.sl 1 oo 0 L.length)=some (.fsl 1 (els (fun l=>[encF intc 1 l]) L)):=by
 refine pict_row h.obj h.len (by simp) fun k e he=>?_
 have hlt:=(List.getElem?_eq_some_iff.1 he).1
 obtain ⟨l,hl⟩:∃ l,L[k]?=some l:=⟨_,List.getElem?_eq_getElem (by rw [← h.len];exact hlt)⟩
 obtain ⟨v,hv,hc⟩:=h.row k l hl
 rw [hv] at he;cases he
 have:Vm.pict S [] (m + 2) v=some (encF intc 1 l):=by
  rcases hc with ⟨rfl,rfl⟩ | ⟨o,rfl,_,_,a3,a4⟩
  ·simp [encF]
  ·exact Has.pict (e:=intc) (.inr ⟨o,rfl,a3,a4⟩)
 simp [mapOpt,this,els,hl]
theorem RowsV.idx {B:Nat} {S:St} {oo:Nat} {es:List (List AV)} {L:List (List Int)} (h:RowsV B S oo es L) {k:Nat} (hk:k < L.length):∃ v l,es[k]?=some [v]∧L[k]?=some l∧v.one=true:=by
 obtain ⟨l,hl⟩:∃ l,L[k]?=some l:=⟨_,List.getElem?_eq_getElem hk⟩
 obtain ⟨v,hv,hc⟩:=h.row k l hl
 refine ⟨v,l,hv,hl,?_⟩
 rcases hc with ⟨rfl,_⟩ | ⟨o,rfl,_⟩ <;> rfl
theorem RowsV.news {B:Nat} {S:St} {oo:Nat} {es:List (List AV)} {L:List (List Int)} (h:RowsV B S oo es L):RowsV B S.news oo es L:=by
 refine ⟨h.lt,h.le,?_,h.len,fun k l hl=>?_,h.inj⟩
 ·rw [news_obj,h.obj]
  have:(AObj.row 1 es).young=true:=by
   show youngss _=true
   rw [youngss_iff]
   intro x hx
   rw [List.mem_flatten] at hx
   obtain ⟨e,he,hx⟩:=hx
   obtain ⟨k,hk⟩:=List.getElem?_of_mem he
   have hlt:=(List.getElem?_eq_some_iff.1 hk).1
   obtain ⟨v,hv,hc⟩:=h.row k (L[k]'(by rw [← h.len];exact hlt)) (List.getElem?_eq_getElem _)
   rw [hv] at hk;cases hk
   simp at hx;subst hx
   rcases hc with ⟨rfl,_⟩ | ⟨o,rfl,_⟩ <;> rfl
  simp [Option.filter,this]
 ·obtain ⟨v,hv,hc⟩:=h.row k l hl
  refine ⟨v,hv,?_⟩
  rcases hc with hc | ⟨o,h1,h2,h3,h4,h5⟩
  ·exact .inl hc
  ·exact .inr ⟨o,h1,h2,h3,ints_news h4,h5⟩
structure Turned (C L:List (List Int)):Prop where
 len:L.length=C.length
 sub:∀l ∈ L,∀x ∈ l,0≤x∧x < C.length
 short:∀l ∈ L,l.length≤C.length * 64
 all:∀(a b:Nat) (l:List Int),C[a]?=some l→(b:Int) ∈ l→∃ m,L[b]?=some m∧(a:Int) ∈ m
theorem cleanL_len (n:Nat) (l:List Int):(cleanL n l).length≤l.length:=by
 have h1:=compact_len (sorted (l.filter (inGr n))) (sorted (l.filter (inGr n))).length
 rw [List.take_length,sorted_len] at h1
 have h2:=List.length_filter_le (inGr n) l
 have h3:(cleanL n l).length≤(l.filter (inGr n)).length:=h1
 omega
theorem Turned.grow {L:List (List Int)} {b:Nat} {m:List Int} {x:Int} {B:Nat} (hb:L[b]?=some m) :
  (∀(k:Nat) (l:List Int),L[k]?=some l→∃ l',(L.set b (m ++ [x]))[k]?=some l'∧∀y ∈ l,y ∈ l')∧(∃ l',(L.set b (m ++ [x]))[b]?=some l'∧x ∈ l')∧(∀l ∈ L.set b (m ++ [x]),(∀y ∈ l,y=x ∨ ∃ l0 ∈ L,y ∈ l0)∧((∀l ∈ L,l.length≤B)→l.length≤B + 1)):=by
 have hlt:=(List.getElem?_eq_some_iff.1 hb).1
 refine ⟨fun k l hk=>?_,⟨_,List.getElem?_set_self hlt,by simp⟩,fun l hl=>?_⟩
 ·by_cases h:k=b
  ·subst h
   rw [hb] at hk;cases hk
   exact ⟨_,List.getElem?_set_self hlt,fun y hy=>by simp [hy]⟩
  ·exact ⟨l,by rw [List.getElem?_set_ne (Ne.symm h)];exact hk,fun y hy=>hy⟩
 ·rcases List.mem_or_eq_of_mem_set hl with h | rfl
  ·exact ⟨fun y hy=>.inr ⟨l,h,hy⟩,fun hB=>by have:=hB l h;omega⟩
  ·refine ⟨fun y hy=>?_,fun hB=>?_⟩
   ·rw [List.mem_append,List.mem_singleton] at hy
    rcases hy with hy | rfl
    ·exact .inr ⟨m,List.mem_of_getElem? hb,hy⟩
    ·exact .inl rfl
   ·have:=hB m (List.mem_of_getElem? hb)
    simp;omega
theorem graph_Turn {v:AV} {G:List (List Int)} (hv:GrV v G) (hG:G.length≤64) (hl:∀l ∈ G,l.length < 64):RetE P g true 121 [v] (fun y=>∃ L:List (List Int),y=.fsl 1 (els (fun l=>[encF intc 1 l]) L)∧Turned (cleanG G) L):=by
 refine RetE.inP c121 (by simp) ?_
 have hroom:G.length≤room:=by simp [room];omega
 simp [k121,hv.len,hroom]
 refine (graph_Clean hv (by omega) (fun l h=>by have:=hl l h;omega)).use (n:=9) ?_ rfl ?_ <;> simp [pict_stab hv.stab,hv.cells]
 have hcv:=encG_gr (cleanG G)
 have hCl:(cleanG G).length=G.length:=by simp [cleanG]
 have hCm:∀l ∈ cleanG G,l.length < 64∧∀x ∈ l,0≤x∧x < (cleanG G).length:=by
  intro l h
  rw [hCl]
  simp only [cleanG,List.mem_map] at h
  obtain ⟨m,hm,rfl⟩:=h
  exact ⟨Nat.lt_of_le_of_lt (cleanL_len _ _) (hl m hm),fun x hx=>(cleanL_mem.1 hx).2⟩
 generalize cleanG G=C at *
 generalize encG C=cv at *
 simp [hcv.len]
 have hC64:C.length≤64:=by omega
 rw [← hCl]
 refine W.whileI (fun (a:Nat) F S=>a≤C.length∧F 3=.sl 1 0 0 C.length∧F 12=cv∧F 13=.int .i64 C.length∧F 14=.int .i64 a ∧
  ∃ es L,RowsV 1 S 0 es L∧L.length=C.length∧(∀m ∈ L,m.length≤a * 64)∧(∀m ∈ L,∀x ∈ m,0≤x∧x < C.length)∧∀(a' b:Nat) (l:List Int),a' < a→C[a']?=some l→(b:Int) ∈ l→∃ m,L[b]?=some m∧(a':Int) ∈ m) (fun a=>C.length - a) ?_ 0 _ _ ?_
 ·rintro a F S ⟨ha,h3,h12,h13,h14,es,L,hR,hLl,hLb,hLx,hLa⟩
  by_cases hlt:a < C.length
  ·obtain ⟨l,hx⟩:∃ l,C[a]?=some l:=⟨_,List.getElem?_eq_getElem hlt⟩
   obtain ⟨w,hw,hix⟩:=hcv.idx hx
   obtain ⟨hll,hlx⟩:=hCm l (List.mem_of_getElem? hx)
   have e4:=wrapS a (by omega)
   simp [h13,h14,hlt]
   simp [h12,h14,hix,hw.len]
   refine W.whileI (fun (k:Nat) F S=>k≤l.length∧F 3=.sl 1 0 0 C.length∧F 4=.int .i64 a∧F 12=cv∧F 13=.int .i64 C.length∧F 14=.int .i64 a∧F 19=w∧F 20=.int .i64 l.length∧F 21=.int .i64 k ∧
    ∃ es L,RowsV 1 S 0 es L∧L.length=C.length∧(∀m ∈ L,m.length≤a * 64 + k)∧(∀m ∈ L,∀x ∈ m,0≤x∧x < C.length)∧(∀(a' b:Nat) (l:List Int),a' < a→C[a']?=some l→(b:Int) ∈ l→∃ m,L[b]?=some m∧(a':Int) ∈ m) ∧
     ∀b:Nat,(b:Int) ∈ l.take k→∃ m,L[b]?=some m∧(a:Int) ∈ m) (fun k=>l.length - k) ?_ 0 _ _ ?_
   ·rintro k F S ⟨hk,h3,h4,h12,h13,h14,h19,h20,h21,es,L,hR,hLl,hLb,hLx,hLa,hLk⟩
    by_cases hlk:k < l.length
    ·obtain ⟨x,hxk⟩:∃ x,l[k]?=some x:=⟨_,List.getElem?_eq_getElem hlk⟩
     have e5:=wrapS k (by omega)
     obtain ⟨hx0,hxn⟩:=hlx x (List.mem_of_getElem? hxk)
     obtain ⟨b,rfl⟩:∃ b:Nat,x=(b:Int):=⟨x.toNat,by omega⟩
     have hbn:b < C.length:=by omega
     obtain ⟨u,m,hu,hm,hu1⟩:=hR.idx (k:=b) (by omega)
     have hmb:=hLb m (List.mem_of_getElem? hm)
     obtain ⟨S',q1,q2,q3,q4⟩:=(hR.new (.row 1 [[.int .i64 (a:Int)]])).app (a:=(a:Int)) hu hm (by simp [room];omega)
     have hob:=q3 0 (by omega)
     have hS0:=hR.obj
     have hn1:=hR.le
     simp [show ¬ 0=S.next by omega,hS0] at hob
     simp [h20,h21,hlk]
     simp [h19,h21,hw.idx hxk,intc,h3,h4,ix_sl hbn,hS0,hu]
     have hbe:b < es.length:=by rw [hR.len];omega
     obtain ⟨t1,t2,t3⟩:=Turned.grow (x:=(a:Int)) (B:=a * 64 + k) hm
     simp [q1,hob,hu,h12,h13,h14,e5]
     have t4:=fun m' hm'=>(t3 m' hm').2 hLb
     refine ⟨k + 1,by omega,by omega,by omega,_,_,q4,by simp [hLl],fun m' hm'=>?_,?_,?_,?_⟩
     ·have h9:m'.length≤a * 64 + k + 1:=t4 m' hm'
      rw [← Nat.add_assoc];exact h9
     ·intro m' hm' y hy
      rcases (t3 m' hm').1 y hy with rfl | ⟨l0,h0,hy0⟩
      ·omega
      ·exact hLx l0 h0 y hy0
     ·intro a' b' l' ha' hl' hb'
      obtain ⟨m1,c1,c2⟩:=hLa a' b' l' ha' hl' hb'
      obtain ⟨m2,c3,c4⟩:=t1 b' m1 c1
      exact ⟨m2,c3,c4 _ c2⟩
     ·intro b' hb'
      rw [take_succ_get hxk,List.mem_append,List.mem_singleton] at hb'
      rcases hb' with hb' | hb'
      ·obtain ⟨m1,c1,c2⟩:=hLk b' hb'
       obtain ⟨m2,c3,c4⟩:=t1 b' m1 c1
       exact ⟨m2,c3,c4 _ c2⟩
      ·have:b'=b:=by omega
       subst this
       exact t2
    ·have:k=l.length:=by omega
     subst this
     simp [h20,h21,h3,h12,h13,h14,e4]
     refine ⟨a + 1,by omega,by omega,by omega,es,L,hR,hLl,fun m hm=>?_,hLx,?_⟩
     ·have:=hLb m hm;omega
     ·intro a' b' l' ha' hl' hb'
      by_cases haa:a'=a
      ·subst haa
       rw [hx] at hl';cases hl'
       exact hLk b' (by rw [List.take_length];exact hb')
      ·exact hLa a' b' l' (by omega) hl' hb'
   ·simp [h3,h12,h13,h14]
    exact ⟨es,L,hR,hLl,hLb,hLx,hLa⟩
  ·have:a=C.length:=by omega
   subst this
   simp [h13,h14,h3]
   refine ⟨rfl,_,⟨L,rfl,hLl,fun l h x hx=>hLx l h x hx,hLb,fun a b l ha hb=>hLa a b l ((List.getElem?_eq_some_iff.1 ha).1) ha hb⟩,3,?_⟩
   have:=hR.news.pict (m:=0)
   rw [hLl] at this
   exact this
 ·simp
  refine ⟨_,List.replicate C.length [],RowsV.start (S:=St.empty) (by simp) C.length,by simp,fun m hm=>(List.mem_replicate.1 hm).2,fun m hm x hx=>?_⟩
  rw [(List.mem_replicate.1 hm).2] at hx
  simp at hx
end Go.Proofs.YtbhkamemheaajaaGreatDoor.Vm
namespace Go.Proofs.YtbhkamemheaajaaGreatDoor.Vm
open Go Go.RowKit
variable {N:Nat} {g:Glob}
theorem Backward_int {yf v:AV} {o:Nat} {l:List Int} {S:St} {K:AV→St→Prop} (hv:FSl intc 1 v l) (hl:l.length < 2 ^ 40) (Inv:Nat→St→Prop) (h0:Inv 0 S)
  (ho:∀k S',Inv k S'→S'.obj o=some (.row 1 [[v]]))
  (hst:∀(k:Nat) (x:Int) (S':St),k < l.length→l[l.length - 1 - k]?=some x→Inv k S'→∀K':AV→St→Prop,(∀S'',Inv (k + 1) S''→K' (.bool true) S'')→CalV P g yf [.int .i64 ((l.length - 1 - k:Nat):Int),.int .i64 x] S' K')
  (hk:∀S',Inv l.length S'→K (.tuple []) S'):Cal P g 230 [yf,.ptr o 0 0] S K:=by
 refine c230.in (by simp) ?_
 have e0:IntKind.i64.wrap ((l.length:Int) - 1)=(l.length:Int) - 1:=wrap_in (by omega)
 simp [k230,ho 0 S h0,hv.len,e0]
 refine W.whileI (fun (k:Nat) F S'=>k≤l.length∧F 0=yf∧F 1=.ptr o 0 0∧F 3=.int .i64 ((l.length:Int) - 1 - k)∧Inv k S') (fun k=>l.length - k) ?_ 0 _ _ ?_
 ·rintro k F S' ⟨hk',f0,f1,f3,hi⟩
  by_cases hlt:k < l.length
  ·obtain ⟨x,hx⟩:∃ x,l[l.length - 1 - k]?=some x:=⟨_,List.getElem?_eq_getElem (by omega)⟩
   have e1:(l.length:Int) - 1 - k=((l.length - 1 - k:Nat):Int):=by omega
   have e2:IntKind.i64.wrap (((l.length - 1 - k:Nat):Int) - 1)=(l.length:Int) - 1 - (k + 1:Nat):=by rw [wrap_in (by omega)];omega
   rw [e1] at f3
   simp [f0,f1,f3,ho k S' hi,hv.idx hx,intc]
   refine hst k x S' hlt hx hi _ ?_
   intro S'' hi'
   simp [f3,e2,f0,f1]
   exact ⟨k + 1,by omega,by omega,by omega,hi'⟩
  ·have:k=l.length:=by omega
   subst this
   have e1:(l.length:Int) - 1 - l.length=-1:=by omega
   rw [e1] at f3
   simp [f3]
   exact hk S' hi
 ·simp
  exact h0
theorem BackwardInt_fn {v:AV} {S:St} {K:AV→St→Prop} (hc:v.cells=[v]) (hk:K (.func (.func 230) [] [.ptr S.next 0 0]) (S.new (.row 1 [[v]]))):Cal P g 179 [v] S K:=by
 refine c179.in (by simp) ?_
 simp [k179,hc]
 exact hk
end Go.Proofs.YtbhkamemheaajaaGreatDoor.Vm
namespace Go.Proofs.YtbhkamemheaajaaGreatDoor.Vm
open Go Go.RowKit
variable {N:Nat} {g:Glob}
theorem cmp_isNaN (x:Int):Ret P g false 207 [.int .i64 x] (.bool false):=by
 refine Ret.in c207 (by simp) ?_
 simp [k207]
 exact RK.stab rfl
def cmpInt (a b:Int):Int:=if a < b then -1 else if b < a then 1 else 0
theorem cmp_Compare (a b:Int):Ret P g false 238 [.int .i64 a,.int .i64 b] (.int .i64 (cmpInt a b)):=by
 refine Ret.in c238 (by simp) ?_
 simp [k238]
 refine (cmp_isNaN a).use (n:=9) ?_ rfl ?_ <;> simp
 refine (cmp_isNaN b).use (n:=9) ?_ rfl ?_ <;> simp
 by_cases h1:a < b
 ·simp [h1,cmpInt]
  exact RK.stab rfl
 ·by_cases h2:b < a
  ·simp [h1,h2,cmpInt]
   exact RK.stab rfl
  ·simp [h1,h2,cmpInt]
   exact RK.stab rfl
def cmpL:List Int→List Int→Int
 | [],[]=>0
 | [],_ :: _=>-1
 | _ :: _,[]=>1
 | a :: l,b :: m=>if cmpInt a b ≠ 0 then cmpInt a b else cmpL l m
theorem slices_Compare {v w:AV} {l m:List Int} (hv:FSl intc 1 v l) (hw:FSl intc 1 w m) (hl:l.length < 2 ^ 40):Ret P g false 185 [v,w] (.int .i64 (cmpL l m)):=by
 refine Ret.in c185 (by simp) ?_
 simp [k185,hv.len,hw.len]
 refine W.whileI (fun (k:Nat) F S'=>k≤l.length∧k≤m.length∧cmpL l m=cmpL (l.drop k) (m.drop k)∧F 0=v∧F 1=w∧F 9=v∧F 10=.int .i64 l.length∧F 11=.int .i64 k) (fun k=>l.length - k) ?_ 0 _ _ ?_
 ·rintro k F S' ⟨hk1,hk2,he,h0,h1,h9,h10,h11⟩
  by_cases hlt:k < l.length
  ·obtain ⟨x,hx⟩:∃ x,l[k]?=some x:=⟨_,List.getElem?_eq_getElem hlt⟩
   have e4:=wrapS k (by omega)
   have d1:l.drop k=x :: l.drop (k + 1):=by
    obtain ⟨h,h'⟩:=List.getElem?_eq_some_iff.1 hx
    rw [List.drop_eq_getElem_cons h,h']
   by_cases hlt2:k < m.length
   ·obtain ⟨y,hy⟩:∃ y,m[k]?=some y:=⟨_,List.getElem?_eq_getElem hlt2⟩
    have d2:m.drop k=y :: m.drop (k + 1):=by
     obtain ⟨h,h'⟩:=List.getElem?_eq_some_iff.1 hy
     rw [List.drop_eq_getElem_cons h,h']
    rw [d1,d2,cmpL] at he
    simp [h10,h11,hlt]
    simp [h0,h1,h9,h11,hv.idx hx,hw.idx hy,intc,hw.len,show ¬ (m.length≤k) by omega]
    refine (cmp_Compare x y).use (n:=9) ?_ rfl ?_ <;> simp
    by_cases hc:cmpInt x y=0
    ·rw [if_neg (by simp [hc])] at he
     simp [hc,h0,h1,h9,h10,h11,e4]
     exact ⟨k + 1,by omega,by omega,by omega,he,by omega⟩
    ·rw [if_pos hc] at he
     simp [hc]
     rw [he]
     exact RK.stab rfl
   ·have hk:m.drop k=[]:=List.drop_eq_nil_of_le (by omega)
    rw [d1,hk,cmpL] at he
    simp [h10,h11,hlt]
    simp [h0,h1,h9,h11,hv.idx hx,intc,hw.len,show (m.length≤k) by omega]
    rw [he]
    exact RK.stab rfl
  ·have hk:l.drop k=[]:=List.drop_eq_nil_of_le (by omega)
   have:k=l.length:=by omega
   subst this
   rw [hk] at he
   simp [h10,h11,h0,h1,hv.len,hw.len]
   by_cases hlt2:l.length < m.length
   ·obtain ⟨y,hy⟩:∃ y,m[l.length]?=some y:=⟨_,List.getElem?_eq_getElem hlt2⟩
    have d2:m.drop l.length=y :: m.drop (l.length + 1):=by
     obtain ⟨h,h'⟩:=List.getElem?_eq_some_iff.1 hy
     rw [List.drop_eq_getElem_cons h,h']
    rw [d2,cmpL] at he
    simp [hlt2]
    rw [he]
    exact RK.stab rfl
   ·have hk:m.drop l.length=[]:=List.drop_eq_nil_of_le (by omega)
    rw [hk,cmpL] at he
    simp [hlt2]
    rw [he]
    exact RK.stab rfl
 ·simp
def keyc (k:Int × Int):List AV:=[.int .i64 k.1,.int .i64 k.2]
def cmpKey (a b:Int × Int):Int:=if a=b then 0 else cmpL [a.1,a.2] [b.1,b.2]
theorem rank_ScheduleF {a b kb ko:Nat} {ks:List (Int × Int)} {ka kb':Int × Int} {S:St} {K:AV→St→Prop} (h1:S.obj kb=some (.row 1 [[.sl 2 ko 0 ks.length]])) (h2:S.obj ko=some (.row 2 (els keyc ks))) (ha:ks[a]?=some ka) (hb:ks[b]?=some kb')
  (hk:K (.int .i64 (cmpKey ka kb')) S):Cal P g 184 [.int .i64 (a:Int),.int .i64 (b:Int),.ptr kb 0 0] S K:=by
 refine c184.in (by simp) ?_
 have hla:=(List.getElem?_eq_some_iff.1 ha).1
 have hlb:=(List.getElem?_eq_some_iff.1 hb).1
 simp [k184]
 refine Dra.auto [] mix ?_ ?_
 ·kernel_rfl
 simp [classes,h1,h2,ha,hb,ix_sl hla,ix_sl hlb,keyc]
 have hca:FSl intc 1 (.fsl 1 [[.int .i64 ka.1],[.int .i64 ka.2]]) [ka.1,ka.2]:=.inl rfl
 have hcb:FSl intc 1 (.fsl 1 [[.int .i64 kb'.1],[.int .i64 kb'.2]]) [kb'.1,kb'.2]:=.inl rfl
 refine bra_bool (fun he=>?_) (fun he=>?_)
 ·have he':ka=kb':=by
   simp only [Bool.and_eq_true,beq_iff_eq] at he
   exact Prod.ext he.1 he.2
  simp [cmpKey,he'] at hk
  simp
  exact hk
 ·have he':¬ ka=kb':=by
   rintro rfl
   simp at he
  simp [cmpKey,he'] at hk
  simp
  refine Dra.auto [] mix ?_ ?_
  ·kernel_rfl
  simp [classes,h1,h2,ha,hb,ix_sl hla,ix_sl hlb,keyc]
  refine (slices_Compare hca hcb (by simp)).b (n:=9) ?_ rfl ?_ <;> simp [h1,h2,ha,hb,keyc]
  exact hk
end Go.Proofs.YtbhkamemheaajaaGreatDoor.Vm
namespace Go.Proofs.YtbhkamemheaajaaGreatDoor.Vm
open Go Go.RowKit
variable {N:Nat} {g:Glob}
def cel {α:Type} (c:α→AV) (x:α):List AV:=[c x]
theorem swap_perm {α:Type} {l:List α} {i j:Nat} {x y:α} (hx:l[i]?=some x) (hy:l[j]?=some y):((l.set i y).set j x).Perm l:=by
 obtain ⟨h1,h2⟩:=List.getElem?_eq_some_iff.1 hx
 obtain ⟨h3,h4⟩:=List.getElem?_eq_some_iff.1 hy
 rw [← h2,← h4]
 exact List.set_set_perm h1 h3
theorem insert_int {α:Type} {c:α→AV} (hc1:∀x,(c x).one=true) {f:Nat} {cap:List AV} {l:List α} {o:Nat} {S:St} {K:AV→St→Prop} (ho:S.obj o=some (.row 1 (els (cel c) l))) (hl:l.length≤12) (cm:α→α→Int)
  (hq:∀a ∈ l,∀b ∈ l,∀l':List α,Cal P g f ([c a,c b] ++ cap) (S.set o (.row 1 (els (cel c) l'))) (fun v S'=>v=.int .i64 (cm a b)∧S'=S.set o (.row 1 (els (cel c) l'))))
  (hk:∀l':List α,l'.Perm l→K (.tuple []) (S.set o (.row 1 (els (cel c) l')))):Cal P g 257 [.sl 1 o 0 l.length,.int .i64 0,.int .i64 l.length,.func (.func f) [] cap] S K:=by
 refine c257.in (by simp) ?_
 have hcc:∀x,(c x).cells=[c x]:=fun x=>one_cells (hc1 x)
 have e1:IntKind.i64.wrap (0 + 1)=((1:Nat):Int):=rfl
 simp [k257,e1]
 refine W.whileI (fun (i:Nat) F S'=>1≤i∧i≤l.length + 1∧F 0=.sl 1 o 0 l.length∧F 1=.int .i64 0∧F 2=.int .i64 l.length∧F 3=.func (.func f) [] cap∧F 8=.int .i64 i∧∃ l':List α,l'.Perm l∧S'=S.set o (.row 1 (els (cel c) l'))) (fun i=>l.length + 1 - i) ?_ 1 _ _ ?_
 ·rintro i F S' ⟨hi1,hi2,h0,h1,h2,h3,h8,l',hp,rfl⟩
  have hpl:=hp.length_eq
  by_cases hlt:i < l.length
  ·have e4:=wrapS i (by omega)
   simp [h2,h8,hlt]
   refine W.whileI (fun (j:Nat) F S'=>j≤i∧F 0=.sl 1 o 0 l.length∧F 1=.int .i64 0∧F 2=.int .i64 l.length∧F 3=.func (.func f) [] cap∧F 8=.int .i64 i∧F 9=.int .i64 j∧∃ l':List α,l'.Perm l∧S'=S.set o (.row 1 (els (cel c) l'))) (fun j=>j) ?_ i _ _ ?_
   ·rintro j F S' ⟨hj,h0,h1,h2,h3,h8,h9,l',hp,rfl⟩
    have hpl:=hp.length_eq
    by_cases hj0:j=0
    ·subst hj0
     simp
     refine Dra.auto [14] mix ?_ ?_
     ·kernel_rfl
     simp [classes,h1,h9,h8,e4]
     exact ⟨i + 1,by omega,by omega,by omega,h0,h2,h3,by omega,l',hp,rfl⟩
    ·have hjl:j < l.length:=by omega
     have hjl1:j - 1 < l.length:=by omega
     have e5:IntKind.i64.wrap ((j:Int) - 1)=((j - 1:Nat):Int):=by rw [wrap_in (by omega)];omega
     have hj1:0 < j:=by omega
     obtain ⟨x,hx⟩:∃ x,l'[j]?=some x:=⟨_,List.getElem?_eq_getElem (by omega)⟩
     obtain ⟨y,hy⟩:∃ y,l'[j - 1]?=some y:=⟨_,List.getElem?_eq_getElem (by omega)⟩
     have hxm:x ∈ l:=hp.mem_iff.1 (List.mem_of_getElem? hx)
     have hym:y ∈ l:=hp.mem_iff.1 (List.mem_of_getElem? hy)
     simp
     refine Dra.auto [14] mix ?_ ?_
     ·kernel_rfl
     simp [classes,h0,h1,h3,h9,hj1,e5,ix_sl hjl,ix_sl hjl1,hx,hy,cel]
     refine ⟨_,_,hq x hxm y hym l',?_⟩
     simp
     by_cases hc:cm x y < 0
     ·simp [hc]
      refine Dra.auto [] mix ?_ ?_
      ·kernel_rfl
      simp [classes,h0,h1,h3,h9,hj1,e5,ix_sl hjl,ix_sl hjl1,hx,hy,cel,hc1,hcc,show ¬ j=j - 1 by omega]
      refine ⟨j - 1,by omega,by omega,h2,h8,rfl,(l'.set j y).set (j - 1) x,(swap_perm hx hy).trans hp,?_⟩
      rw [set_set,set_set,← els_set,← els_set];rfl
     ·simp [hc,h8,e4,h0,h1,h2,h3]
      exact ⟨i + 1,by omega,by omega,by omega,by omega,l',hp,rfl⟩
   ·simp [h0,h1,h2,h3,h8]
    exact ⟨l',hp,rfl⟩
  ·simp [h2,h8,hlt]
   exact hk l' hp
 ·simp
  refine ⟨?_,l,.refl _,(St.set_same ho).symm⟩
  rfl
theorem pdq_int {α:Type} {c:α→AV} (hc1:∀x,(c x).one=true) {f:Nat} {cap:List AV} {l:List α} {o:Nat} {S:St} {K:AV→St→Prop} (lim:Int) (ho:S.obj o=some (.row 1 (els (cel c) l))) (hl:l.length≤12) (cm:α→α→Int)
  (hq:∀a ∈ l,∀b ∈ l,∀l':List α,Cal P g f ([c a,c b] ++ cap) (S.set o (.row 1 (els (cel c) l'))) (fun v S'=>v=.int .i64 (cm a b)∧S'=S.set o (.row 1 (els (cel c) l'))))
  (hk:∀l':List α,l'.Perm l→K (.tuple []) (S.set o (.row 1 (els (cel c) l')))):Cal P g 237 [.sl 1 o 0 l.length,.int .i64 0,.int .i64 l.length,.int .i64 lim,.func (.func f) [] cap] S K:=by
 refine c237.in (by simp) ?_
 simp [k237]
 refine W.whileI (fun (k:Nat) F S'=>F 0=.sl 1 o 0 l.length∧F 1=.int .i64 0∧F 2=.int .i64 l.length∧F 4=.func (.func f) [] cap∧S'=S) (fun _=>0) ?_ 0 _ _ ?_
 ·rintro k F S' ⟨h0,h1,h2,h4,rfl⟩
  have ew:IntKind.i64.wrap (l.length:Int)=l.length:=wrap_in (by omega)
  simp [h1,h2,h0,h4,ew,show (l.length:Int)≤12 by omega]
  refine insert_int hc1 ho hl cm hq fun l' hp=>?_
  simp
  exact hk l' hp
 ·simp
theorem sortF_int {α:Type} {c:α→AV} (hc1:∀x,(c x).one=true) {f:Nat} {cap:List AV} {l:List α} {o:Nat} {S:St} {K:AV→St→Prop} (ho:S.obj o=some (.row 1 (els (cel c) l))) (hl:l.length≤12) (cm:α→α→Int)
  (hq:∀a ∈ l,∀b ∈ l,∀l':List α,Cal P g f ([c a,c b] ++ cap) (S.set o (.row 1 (els (cel c) l'))) (fun v S'=>v=.int .i64 (cm a b)∧S'=S.set o (.row 1 (els (cel c) l'))))
  (hk:∀l':List α,l'.Perm l→K (.tuple []) (S.set o (.row 1 (els (cel c) l')))):Cal P g 183 [.sl 1 o 0 l.length,.func (.func f) [] cap] S K:=by
 refine c183.in (by simp) ?_
 simp [k183]
 have ew:IntKind.u64.wrap (l.length:Int)=l.length:=u64_in (by omega)
 rw [ew]
 refine (bits_Len l.length (by omega)).use (n:=9) ?_ rfl ?_ <;> simp
 refine pdq_int hc1 _ ho hl cm hq fun l' hp=>?_
 simp
 exact hk l' hp
end Go.Proofs.YtbhkamemheaajaaGreatDoor.Vm
namespace Go.Proofs.YtbhkamemheaajaaGreatDoor.Vm
open Go Go.RowKit
variable {N:Nat} {g:Glob}
theorem insert_row {α:Type} {c:α→AV} (hc1:∀x,(c x).one=true) {f:Nat} {cap:List AV} {l:List α} {o:Nat} {S:St} {K:AV→St→Prop} (ho:S.obj o=some (.row 1 (els (cel c) l))) (hl:l.length≤12) (cm:α→α→Int)
  (hq:∀a ∈ l,∀b ∈ l,∀l':List α,Cal P g f ([c a,c b] ++ cap) (S.set o (.row 1 (els (cel c) l'))) (fun v S'=>v=.int .i64 (cm a b)∧S'=S.set o (.row 1 (els (cel c) l'))))
  (hk:∀l':List α,l'.Perm l→K (.tuple []) (S.set o (.row 1 (els (cel c) l')))):Cal P g 286 [.sl 1 o 0 l.length,.int .i64 0,.int .i64 l.length,.func (.func f) [] cap] S K:=by
 refine c286.in (by simp) ?_
 have hcc:∀x,(c x).cells=[c x]:=fun x=>one_cells (hc1 x)
 have e1:IntKind.i64.wrap (0 + 1)=((1:Nat):Int):=rfl
 simp [k286,e1]
 refine W.whileI (fun (i:Nat) F S'=>1≤i∧i≤l.length + 1∧F 0=.sl 1 o 0 l.length∧F 1=.int .i64 0∧F 2=.int .i64 l.length∧F 3=.func (.func f) [] cap∧F 8=.int .i64 i∧∃ l':List α,l'.Perm l∧S'=S.set o (.row 1 (els (cel c) l'))) (fun i=>l.length + 1 - i) ?_ 1 _ _ ?_
 ·rintro i F S' ⟨hi1,hi2,h0,h1,h2,h3,h8,l',hp,rfl⟩
  have hpl:=hp.length_eq
  by_cases hlt:i < l.length
  ·have e4:=wrapS i (by omega)
   simp [h2,h8,hlt]
   refine W.whileI (fun (j:Nat) F S'=>j≤i∧F 0=.sl 1 o 0 l.length∧F 1=.int .i64 0∧F 2=.int .i64 l.length∧F 3=.func (.func f) [] cap∧F 8=.int .i64 i∧F 9=.int .i64 j∧∃ l':List α,l'.Perm l∧S'=S.set o (.row 1 (els (cel c) l'))) (fun j=>j) ?_ i _ _ ?_
   ·rintro j F S' ⟨hj,h0,h1,h2,h3,h8,h9,l',hp,rfl⟩
    have hpl:=hp.length_eq
    by_cases hj0:j=0
    ·subst hj0
     simp
     refine Dra.auto [14] mix ?_ ?_
     ·kernel_rfl
     simp [classes,h1,h9,h8,e4]
     exact ⟨i + 1,by omega,by omega,by omega,h0,h2,h3,by omega,l',hp,rfl⟩
    ·have hjl:j < l.length:=by omega
     have hjl1:j - 1 < l.length:=by omega
     have e5:IntKind.i64.wrap ((j:Int) - 1)=((j - 1:Nat):Int):=by rw [wrap_in (by omega)];omega
     have hj1:0 < j:=by omega
     obtain ⟨x,hx⟩:∃ x,l'[j]?=some x:=⟨_,List.getElem?_eq_getElem (by omega)⟩
     obtain ⟨y,hy⟩:∃ y,l'[j - 1]?=some y:=⟨_,List.getElem?_eq_getElem (by omega)⟩
     have hxm:x ∈ l:=hp.mem_iff.1 (List.mem_of_getElem? hx)
     have hym:y ∈ l:=hp.mem_iff.1 (List.mem_of_getElem? hy)
     simp
     refine Dra.auto [14] mix ?_ ?_
     ·kernel_rfl
     simp [classes,h0,h1,h3,h9,hj1,e5,ix_sl hjl,ix_sl hjl1,hx,hy,cel]
     refine ⟨_,_,hq x hxm y hym l',?_⟩
     simp
     by_cases hc:cm x y < 0
     ·simp [hc]
      refine Dra.auto [] mix ?_ ?_
      ·kernel_rfl
      simp [classes,h0,h1,h3,h9,hj1,e5,ix_sl hjl,ix_sl hjl1,hx,hy,cel,hc1,hcc,show ¬ j=j - 1 by omega]
      refine ⟨j - 1,by omega,by omega,h2,h8,rfl,(l'.set j y).set (j - 1) x,(swap_perm hx hy).trans hp,?_⟩
      rw [set_set,set_set,← els_set,← els_set];rfl
     ·simp [hc,h8,e4,h0,h1,h2,h3]
      exact ⟨i + 1,by omega,by omega,by omega,by omega,l',hp,rfl⟩
   ·simp [h0,h1,h2,h3,h8]
    exact ⟨l',hp,rfl⟩
  ·simp [h2,h8,hlt]
   exact hk l' hp
 ·simp
  refine ⟨?_,l,.refl _,(St.set_same ho).symm⟩
  rfl
theorem pdq_row {α:Type} {c:α→AV} (hc1:∀x,(c x).one=true) {f:Nat} {cap:List AV} {l:List α} {o:Nat} {S:St} {K:AV→St→Prop} (lim:Int) (ho:S.obj o=some (.row 1 (els (cel c) l))) (hl:l.length≤12) (cm:α→α→Int)
  (hq:∀a ∈ l,∀b ∈ l,∀l':List α,Cal P g f ([c a,c b] ++ cap) (S.set o (.row 1 (els (cel c) l'))) (fun v S'=>v=.int .i64 (cm a b)∧S'=S.set o (.row 1 (els (cel c) l'))))
  (hk:∀l':List α,l'.Perm l→K (.tuple []) (S.set o (.row 1 (els (cel c) l')))):Cal P g 281 [.sl 1 o 0 l.length,.int .i64 0,.int .i64 l.length,.int .i64 lim,.func (.func f) [] cap] S K:=by
 refine c281.in (by simp) ?_
 simp [k281]
 refine W.whileI (fun (k:Nat) F S'=>F 0=.sl 1 o 0 l.length∧F 1=.int .i64 0∧F 2=.int .i64 l.length∧F 4=.func (.func f) [] cap∧S'=S) (fun _=>0) ?_ 0 _ _ ?_
 ·rintro k F S' ⟨h0,h1,h2,h4,rfl⟩
  have ew:IntKind.i64.wrap (l.length:Int)=l.length:=wrap_in (by omega)
  simp [h1,h2,h0,h4,ew,show (l.length:Int)≤12 by omega]
  refine insert_row hc1 ho hl cm hq fun l' hp=>?_
  simp
  exact hk l' hp
 ·simp
theorem sortF_row {α:Type} {c:α→AV} (hc1:∀x,(c x).one=true) {f:Nat} {cap:List AV} {l:List α} {o:Nat} {S:St} {K:AV→St→Prop} (ho:S.obj o=some (.row 1 (els (cel c) l))) (hl:l.length≤12) (cm:α→α→Int)
  (hq:∀a ∈ l,∀b ∈ l,∀l':List α,Cal P g f ([c a,c b] ++ cap) (S.set o (.row 1 (els (cel c) l'))) (fun v S'=>v=.int .i64 (cm a b)∧S'=S.set o (.row 1 (els (cel c) l'))))
  (hk:∀l':List α,l'.Perm l→K (.tuple []) (S.set o (.row 1 (els (cel c) l')))):Cal P g 272 [.sl 1 o 0 l.length,.func (.func f) [] cap] S K:=by
 refine c272.in (by simp) ?_
 simp [k272]
 have ew:IntKind.u64.wrap (l.length:Int)=l.length:=u64_in (by omega)
 rw [ew]
 refine (bits_Len l.length (by omega)).use (n:=9) ?_ rfl ?_ <;> simp
 refine pdq_row hc1 _ ho hl cm hq fun l' hp=>?_
 simp
 exact hk l' hp
end Go.Proofs.YtbhkamemheaajaaGreatDoor.Vm
namespace Go.Proofs.YtbhkamemheaajaaGreatDoor.Vm
open Go Go.RowKit
variable {N:Nat} {g:Glob}
theorem bits_Mul (x y:Nat) (hx:x < 2 ^ 64) (hy:y < 2 ^ 64):Ret P g false 255 [.int .u64 (x:Int),.int .u64 (y:Int)] (.tuple [.int .u64 ((x * y / 18446744073709551616:Nat):Int),.int .u64 ((x * y % 18446744073709551616:Nat):Int)]):=by
 refine ⟨c255.call,?_⟩
 intro w av vs xs hG hvs hz
 subst hz
 cases hvs with
 | cons v z vs xs hv hvs =>
 cases hvs with
 | cons v' z' vs xs hv' hvs =>
 cases hvs
 have:=hv.int_inv;subst this
 have:=hv'.int_inv;subst this
 refine Calls.mono (Tryz.bits_Mul x y (by omega) (by omega) w) ?_
 rintro e w' ⟨rfl,rfl⟩
 refine ⟨_,.tuple [.int .u64 _,.int .u64 _],St.empty,fun _=>none,rfl,⟨⟨2,rfl⟩,fun h=>by cases h⟩,Below.refl _ _,?_,.tuple [.int .u64 _,.int .u64 _] _ (.cons _ _ _ _ (.int _ _) (.cons _ _ _ _ (.int _ _) .nil))⟩
 refine ⟨?_,?_,?_,?_,?_,Nat.le_refl _⟩
 ·intro o x h;cases h
 ·intro o o' l l' x x' h;cases h
 ·intro o x h;cases h
 ·intro o l h;cases h
 ·intro o x l h;cases h
theorem slices_Repeat_one (x:Int) (n:Nat) (hn:n < 2 ^ 30):Own P g 233 [.fsl 1 [[.int .i64 x]],.int .i64 (n:Int)] (.sl 1 0 0 n) (St.ofL [.row 1 (els intc (List.replicate n x))]):=by
 refine Own.in [0] c233 (by simp) (by simp) ?_
 have hroom:n≤room:=by simp [room];omega
 have e1:IntKind.u64.wrap (1:Int)=((1:Nat):Int):=rfl
 have e2:IntKind.u64.wrap (n:Int)=n:=u64_in (by omega)
 have e3:n % 18446744073709551616=n:=by omega
 have e4:n / 18446744073709551616=0:=by omega
 have e5:IntKind.i64.wrap (n:Int)=n:=wrap_in (by omega)
 simp [k233,e1,e2]
 refine (bits_Mul 1 n (by omega) (by omega)).use (n:=9) ?_ rfl ?_ <;> simp [e3,e4]
 refine bra_dec (fun h=>absurd h (by omega)) (fun h=>?_)
 simp [e5,hroom]
 refine W.whileI (fun (m:Nat) F S=>m≤n∧(m=0→n=0)∧F 7=.sl 1 0 0 n∧F 8=.int .i64 m∧S.obj 0=some (.row 1 (els intc (List.replicate m x ++ List.replicate (n - m) 0)))) (fun m=>n - m) ?_ (min 1 n) _ _ ?_
 ·rintro m F S ⟨hm,hm0,h7,h8,ho⟩
  by_cases hlt:m < n
  ·have hmp:0 < m:=by omega
   simp [h7,h8,hlt]
   refine Dra.auto [] mix ?_ ?_
   ·kernel_rfl
   have hys:List.take m (els intc (List.replicate m x ++ List.replicate (n - m) 0))=els intc (List.replicate m x):=by rw [els_take,List.take_left' (by simp)]
   have hok:okAll 1 (els intc (List.replicate m x)):=els_okEl
   have e6:IntKind.i64.wrap ((m:Int) + (min m (n - m):Nat))=((m + min m (n - m):Nat):Int):=by rw [wrap_in (by omega)];omega
   simp [classes,h7,h8,hlt,sl_from hm,sl_to hm,ho,show ¬ m=0 by omega,hys,hok]
   refine ⟨m + min m (n - m),by omega,by omega,by omega,e6,?_⟩
   rw [els_take,els_drop,els_append,els_append,List.take_replicate,List.drop_append,List.drop_of_length_le (by simp),List.drop_replicate,List.nil_append,← List.append_assoc,List.replicate_append_replicate]
   congr 3
   ·omega
   ·simp;omega
  ·have:m=n:=by omega
   subst this
   simp [h7,h8]
   refine ⟨by simp,?_⟩
   simp [ho]
 ·simp
  refine ⟨by omega,?_⟩
  rcases n with _ | n
  ·simp [els]
  ·simp [els,intc]
theorem rank_places {v:AV} {l:List Int} (hv:FSl intc 1 v l) (hl:l.length < 2 ^ 30) (n:Nat) (hn:n < 2 ^ 30):RetE P g false 181 [v,.int .i64 (n:Int)] (fun y=>∃ r:List Int,y=.fsl 1 (els intc r)∧r.length=n):=by
 refine RetE.in c181 (by simp) ?_
 simp [k181]
 refine (slices_Repeat_one (-1) n hn).use' (n:=9) ?_ ?_ ?_ <;> simp
 refine BackwardInt_fn hv.cells ?_
 simp
 refine W.rangeC (f:=230) (captured:=[.ptr 3 0 0]) (by simp) ?_
 simp
 generalize hLF:upd (upd (upd (upd (upd (upd (upd (entry [v,AV.int IntKind.i64 n]) 4 AV.nilsl) 8 (AV.sl 1 0 0 1)) 9 (AV.int IntKind.i64 n)) 10 (AV.sl 1 1 0 n)) 5 (AV.ptr 2 0 0)) 11 v) 12 (AV.func (Fn.func 230) [] [AV.ptr 3 0 0])=LF
 have lf5:LF 5=.ptr 2 0 0:=by rw [← hLF];simp
 refine Backward_int hv (by omega) (fun k S'=>S'.obj 4=some (.loop 28 #[13,14] LF (rngA Tryz.f181 0) (rngB Tryz.f181 0) .ready)∧S'.obj 2=some (.row 1 [[.sl 1 1 0 n]])∧S'.obj 3=some (.row 1 [[v]])∧∃ r:List Int,r.length=n∧S'.obj 1=some (.row 1 (els intc r))) ?_ ?_ ?_ ?_
 ·refine ⟨?_,?_,?_,List.replicate n (-1),?_,?_⟩ <;> simp
 ·rintro k S' ⟨_,_,h,_⟩
  exact h
 ·rintro k x S' hkl hx ⟨q4,q2,q3,r,hr,q1⟩ K' hK'
  simp
  refine Yie.in q4 (by simp) (by simp) c181A0 c181B0 ?_
  simp [k181A0,k181B0,puts,lf5,q2,q4]
  by_cases hx1:(0:Int)≤x
  ·by_cases hx2:x < (n:Int)
   ·obtain ⟨b,rfl⟩:∃ b:Nat,x=(b:Int):=⟨x.toNat,by omega⟩
    have hb:b < n:=by omega
    obtain ⟨y,hy⟩:∃ y,r[b]?=some y:=⟨_,List.getElem?_eq_getElem (by omega)⟩
    simp [hb,q2,q1,q4,lf5,ix_sl hb,hy,intc]
    refine hK' _ ⟨by simp,by simp [q2],by simp [q3],r.set b ((l.length - 1 - k:Nat):Int),by simp [hr],?_⟩
    simp
    rw [← els_set];rfl
   ·simp [hx1,hx2,q2,q4,lf5]
    refine hK' _ ⟨by simp,by simp [q2],by simp [q3],r,hr,by simp [q1]⟩
  ·simp [hx1,q2,q4]
   refine hK' _ ⟨by simp,by simp [q2],by simp [q3],r,hr,by simp [q1]⟩
 ·rintro S' ⟨q4,q2,q3,r,hr,q1⟩
  refine ⟨q4,?_⟩
  simp [q2]
  refine ⟨_,⟨r,rfl,hr⟩,2,?_⟩
  rw [← hr]
  refine pict_row (es:=els intc r) (by simp [q1]) (by simp) (by simp) fun k e he=>?_
  rw [he]
  simp only [els,List.getElem?_map] at he
  cases hz:r[k]? with
  | none=>rw [hz] at he;cases he
  | some z=>rw [hz] at he;cases he;simp [intc]
end Go.Proofs.YtbhkamemheaajaaGreatDoor.Vm
