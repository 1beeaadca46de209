/- A part of the proof: Gl Gm Gn Go. -/
import Derived.Test.YtbhkamemheaajaaGreatDoorQ21
set_option linter.unusedVariables false
set_option linter.unusedSimpArgs false
set_option linter.constructorNameAsVariable false
namespace Go.Proofs.YtbhkamemheaajaaGreatDoor.Vm
open Go Go.RowKit
variable {N:Nat} {g:Glob}
def Fre (S:St) (v:AV) (l:List Int):Prop:=(v=.nilsl∧l=[]) ∨ ∃ o off es,v=.sl 1 o off l.length∧2≤o∧o < S.next∧S.obj o=some (.row 1 es)∧(es.drop off).take l.length=els intc l∧off + l.length≤es.length
theorem Fre.len {S:St} {v:AV} {l:List Int} (h:Fre S v l):lenV v=some l.length:=by
 rcases h with ⟨rfl,rfl⟩ | ⟨o,off,es,rfl,_⟩ <;> rfl
theorem Fre.other {S S':St} {v:AV} {l:List Int} (h:Fre S v l) (hn:S.next≤S'.next) (hq:∀q,2≤q→q < S.next→S'.obj q=S.obj q):Fre S' v l:=by
 rcases h with h | ⟨o,off,es,rfl,h1,h2,h3,h4⟩
 ·exact .inl h
 ·exact .inr ⟨o,off,es,rfl,h1,by omega,by rw [hq o h1 h2];exact h3,h4⟩
theorem Fre.app {S:St} {v:AV} {l:List Int} {x:Int} (h:Fre S v l) (h2:2≤S.next) (hr:l.length + 1≤room) :
  ∃ w S',appV 1 v S [[.int .i64 x]]=some (w,S')∧w.one=true∧S'.next=S.next + 1∧Fre S' w (l ++ [x])∧∀q,q < 2→S'.obj q=S.obj q:=by
 have hr0:¬ room=0:=by simp [room]
 rcases h with ⟨rfl,rfl⟩ | ⟨o,off,es,rfl,a1,a2,a3,a4,a5⟩
 ·refine ⟨.sl 1 S.next 0 1,S.new (.row 1 [[.int .i64 x]]),by simp [hr0],rfl,by simp,.inr ⟨S.next,0,[[.int .i64 x]],by simp,h2,by simp,by simp,by simp [els,intc],by simp⟩,fun q hq=>?_⟩
  simp [show ¬ q=S.next by omega]
 ·refine ⟨.sl 1 S.next 0 (l.length + 1),(S.drop o).new (.row 1 (els intc (l ++ [x]))),?_,rfl,by simp,.inr ⟨S.next,0,els intc (l ++ [x]),by simp,h2,by simp,by simp,?_,by simp⟩,fun q hq=>?_⟩
  ·simp [hr0,a3,a5,hr,a4]
   simp [els,intc]
  ·rw [List.drop_zero,List.take_of_length_le (by simp)]
  ·simp [show ¬ q=S.next by omega,show ¬ q=o by omega]
theorem Fre.head {S:St} {v:AV} {x:Int} {l:List Int} (h:Fre S v (x :: l)):∃ o off es,v=.sl 1 o off (l.length + 1)∧S.obj o=some (.row 1 es)∧es[off]?=some [.int .i64 x]∧Fre S (.sl 1 o (off + 1) l.length) l:=by
 rcases h with ⟨_,h⟩ | ⟨o,off,es,rfl,a1,a2,a3,a4,a5⟩
 ·cases h
 ·simp at a5
  have h0:=congrArg (fun d=>d[0]?) a4
  simp [els,List.getElem?_take,intc] at h0
  refine ⟨o,off,es,rfl,a3,h0,.inr ⟨o,off + 1,es,rfl,a1,a2,a3,?_,by omega⟩⟩
  have h1:=congrArg (fun d=>d.drop 1) a4
  simp only [List.drop_take,List.drop_drop,List.length_cons,Nat.add_sub_cancel] at h1
  rw [h1];rfl
def posN (l:List Int):Nat:=(l.filter fun x=>decide (0 < x)).length
theorem posN_set {l:List Int} {i:Nat} {x y:Int} (h:l[i]?=some x):posN (l.set i y) + (if 0 < x then 1 else 0)=posN l + (if 0 < y then 1 else 0):=by
 unfold posN
 induction l generalizing i with
 | nil=>simp at h
 | cons a l ih =>
  cases i with
  | zero =>
   simp at h;subst h
   simp only [List.set_cons_zero,List.filter_cons]
   by_cases h1:0 < a <;> by_cases h2:0 < y <;> simp [h1,h2] <;> omega
  | succ i =>
   have:=ih (i:=i) (by simpa using h)
   simp only [List.set_cons_succ,List.filter_cons]
   by_cases h1:0 < a <;> simp [h1] <;> omega
theorem posN_le (l:List Int):posN l≤l.length:=List.length_filter_le _ _
theorem rank_of {v:AV} {G:List (List Int)} (hv:GrV v G) (hG:G.length≤64) (hin:∀l ∈ G,l.length < 1048576∧∀x ∈ l,0≤x∧x < G.length):RetE P g false 232 [v] (fun y=>∃ r:List Int,y=.fsl 1 (els intc r)∧r.length=G.length):=by
 refine RetE.in c232 (by simp) ?_
 have hroom:G.length≤room:=by simp [room];omega
 simp [k232,hv.len,hroom]
 have e0:∀n:Nat,List.replicate n [AV.int IntKind.i64 0]=els intc (List.replicate n 0):=fun n=>els_replicate (e:=intc)
 rw [e0]
 refine W.whileI (fun (a:Nat) F S=>a≤G.length∧F 0=v∧F 3=.sl 1 0 0 G.length∧F 4=.sl 1 1 0 G.length∧F 21=v∧F 22=.int .i64 G.length∧F 23=.int .i64 a∧2≤S.next∧S.obj 0=some (.row 1 (els intc (List.replicate G.length 0))) ∧
  ∃ r:List Int,r.length=G.length∧S.obj 1=some (.row 1 (els intc r))∧∀x ∈ r,0≤x∧x≤a * 1048576) (fun a=>G.length - a) ?_ 0 _ _ ?_
 ·rintro a F S ⟨ha,h0,h3,h4,h21,h22,h23,hn,ho0,r,hr,ho1,hrx⟩
  by_cases hlt:a < G.length
  ·obtain ⟨l,hx⟩:∃ l,G[a]?=some l:=⟨_,List.getElem?_eq_getElem hlt⟩
   obtain ⟨w,hw,hix⟩:=hv.idx hx
   obtain ⟨hll,hlx⟩:=hin l (List.mem_of_getElem? hx)
   have e4:=wrapS a (by omega)
   simp [h22,h23,hlt]
   simp [h21,h23,hix,hw.len]
   refine W.whileI (fun (k:Nat) F S=>k≤l.length∧F 0=v∧F 3=.sl 1 0 0 G.length∧F 4=.sl 1 1 0 G.length∧F 21=v∧F 22=.int .i64 G.length∧F 23=.int .i64 a∧F 27=w∧F 28=.int .i64 l.length∧F 29=.int .i64 k∧2≤S.next∧S.obj 0=some (.row 1 (els intc (List.replicate G.length 0))) ∧
    ∃ r:List Int,r.length=G.length∧S.obj 1=some (.row 1 (els intc r))∧∀x ∈ r,0≤x∧x≤a * 1048576 + k) (fun k=>l.length - k) ?_ 0 _ _ ?_
   ·rintro k F S ⟨hk,h0,h3,h4,h21,h22,h23,h27,h28,h29,hn,ho0,r,hr,ho1,hrx⟩
    by_cases hlk:k < l.length
    ·obtain ⟨x,hxk⟩:∃ x,l[k]?=some x:=⟨_,List.getElem?_eq_getElem hlk⟩
     have e5:=wrapS k (by omega)
     obtain ⟨hx0,hxn⟩:=hlx x (List.mem_of_getElem? hxk)
     obtain ⟨b,rfl⟩:∃ b:Nat,x=(b:Int):=⟨x.toNat,by omega⟩
     have hbn:b < G.length:=by omega
     obtain ⟨y,hy⟩:∃ y,r[b]?=some y:=⟨_,List.getElem?_eq_getElem (by omega)⟩
     have hyb:=hrx y (List.mem_of_getElem? hy)
     have e6:IntKind.i64.wrap (y + 1)=y + 1:=wrap_in (by omega)
     simp [h28,h29,hlk]
     simp [h27,h29,hw.idx hxk,intc,h4,ix_sl hbn,ho1,hy,e6,e5,h0,h3,h21,h22,h23]
     refine ⟨k + 1,by omega,by omega,by omega,hn,ho0,r.set b (y + 1),by simp [hr],?_,?_⟩
     ·rw [← els_set];rfl
     ·intro z hz
      rcases List.mem_or_eq_of_mem_set hz with h | rfl
      ·have:=hrx z h;omega
      ·omega
    ·have:k=l.length:=by omega
     subst this
     simp [h28,h29,h0,h3,h4,h21,h22,h23,e4]
     refine ⟨a + 1,by omega,by omega,by omega,hn,ho0,r,hr,ho1,fun x hx=>?_⟩
     have:=hrx x hx;omega
   ·simp [h0,h3,h4,h21,h22,h23]
    exact ⟨hn,ho0,r,hr,ho1,hrx⟩
  ·have:a=G.length:=by omega
   subst this
   simp [h22,h23,h4]
   have hrb:∀x ∈ r,-(0:Int)≤x∧x≤67108864:=fun x hx=>by have:=hrx x hx;omega
   refine W.whileI (fun (a:Nat) F S=>a≤G.length∧F 0=v∧F 3=.sl 1 0 0 G.length∧F 4=.sl 1 1 0 G.length∧F 41=.sl 1 1 0 G.length∧F 42=.int .i64 G.length∧F 43=.int .i64 a∧2≤S.next∧S.obj 0=some (.row 1 (els intc (List.replicate G.length 0))) ∧
    S.obj 1=some (.row 1 (els intc r))∧∃ fr:List Int,Fre S (F 9) fr∧fr.length≤a∧∀x ∈ fr,0≤x∧x < G.length) (fun a=>G.length - a) ?_ 0 _ _ ?_
   ·rintro a F S ⟨ha,h0,h3,h4,h41,h42,h43,hn,ho0,ho1,fr,hfr,hfl,hfx⟩
    by_cases hlt:a < G.length
    ·obtain ⟨y,hy⟩:∃ y,r[a]?=some y:=⟨_,List.getElem?_eq_getElem (by omega)⟩
     have e4:=wrapS a (by omega)
     simp [h42,h43,hlt]
     simp [h41,h43,ix_sl hlt,ho1,hy,intc]
     by_cases hy0:y=0
     ·obtain ⟨w,S',q1,q2,q3,q4,q5⟩:=(hfr.other (S':=S.new (.row 1 [[.int .i64 (a:Int)]])) (by simp) (fun q h1 h2=>by simp [show ¬ q=S.next by omega])).app (x:=(a:Int)) (by simp;omega) (by simp [room];omega)
      have p0:=q5 0 (by omega)
      have p1:=q5 1 (by omega)
      simp [show ¬ 0=S.next by omega,ho0] at p0
      simp [show ¬ 1=S.next by omega,ho1] at p1
      simp [hy0]
      simp [q1,h0,h3,h4,h41,h42,h43,e4]
      refine ⟨a + 1,by omega,by omega,by omega,by simp at q3;omega,p0,p1,_,q4,by simp;omega,?_⟩
      intro x hx
      rw [List.mem_append,List.mem_singleton] at hx
      rcases hx with hx | rfl
      ·exact hfx x hx
      ·omega
     ·simp [hy0,h0,h3,h4,h41,h42,h43,e4]
      exact ⟨a + 1,by omega,by omega,by omega,hn,ho0,ho1,fr,hfr,by omega,hfx⟩
    ·simp [h42,h43,hlt]
     refine W.whileI (fun (z:List Int × List Int) F S=>F 0=v∧F 3=.sl 1 0 0 G.length∧F 4=.sl 1 1 0 G.length∧2≤S.next∧(∃ r0:List Int,r0.length=G.length∧S.obj 0=some (.row 1 (els intc r0)))∧z.2.length=G.length∧S.obj 1=some (.row 1 (els intc z.2)) ∧
      Fre S (F 9) z.1∧(∀x ∈ z.1,0≤x∧x < G.length)∧∃ c:Nat,posN z.2 + z.1.length + c=128∧∀x ∈ z.2,-((c:Int) * 1048576)≤x∧x≤67108864) (fun z=>posN z.2 + z.1.length) ?_ (fr,r) _ _ ?_
     ·rintro ⟨fr,r⟩ F S ⟨h0,h3,h4,hn,⟨r0,hr0,ho0⟩,hr,ho1,hfr,hfx,c,hc,hcx⟩
      simp only at hr ho1 hfr hfx hc hcx
      have hpl:=posN_le r
      cases fr with
      | nil =>
       simp [hfr.len,h3]
       refine ⟨_,⟨r0,rfl,hr0⟩,2,?_⟩
       rw [← hr0]
       refine pict_row ho0 (by simp) (by simp) fun k e he=>?_
       rw [he]
       simp only [els,List.getElem?_map] at he
       cases hz:r0[k]? with
       | none=>rw [hz] at he;cases he
       | some z=>rw [hz] at he;cases he;simp [intc]
      | cons x fr =>
       obtain ⟨hx0,hxn⟩:=hfx x (by simp)
       obtain ⟨a,rfl⟩:∃ a:Nat,x=(a:Int):=⟨x.toNat,by omega⟩
       have han:a < G.length:=by omega
       obtain ⟨l,hx⟩:∃ l,G[a]?=some l:=⟨_,List.getElem?_eq_getElem han⟩
       obtain ⟨w,hw,hix⟩:=hv.idx hx
       obtain ⟨hll,hlx⟩:=hin l (List.mem_of_getElem? hx)
       obtain ⟨fo,off,es,e9,hfo,hes,hfr'⟩:=hfr.head
       have hix0:pk (PK.indexAddr 1) [AV.sl 1 fo off (fr.length + 1),AV.int IntKind.i64 0]=some (.ptr fo off 0):=ix_sl (k:=0) (by omega)
       have hsl:pk (.slice 1 true false false) [.sl 1 fo off (fr.length + 1),.int .i64 1]=some (.sl 1 fo (off + 1) fr.length):=sl_from (k:=1) (by omega)
       simp [hfr.len]
       simp [e9,hix0,hfo,hes,hsl,h0,hix,hw.len]
       simp at hc
       refine W.whileI (fun (k:Nat) F S=>k≤l.length∧F 0=v∧F 3=.sl 1 0 0 G.length∧F 4=.sl 1 1 0 G.length∧F 12=.int .i64 a∧F 66=w∧F 67=.int .i64 l.length∧F 68=.int .i64 k∧2≤S.next∧(∃ r0:List Int,r0.length=G.length∧S.obj 0=some (.row 1 (els intc r0))) ∧
        ∃ (r fr:List Int),r.length=G.length∧S.obj 1=some (.row 1 (els intc r))∧Fre S (F 9) fr∧(∀x ∈ fr,0≤x∧x < G.length)∧posN r + fr.length + (c + 1)=128∧∀x ∈ r,-((c:Int) * 1048576) - k≤x∧x≤67108864) (fun k=>l.length - k) ?_ 0 _ _ ?_
       ·rintro k F S ⟨hk,h0,h3,h4,h12,h66,h67,h68,hn,⟨r0,hr0,ho0⟩,r,fr,hr,ho1,hfr,hfx,hc,hcx⟩
        by_cases hlk:k < l.length
        ·obtain ⟨x,hxk⟩:∃ x,l[k]?=some x:=⟨_,List.getElem?_eq_getElem hlk⟩
         have e5:=wrapS k (by omega)
         obtain ⟨hx0,hxn⟩:=hlx x (List.mem_of_getElem? hxk)
         obtain ⟨b,rfl⟩:∃ b:Nat,x=(b:Int):=⟨x.toNat,by omega⟩
         have hbn:b < G.length:=by omega
         obtain ⟨y,hy⟩:∃ y,r[b]?=some y:=⟨_,List.getElem?_eq_getElem (by omega)⟩
         obtain ⟨u,hu⟩:∃ u,r0[b]?=some u:=⟨_,List.getElem?_eq_getElem (by omega)⟩
         obtain ⟨u',hu'⟩:∃ u,r0[a]?=some u:=⟨_,List.getElem?_eq_getElem (by omega)⟩
         have hyb:=hcx y (List.mem_of_getElem? hy)
         have e6:IntKind.i64.wrap (y - 1)=y - 1:=wrap_in (by omega)
         simp [h67,h68,hlk]
         simp [h66,h68,hw.idx hxk,intc]
         refine Dra.auto [] mix ?_ ?_
         ·kernel_rfl
         simp [classes,h3,h12,ix_sl hbn,ix_sl han,ho0,hu,hu',intc,foldI]
         have hbs:((els intc r).set b [AV.int IntKind.i64 (y - 1)])[b]?=some [AV.int IntKind.i64 (y - 1)]:=by rw [List.getElem?_set_self (by simp;omega)]
         simp [h4,ix_sl hbn,ho1,hy,intc,e6,hbs]
         generalize hz:(if u < IntKind.i64.wrap (u' + 1) then IntKind.i64.wrap (u' + 1) else u)=z
         have hps:=posN_set (y:=y - 1) hy
         have hfr2:Fre ((S.set 0 (.row 1 ((els intc r0).set b [.int .i64 z]))).set 1 (.row 1 ((els intc r).set b [.int .i64 (y - 1)]))) (F 9) fr:=hfr.other (by simp) fun q h1 h2=>by simp [show ¬ q=0 by omega,show ¬ q=1 by omega]
         have hrx:∀x ∈ r.set b (y - 1),-((c:Int) * 1048576) - (k + 1:Nat)≤x∧x≤67108864:=by
          intro x hx
          rcases List.mem_or_eq_of_mem_set hx with h | rfl
          ·have:=hcx x h;omega
          ·omega
         by_cases hy1:y - 1=0
         ·have hpl:=posN_le r
          obtain ⟨w',S',q1,q2,q3,q4,q5⟩:=(hfr2.other (S':=((S.set 0 (.row 1 ((els intc r0).set b [.int .i64 z]))).set 1 (.row 1 ((els intc r).set b [.int .i64 (y - 1)]))).new (.row 1 [[.int .i64 (b:Int)]])) (by simp) (fun q h1 h2=>by simp at h2;simp [show ¬ q=S.next by omega])).app (x:=(b:Int)) (by simp;omega) (by simp [room];omega)
          have p0:=q5 0 (by omega)
          have p1:=q5 1 (by omega)
          simp [show ¬ 0=S.next by omega] at p0
          simp [show ¬ 1=S.next by omega] at p1
          rw [hy1] at q1 p1 hrx hps
          simp [hy1]
          simp [q1,h0,h3,h4,h12,h66,h67,h68,e5]
          refine ⟨k + 1,by omega,by omega,by omega,by simp at q3;omega,⟨r0.set b z,by simp [hr0],by rw [p0,← els_set];rfl⟩,r.set b 0,by simp [hr],by rw [p1,← els_set];rfl,_,q4,?_,?_,hrx⟩
          ·intro x hx
           rw [List.mem_append,List.mem_singleton] at hx
           rcases hx with hx | rfl
           ·exact hfx x hx
           ·omega
          ·have:y=1:=by omega
           subst this
           simp at hps ⊢
           omega
         ·simp [hy1,h0,h3,h4,h12,h66,h67,h68,e5]
          refine ⟨k + 1,by omega,by omega,by omega,hn,⟨r0.set b z,by simp [hr0],by rw [← els_set];rfl⟩,r.set b (y - 1),by simp [hr],by rw [← els_set];rfl,fr,hfr2,hfx,?_,hrx⟩
          by_cases h1:0 < y
          ·rw [if_pos h1,if_pos (by omega)] at hps
           omega
          ·rw [if_neg h1,if_neg (by omega)] at hps
           omega
        ·have:k=l.length:=by omega
         subst this
         simp [h67,h68,h0,h3,h4]
         refine ⟨fr,r,by omega,hn,⟨r0,hr0,ho0⟩,hr,ho1,hfr,hfx,c + 1,hc,fun x hx=>?_⟩
         have:=hcx x hx
         omega
       ·simp [h0,h3,h4]
        exact ⟨hn,⟨r0,hr0,ho0⟩,r,hr,ho1,fr,hfr',fun x hx=>hfx x (by simp [hx]),by omega,hcx⟩
     ·simp
      exact ⟨h0,h3,h4,hn,⟨_,by simp,ho0⟩,hr,ho1,hfr,hfx,128 - (posN r + fr.length),by have:=posN_le r;omega,fun x hx=>by have:=hrb x hx;omega⟩
   ·simp
    exact ⟨h0,h3,h4,hn,ho0,ho1,[],.inl ⟨rfl,rfl⟩,rfl,by simp⟩
 ·simp
  exact ⟨_,by simp,rfl,fun x hx=>by rw [(List.mem_replicate.1 hx).2];omega⟩
end Go.Proofs.YtbhkamemheaajaaGreatDoor.Vm
namespace Go.Proofs.YtbhkamemheaajaaGreatDoor.Vm
open Go Go.RowKit
variable {N:Nat} {g:Glob}
def Rd {α:Type} (B:Nat) (e:α→List AV) (sz:Nat) (S:St) (v:AV) (l:List α):Prop:=(v=.nilsl∧l=[]) ∨ ∃ o,v=.sl sz o 0 l.length∧B≤o∧o < S.next∧S.obj o=some (.row sz (els e l))
theorem Rd.len {α:Type} {B:Nat} {e:α→List AV} {sz:Nat} {S:St} {v:AV} {l:List α} (h:Rd B e sz S v l):lenV v=some l.length:=by
 rcases h with ⟨rfl,rfl⟩ | ⟨o,rfl,_⟩ <;> rfl
theorem Rd.one {α:Type} {B:Nat} {e:α→List AV} {sz:Nat} {S:St} {v:AV} {l:List α} (h:Rd B e sz S v l):v.one=true:=by
 rcases h with ⟨rfl,rfl⟩ | ⟨o,rfl,_⟩ <;> rfl
theorem Rd.keep {α:Type} {B:Nat} {e:α→List AV} {sz:Nat} {S S':St} {v:AV} {l:List α} (h:Rd B e sz S v l) (hn:S.next≤S'.next) (hk:∀q,B≤q→q < S.next→(∃ c,v=.sl sz q 0 c)→S'.obj q=S.obj q):Rd B e sz S' v l:=by
 rcases h with h | ⟨o,rfl,h1,h2,h3⟩
 ·exact .inl h
 ·exact .inr ⟨o,rfl,h1,by omega,by rw [hk o h1 h2 ⟨_,rfl⟩];exact h3⟩
theorem push_int {B p off sz:Nat} {cells:List AV} {v:AV} {l:List Int} {x:Int} {S:St} {K:AV→St→Prop} (hp:S.obj p=some (.row sz [cells])) (hc:cells[off]?=some v) (h:Rd B intc 1 S v l) (hpB:p < B) (hB:B≤S.next) (hr:l.length + 1≤room)
  (hk:∀S',S'.next=S.next + 2→S'.obj (S.next + 1)=some (.row 1 (els intc (l ++ [x])))→S'.obj p=some (.row sz [cells.set off (.sl 1 (S.next + 1) 0 (l.length + 1))])→(∀q,q < S.next→q ≠ p→(∀c,v ≠ .sl 1 q 0 c)→S'.obj q=S.obj q)→K (.tuple []) S') :
  Cal P g 283 [.ptr p 0 off,.int .i64 x] S K:=by
 refine c283.in (by simp) ?_
 have hoff:=(List.getElem?_eq_some_iff.1 hc).1
 have hr0:¬ room=0:=by simp [room]
 have n0:¬ p=S.next:=by omega
 have n1:¬ p=S.next + 1:=by omega
 simp [k283,hp,hc]
 rcases h with ⟨rfl,rfl⟩ | ⟨o,rfl,h1,h2,h3⟩
 ·simp [hr0,n0,n1,hp,show off + 1≤cells.length by omega]
  refine hk _ (by simp) ?_ (by simp) ?_
  ·simp [show ¬ S.next + 1=p by omega,els,intc]
  ·intro q hq hqp _
   simp [hqp,show ¬ q=S.next + 1 by omega,show ¬ q=S.next by omega]
 ·have n2:¬ o=S.next:=by omega
  have n3:¬ p=o:=by omega
  simp [hr0,n0,n1,n2,n3,hp,h3,hr,show off + 1≤cells.length by omega]
  refine hk _ (by simp) ?_ (by simp) ?_
  ·simp [show ¬ S.next + 1=p by omega]
   rw [List.take_of_length_le (by simp)]
   simp [els,intc]
  ·intro q hq hqp hv
   have:¬ q=o:=fun e=>hv _ (by rw [e])
   simp [hqp,this,show ¬ q=S.next + 1 by omega,show ¬ q=S.next by omega]
theorem push_step {B p off sz:Nat} {cells:List AV} {v:AV} {l:List (Nat × Nat)} {x:Nat × Nat} {S:St} {K:AV→St→Prop} (hp:S.obj p=some (.row sz [cells])) (hc:cells[off]?=some v) (h:Rd B stepc 2 S v l) (hpB:p < B) (hB:B≤S.next) (hr:l.length + 1≤room)
  (hk:∀S',S'.next=S.next + 3→S'.obj (S.next + 2)=some (.row 2 (els stepc (l ++ [x])))→S'.obj p=some (.row sz [cells.set off (.sl 2 (S.next + 2) 0 (l.length + 1))])→(∀q,q < S.next→q ≠ p→(∀c,v ≠ .sl 2 q 0 c)→S'.obj q=S.obj q)→K (.tuple []) S') :
  Cal P g 284 [.ptr p 0 off,.agg (stepc x)] S K:=by
 refine c284.in (by simp) ?_
 have hoff:=(List.getElem?_eq_some_iff.1 hc).1
 have hr0:¬ room=0:=by simp [room]
 have n0:¬ p=S.next:=by omega
 have n1:¬ p=S.next + 1:=by omega
 have n2:¬ p=S.next + 1 + 1:=by omega
 simp [k284,stepc]
 refine Dra.auto [] mix ?_ ?_
 ·kernel_rfl
 simp [classes,hp,hc,n0]
 rcases h with ⟨rfl,rfl⟩ | ⟨o,rfl,h1,h2,h3⟩
 ·simp [hr0,n0,n1,n2,hp,show off + 1≤cells.length by omega]
  refine hk _ (by simp) ?_ (by simp) ?_
  ·simp [show ¬ S.next + 2=p by omega,els,stepc]
  ·intro q hq hqp _
   simp [hqp,show ¬ q=S.next + 1 + 1 by omega,show ¬ q=S.next + 1 by omega,show ¬ q=S.next by omega]
 ·have n4:¬ o=S.next:=by omega
  have n5:¬ o=S.next + 1:=by omega
  have n3:¬ p=o:=by omega
  simp [hr0,n0,n1,n2,n3,n4,n5,hp,h3,hr,show off + 1≤cells.length by omega]
  refine hk _ (by simp) ?_ (by simp) ?_
  ·simp [show ¬ S.next + 2=p by omega]
   rw [List.take_of_length_le (by simp)]
   simp [els,stepc]
  ·intro q hq hqp hv
   have:¬ q=o:=fun e=>hv _ (by rw [e])
   simp [hqp,this,show ¬ q=S.next + 1 + 1 by omega,show ¬ q=S.next + 1 by omega,show ¬ q=S.next by omega]
theorem top_step {p off sz o:Nat} {cells:List AV} {l:List (Nat × Nat)} {S:St} {K:AV→St→Prop} (hp:S.obj p=some (.row sz [cells])) (hc:cells[off]?=some (.sl 2 o 0 (l.length + 1))) (hl:l.length < 2 ^ 40) (hk:K (.ptr o l.length 0) S) :
  Cal P g 278 [.ptr p 0 off] S K:=by
 refine c278.in (by simp) ?_
 have e5:IntKind.i64.wrap (l.length:Int)=(l.length:Int):=wrap_in (by omega)
 have hix:pk (PK.indexAddr 2) [AV.sl 2 o 0 (l.length + 1),AV.int IntKind.i64 (l.length:Int)]=some (.ptr o (0 + l.length) 0):=ix_sl (by omega)
 simp [k278]
 refine Dra.auto [] mix ?_ ?_
 ·kernel_rfl
 simp [classes,hp,hc,e5,hix]
 exact hk
theorem pop_int {p off sz o:Nat} {cells:List AV} {l:List Int} {x:Int} {S:St} {K:AV→St→Prop} (hp:S.obj p=some (.row sz [cells])) (hc:cells[off]?=some (.sl 1 o 0 (l.length + 1))) (ho:S.obj o=some (.row 1 (els intc (l ++ [x])))) (hne:p ≠ o) (hl:l.length < 2 ^ 40)
  (hk:K (.int .i64 x) ((S.set p (.row sz [cells.set off (.sl 1 o 0 l.length)])).set o (.row 1 (els intc l)))):Cal P g 285 [.ptr p 0 off] S K:=by
 refine Cal.less ?_
 refine c285.in (by simp) ?_
 have hoff:=(List.getElem?_eq_some_iff.1 hc).1
 have e5:IntKind.i64.wrap (l.length:Int)=(l.length:Int):=wrap_in (by omega)
 have hix:pk (PK.indexAddr 1) [AV.sl 1 o 0 (l.length + 1),AV.int IntKind.i64 (l.length:Int)]=some (.ptr o (0 + l.length) 0):=ix_sl (by omega)
 have hsl:pk (.slice 1 false true false) [.sl 1 o 0 (l.length + 1),.int .i64 (l.length:Int)]=some (.sl 1 o 0 l.length):=sl_to (by omega)
 have hget:(els intc (l ++ [x]))[l.length]?=some [.int .i64 x]:=by simp [els,intc]
 have hget2:∀h:l.length < (els intc (l ++ [x])).length,(els intc (l ++ [x]))[l.length]=[.int .i64 x]:=fun h=>by simp [els,intc]
 simp [k285]
 refine Dra.auto [] mix ?_ ?_
 ·kernel_rfl
 simp [classes,hp,hc,ho,e5,hix,hget,hget2]
 refine Dra.auto [] mix ?_ ?_
 ·kernel_rfl
 simp [classes,hp,hc,ho,e5,hsl,show off + 1≤cells.length by omega]
 have hcut:=Wk.cut (S:=S.set p (.row sz [cells.set off (.sl 1 o 0 l.length)])) (o:=o) (sz:=1) (es:=els intc (l ++ [x])) l.length (by simp [Ne.symm hne,ho])
 rw [els_take,List.take_left' rfl] at hcut
 exact ⟨_,hcut,hk⟩
theorem pop_step {p off sz o:Nat} {cells:List AV} {l:List (Nat × Nat)} {x:Nat × Nat} {S:St} {K:AV→St→Prop} (hp:S.obj p=some (.row sz [cells])) (hc:cells[off]?=some (.sl 2 o 0 (l.length + 1))) (ho:S.obj o=some (.row 2 (els stepc (l ++ [x])))) (hne:p ≠ o) (hpn:p < S.next) (hon:o < S.next) (hl:l.length < 2 ^ 40)
  (hk:∀S',S'.next=S.next + 2→S'.obj p=some (.row sz [cells.set off (.sl 2 o 0 l.length)])→S'.obj o=some (.row 2 (els stepc l))→(∀q,q < S.next→q ≠ p→q ≠ o→S'.obj q=S.obj q)→K (.agg (stepc x)) S'):Cal P g 280 [.ptr p 0 off] S K:=by
 refine Cal.less ?_
 refine c280.in (by simp) ?_
 have hoff:=(List.getElem?_eq_some_iff.1 hc).1
 have e5:IntKind.i64.wrap (l.length:Int)=(l.length:Int):=wrap_in (by omega)
 have hix:pk (PK.indexAddr 2) [AV.sl 2 o 0 (l.length + 1),AV.int IntKind.i64 (l.length:Int)]=some (.ptr o (0 + l.length) 0):=ix_sl (by omega)
 have hsl:pk (.slice 2 false true false) [.sl 2 o 0 (l.length + 1),.int .i64 (l.length:Int)]=some (.sl 2 o 0 l.length):=sl_to (by omega)
 have hget:(els stepc (l ++ [x]))[l.length]?=some [.int .i64 (x.1:Int),.int .i64 (x.2:Int)]:=by simp [els,stepc]
 have hget2:∀h:l.length < (els stepc (l ++ [x])).length,(els stepc (l ++ [x]))[l.length]=[.int .i64 (x.1:Int),.int .i64 (x.2:Int)]:=fun h=>by simp [els,stepc]
 have n1:¬ p=S.next:=by omega
 have n2:¬ p=S.next + 1:=by omega
 have n3:¬ o=S.next:=by omega
 have n4:¬ o=S.next + 1:=by omega
 simp [k280]
 refine Dra.auto [] mix ?_ ?_
 ·kernel_rfl
 simp [classes,hp,hc,ho,e5,hix,hget,hget2,n1,n2,n3,n4]
 refine Dra.auto [] mix ?_ ?_
 ·kernel_rfl
 simp [classes,hp,hc,ho,e5,hsl,n1,n2,n3,n4,show off + 1≤cells.length by omega,show ¬ S.next=p by omega,show ¬ S.next + 1=p by omega]
 refine ⟨_,Wk.cut (o:=o) (sz:=2) (es:=els stepc (l ++ [x])) l.length (by simp [Ne.symm hne,ho,n1,n2,n3,n4]),?_⟩
 rw [els_take,List.take_left' rfl]
 refine hk _ (by simp) ?_ (by simp) ?_
 ·simp [hne,n1,n2]
 ·intro q hq hqp hqo
  simp [hqp,hqo,show ¬ q=S.next by omega,show ¬ q=S.next + 1 by omega]
end Go.Proofs.YtbhkamemheaajaaGreatDoor.Vm
namespace Go.Proofs.YtbhkamemheaajaaGreatDoor.Vm
open Go Go.RowKit
variable {N:Nat} {g:Glob}
def partc (l:List Int):List AV:=[.fsl 1 (els intc l)]
structure Tj where
 met:List Int
 low:List Int
 inn:List Bool
 opn:List Int
 way:List (Nat × Nat)
 clock:Nat
 parts:List (List Int)
def tjCells (gv:AV) (n om ol oi:Nat) (ov wv pv:AV) (clock:Nat):List AV:=[gv,.sl 1 om 0 n,.sl 1 ol 0 n,ov,.sl 1 oi 0 n,.int .i64 (clock:Int),wv,pv]
structure TjS (B n T om ol oi:Nat) (gv:AV) (S:St) (ov wv pv:AV) (z:Tj):Prop where
 lT:T < B
 lm:om < B
 ll:ol < B
 li:oi < B
 le:B≤S.next
 ids:T ≠ om∧T ≠ ol∧T ≠ oi∧om ≠ ol∧om ≠ oi∧ol ≠ oi
 obj:S.obj T=some (.row 8 [tjCells gv n om ol oi ov wv pv z.clock])
 rm:S.obj om=some (.row 1 (els intc z.met))
 rl:S.obj ol=some (.row 1 (els intc z.low))
 ri:S.obj oi=some (.row 1 (els boolc z.inn))
 lenm:z.met.length=n
 lenl:z.low.length=n
 leni:z.inn.length=n
 ro:Rd B intc 1 S ov z.opn
 rw:Rd B stepc 2 S wv z.way
 rp:Rd B partc 1 S pv z.parts
 sep:∀q a b,ov=.sl 1 q 0 a→pv=.sl 1 q 0 b→False
theorem Rd.two {B:Nat} {S:St} {v w:AV} {α β:Type} {e:α→List AV} {e':β→List AV} {l:List α} {m:List β} (h:Rd B e 1 S v l) (h':Rd B e' 2 S w m) {q a b:Nat} (h1:v=.sl 1 q 0 a) (h2:w=.sl 2 q 0 b):False:=by
 rcases h with ⟨rfl,_⟩ | ⟨o,rfl,_,_,ho⟩
 ·cases h1
 ·cases h1
  rcases h' with ⟨rfl,_⟩ | ⟨o',rfl,_,_,ho'⟩
  ·cases h2
  ·cases h2
   rw [ho] at ho';cases ho'
def Tj.enter (z:Tj) (a:Nat):Tj:=⟨z.met.set a (z.clock + 1:Nat),z.low.set a (z.clock + 1:Nat),z.inn.set a true,z.opn ++ [(a:Int)],z.way ++ [(a,0)],z.clock + 1,z.parts⟩
theorem tarjan_enter {B n T om ol oi a:Nat} {gv ov wv pv:AV} {S:St} {z:Tj} {K:AV→St→Prop} (h:TjS B n T om ol oi gv S ov wv pv z) (ha:a < n) (hc:z.clock < 2 ^ 40) (ho:z.opn.length < 2 ^ 30) (hw:z.way.length < 2 ^ 30)
  (hk:∀S' ov wv pv,TjS B n T om ol oi gv S' ov wv pv (z.enter a)→K (.tuple []) S'):Cal P g 277 [.ptr T 0 0,.int .i64 (a:Int)] S K:=by
 obtain ⟨lT,lm,ll,li,le,⟨i1,i2,i3,i4,i5,i6⟩,obj,rm,rl,ri,lenm,lenl,leni,ro,rw',rp,sep⟩:=h
 refine c277.in (by simp) ?_
 have e1:IntKind.i64.wrap ((z.clock:Int) + 1)=((z.clock + 1:Nat):Int):=by rw [wrap_in (by omega)];omega
 obtain ⟨xm,hxm⟩:∃ x,z.met[a]?=some x:=⟨_,List.getElem?_eq_getElem (by omega)⟩
 obtain ⟨xl,hxl⟩:∃ x,z.low[a]?=some x:=⟨_,List.getElem?_eq_getElem (by omega)⟩
 obtain ⟨xi,hxi⟩:∃ x,z.inn[a]?=some x:=⟨_,List.getElem?_eq_getElem (by omega)⟩
 have i1':=Ne.symm i1
 have i2':=Ne.symm i2
 have i3':=Ne.symm i3
 have i4':=Ne.symm i4
 have i5':=Ne.symm i5
 have i6':=Ne.symm i6
 simp [k277,obj,tjCells,e1]
 refine Dra.auto [] mix ?_ ?_
 ·kernel_rfl
 simp [classes,i1,i2,i3,i4,i5,i6,i1',i2',i3',i4',i5',i6',rm,rl,ri,ix_sl ha,hxm,hxl,intc]
 have lo:∀q,q < B→∀c,ov ≠ .sl 1 q 0 c:=by
  intro q hq c e
  rcases ro with ⟨h,_⟩ | ⟨o,h,h1,_⟩
  ·rw [e] at h;cases h
  ·rw [e] at h;cases h;omega
 have lw:∀q,q < B→∀c,wv ≠ .sl 2 q 0 c:=by
  intro q hq c e
  rcases rw' with ⟨h,_⟩ | ⟨o,h,h1,_⟩
  ·rw [e] at h;cases h
  ·rw [e] at h;cases h;omega
 have hS1:∃ S1,S1=(((S.set T (AObj.row 8 [[gv,AV.sl 1 om 0 n,AV.sl 1 ol 0 n,ov,AV.sl 1 oi 0 n,AV.int IntKind.i64 (z.clock + 1:Int),wv,pv]])).set om (AObj.row 1 ((els intc z.met).set a [AV.int IntKind.i64 (z.clock + 1:Int)]))).set ol (AObj.row 1 ((els intc z.low).set a [AV.int IntKind.i64 (z.clock + 1:Int)]))):=⟨_,rfl⟩
 obtain ⟨S1,hS1⟩:=hS1
 rw [← hS1]
 have a1:S1.obj T=some (.row 8 [[gv,AV.sl 1 om 0 n,AV.sl 1 ol 0 n,ov,AV.sl 1 oi 0 n,AV.int IntKind.i64 (z.clock + 1:Int),wv,pv]]):=by rw [hS1];simp [i1,i2]
 have a2:S1.obj om=some (.row 1 (els intc (z.met.set a (z.clock + 1:Nat)))):=by rw [hS1];simp [i4];rw [← els_set];rfl
 have a3:S1.obj ol=some (.row 1 (els intc (z.low.set a (z.clock + 1:Nat)))):=by rw [hS1];simp;rw [← els_set];rfl
 have a4:S1.obj oi=some (.row 1 (els boolc z.inn)):=by rw [hS1];simp [i3',i5',i6',ri]
 have a5:S1.next=S.next:=by rw [hS1];simp
 have a6:∀q,B≤q→S1.obj q=S.obj q:=by intro q hq;rw [hS1];simp [show ¬ q=T by omega,show ¬ q=om by omega,show ¬ q=ol by omega]
 refine push_int (B:=B) a1 (v:=ov) (l:=z.opn) (by simp) (ro.keep (by omega) fun q h1 _ _=>a6 q h1) lT (by omega) (by simp [room];omega) fun S2 b1 b2 b3 b4=>?_
 simp at b3
 have b5:S2.obj om=_:=(b4 om (by omega) i1' (lo om lm)).trans a2
 have b6:S2.obj ol=_:=(b4 ol (by omega) i2' (lo ol ll)).trans a3
 have b7:S2.obj oi=_:=(b4 oi (by omega) i3' (lo oi li)).trans a4
 simp [b3,b7,ix_sl ha,hxi,boolc]
 have c1:(S2.set oi (.row 1 ((els boolc z.inn).set a [AV.bool true]))).obj T=some (.row 8 [[gv,AV.sl 1 om 0 n,AV.sl 1 ol 0 n,AV.sl 1 (S1.next + 1) 0 (z.opn.length + 1),AV.sl 1 oi 0 n,AV.int IntKind.i64 (z.clock + 1:Int),wv,pv]]):=by simp [i3,b3]
 have hwk:Rd B stepc 2 (S2.set oi (.row 1 ((els boolc z.inn).set a [AV.bool true]))) wv z.way:=by
  refine rw'.keep (by simp;omega) fun q h1 h2 ⟨c,h3⟩=>?_
  simp [show ¬ q=oi by omega]
  rw [b4 q (by omega) (by omega) fun c' h4=>?_,a6 q h1]
  exact Rd.two ro rw' h4 h3
 refine push_step (B:=B) c1 (v:=wv) (l:=z.way) (x:=(a,0)) (by simp) hwk lT (by simp;omega) (by simp [room];omega) fun S3 d1 d2 d3 d4=>?_
 simp at d1 d2 d3 d4
 have d5:∀q,q < S2.next→¬ q=T→¬ q=oi→(∀c,¬ wv=.sl 2 q 0 c)→S3.obj q=S2.obj q:=by
  intro q h1 h2 h3 h4
  have:=d4 q h1 h2 h4
  rw [if_neg h3] at this
  exact this
 simp
 refine hk S3 _ _ pv ⟨lT,lm,ll,li,by omega,⟨i1,i2,i3,i4,i5,i6⟩,d3,?_,?_,?_,by simp [Tj.enter,lenm],by simp [Tj.enter,lenl],by simp [Tj.enter,leni],.inr ⟨S1.next + 1,by simp [Tj.enter],by omega,by omega,?_⟩,.inr ⟨S2.next + 2,by simp [Tj.enter],by omega,by omega,d2⟩,?_,?_⟩
 ·rw [d5 om (by omega) i1' i5 (lw om lm),b5];rfl
 ·rw [d5 ol (by omega) i2' i6 (lw ol ll),b6];rfl
 ·have:=d4 oi (by omega) i3' (lw oi li)
  rw [if_pos rfl] at this
  rw [this,show [AV.bool true]=boolc true from rfl,els_set];rfl
 ·rw [d5 (S1.next + 1) (by omega) (by omega) (by omega) fun c e=>?_,b2]
  ·rfl
  ·rcases rw' with ⟨h,_⟩ | ⟨o,h,h1,h2,_⟩
   ·rw [e] at h;cases h
   ·rw [e] at h;cases h;omega
 ·refine rp.keep (by omega) fun q h1 h2 ⟨c,h3⟩=>?_
  rw [d5 q (by omega) (by omega) (by omega) fun c' h4=>Rd.two rp rw' h3 h4,b4 q (by omega) (by omega) fun c' h4=>sep q c' c h4 h3,a6 q h1]
 ·intro q x y h1 h2
  cases h1
  rcases rp with ⟨h,_⟩ | ⟨o,h,h3,h4,_⟩
  ·rw [h2] at h;cases h
  ·rw [h2] at h;cases h;omega
end Go.Proofs.YtbhkamemheaajaaGreatDoor.Vm
namespace Go.Proofs.YtbhkamemheaajaaGreatDoor.Vm
open Go Go.RowKit
variable {N:Nat} {g:Glob}
def Tj.up (z:Tj) (a:Nat):List Int:=match z.way.getLast? with
 | none=>z.low
 | some p=>z.low.set p.1 (if z.low.getD a 0 < z.low.getD p.1 0 then z.low.getD a 0 else z.low.getD p.1 0)
theorem Rd.app {α:Type} {B:Nat} {e:α→List AV} [OneE e] {S:St} {v:AV} {l:List α} {x:α} (h:Rd B e 1 S v l) (hr:l.length + 1≤room) :
  ∃ S',appV 1 v S [e x]=some (.sl 1 S.next 0 (l.length + 1),S')∧S'.next=S.next + 1∧S'.obj S.next=some (.row 1 (els e (l ++ [x])))∧∀q,q ≠ S.next→(∀c,v ≠ .sl 1 q 0 c)→S'.obj q=S.obj q:=by
 have hr0:¬ room=0:=by simp [room]
 have hok:okEl 1 (e x)=true:=OneE.out x
 have hok':okAll 1 [e x]:=by show ([e x].all (okEl 1))=true;rw [List.all_cons,hok];rfl
 rcases h with ⟨rfl,rfl⟩ | ⟨o,rfl,h1,h2,h3⟩
 ·refine ⟨S.new (.row 1 [e x]),by rw [appV_nil];simp [hr0,hok'],by simp,by simp [els],fun q hq _=>by simp [hq]⟩
 ·refine ⟨(S.drop o).new (.row 1 (els e (l ++ [x]))),?_,by simp,by simp,fun q hq hv=>?_⟩
  ·rw [appV_sl]
   simp [hr0,hok',h3,hr]
   rw [List.take_of_length_le (by simp)]
   simp [els]
  ·have:¬ q=o:=fun e=>hv _ (by rw [e])
   simp [hq,this]
def cur (pre:List Int) (a:Int):Option (List Int)→List Int
 | some s=>pre ++ a :: s
 | none=>pre
theorem cur_last (pre:List Int) (a:Int) (s:List Int) (h:a ∉ s):∃ l x o',pre ++ a :: s=l ++ [x]∧cur pre a o'=l∧((o'=none∧x=a) ∨ ∃ s',o'=some s'∧x ≠ a∧a ∉ s'):=by
 rcases List.eq_nil_or_concat s with rfl | ⟨s',y,rfl⟩
 ·exact ⟨pre,a,none,rfl,rfl,.inl ⟨rfl,rfl⟩⟩
 ·rw [List.concat_eq_append] at h ⊢
  refine ⟨pre ++ a :: s',y,some s',by simp,rfl,.inr ⟨s',rfl,fun e=>h (by simp [e]),fun e=>h (by simp [e])⟩⟩
def LvI (B n T om ol oi:Nat) (gv wv pv:AV) (z:Tj) (a:Nat) (pre:List Int) (o:Option (List Int)) (S':St) (f:AV):Prop:=∃ (ov:AV) (inn:List Bool) (part:List Int),TjS B n T om ol oi gv S' ov wv pv ⟨z.met,z.up a,inn,cur pre a o,z.way,z.clock,z.parts⟩ ∧
 Rd B intc 1 S' f part∧(∀q b c,f=.sl 1 q 0 b→ov=.sl 1 q 0 c→False)∧(∀q b c,f=.sl 1 q 0 b→pv=.sl 1 q 0 c→False)∧(o=none→part ≠ [])∧(∀x ∈ part,0≤x∧x < n)∧part.length + (cur pre a o).length=z.opn.length∧∀x ∈ cur pre a o,0≤x∧x < n
theorem tarjan_leave {B n T om ol oi a:Nat} {gv ov wv pv:AV} {S:St} {z:Tj} {K:AV→St→Prop} (h:TjS B n T om ol oi gv S ov wv pv z) (ha:a < n) (hway:∀p ∈ z.way,p.1 < n) (pre suf:List Int) (hopn:z.opn=pre ++ (a:Int) :: suf) (hsuf:(a:Int) ∉ suf)
  (hob:∀x ∈ z.opn,0≤x∧x < n) (hol:z.opn.length < 2 ^ 20) (hwl:z.way.length < 2 ^ 20) (hpl:z.parts.length < 2 ^ 20)
  (hk:∀S' ov wv pv z',TjS B n T om ol oi gv S' ov wv pv z'→z'.met=z.met→z'.clock=z.clock→z'.way=z.way→z'.low=z.up a →
   ((z'.low.getD a 0 ≠ z.met.getD a 0∧z'.opn=z.opn∧z'.parts=z.parts) ∨ (z'.low.getD a 0=z.met.getD a 0∧z'.opn=pre∧∃ part:List Int,part ≠ []∧(∀x ∈ part,0≤x∧x < n)∧part.length≤z.opn.length∧z'.parts=z.parts ++ [part]))→K (.tuple []) S') :
  Cal P g 279 [.ptr T 0 0,.int .i64 (a:Int)] S K:=by
 obtain ⟨lT,lm,ll,li,le,⟨i1,i2,i3,i4,i5,i6⟩,obj,rm,rl,ri,lenm,lenl,leni,ro,rw',rp,sep⟩:=h
 refine Cal.freeze ?_
 refine c279.inW (by simp) ?_
 obtain ⟨xm,hxm⟩:∃ x,z.met[a]?=some x:=⟨_,List.getElem?_eq_getElem (by omega)⟩
 obtain ⟨xl,hxl⟩:∃ x,z.low[a]?=some x:=⟨_,List.getElem?_eq_getElem (by omega)⟩
 have i1':=Ne.symm i1
 have i2':=Ne.symm i2
 have i3':=Ne.symm i3
 have i4':=Ne.symm i4
 have i5':=Ne.symm i5
 have i6':=Ne.symm i6
 refine W.split (fun F S'=>F 0=.ptr T 0 0∧F 1=.int .i64 (a:Int)∧S'=S.set ol (.row 1 (els intc (z.up a)))) ?_ ?_
 ·simp [obj,tjCells,rw'.len]
  rcases List.eq_nil_or_concat z.way with hw | ⟨wp,⟨u,nx⟩,hw⟩
  ·have:z.up a=z.low:=by simp [Tj.up,hw]
   simp [hw,this,St.set_same rl]
  ·rw [List.concat_eq_append] at hw
   have hun:u < n:=hway (u,nx) (by rw [hw];simp)
   obtain ⟨xu,hxu⟩:∃ x,z.low[u]?=some x:=⟨_,List.getElem?_eq_getElem (by omega)⟩
   rcases rw' with ⟨_,h⟩ | ⟨wo,rfl,w1,w2,w3⟩
   ·rw [h] at hw;simp at hw
   have hwl':wp.length + 1=z.way.length:=by rw [hw];simp
   have hup:z.up a=z.low.set u (if xl < xu then xl else xu):=by
    simp [Tj.up,hw,List.getD_eq_getElem?_getD,hxl,hxu]
   simp [hw]
   refine top_step (l:=wp) (o:=wo) obj (by simp [tjCells,hw]) (by omega) ?_
   have hget:(els stepc (wp ++ [(u,nx)]))[wp.length]?=some [.int .i64 (u:Int),.int .i64 (nx:Int)]:=by simp [els,stepc]
   have hget2:∀h:wp.length < (els stepc (wp ++ [(u,nx)])).length,(els stepc (wp ++ [(u,nx)]))[wp.length]=[.int .i64 (u:Int),.int .i64 (nx:Int)]:=fun h=>by simp [els,stepc]
   rw [hw] at w3
   simp [w3,hget,hget2]
   refine Dra.auto [] mix ?_ ?_
   ·kernel_rfl
   simp [classes,obj,tjCells,rl,ix_sl hun,ix_sl ha,hxl,hxu,intc]
   rw [hup,← els_set];rfl
 ·rintro F S' ⟨h0,h1,rfl⟩
  have hul:(z.up a).length=n:=by
   unfold Tj.up
   cases z.way.getLast? <;> simp [lenl]
  obtain ⟨xu,hxu⟩:∃ x,(z.up a)[a]?=some x:=⟨_,List.getElem?_eq_getElem (by omega)⟩
  have hgm:z.met.getD a 0=xm:=by simp [List.getD_eq_getElem?_getD,hxm]
  have hgu:(z.up a).getD a 0=xu:=by simp [List.getD_eq_getElem?_getD,hxu]
  have hT1:TjS B n T om ol oi gv (S.set ol (.row 1 (els intc (z.up a)))) ov wv pv ⟨z.met,z.up a,z.inn,z.opn,z.way,z.clock,z.parts⟩:=by
   refine ⟨lT,lm,ll,li,by simpa using le,⟨i1,i2,i3,i4,i5,i6⟩,by simp [i2,obj],by simp [i4,rm],by simp,by simp [i6',ri],lenm,hul,leni,?_,?_,?_,sep⟩
   ·exact ro.keep (by simp) fun q h1 _ _=>by simp [show ¬ q=ol by omega]
   ·exact rw'.keep (by simp) fun q h1 _ _=>by simp [show ¬ q=ol by omega]
   ·exact rp.keep (by simp) fun q h1 _ _=>by simp [show ¬ q=ol by omega]
  simp
  refine Dra.auto [] mix ?_ ?_
  ·kernel_rfl
  simp [classes,h0,h1,obj,tjCells,i1,i2,i3,i4,i1',i2',i4',rm,ix_sl ha,hxm,hxu,intc]
  by_cases hne:xu=xm
  ·subst hne
   simp
   refine W.whileI (fun (o:Option (List Int)) F S'=>F 0=.ptr T 0 0∧F 1=.int .i64 (a:Int)∧∃ x6,F 6=.int .i64 x6∧((∃ s,o=some s∧x6 ≠ a∧(a:Int) ∉ s) ∨ (o=none∧x6=a))∧LvI B n T om ol oi gv wv pv z a pre o S' (F 5))
    (fun o=>(cur pre a o).length) ?_ (some suf) _ _ ?_
   ·rintro o F S' ⟨h0,h1,x6,h6,ho,ov,inn,part,hT,hpa,hs1,hs2,hp0,hpx,hpn,hcx⟩
    obtain ⟨_,_,_,_,le',_,obj',rm',rl',ri',_,_,leni',ro',rw2,rp',sep'⟩:=hT
    simp only at obj' rm' rl' ri' leni' ro' rw2 rp'
    rcases ho with ⟨s,rfl,hx6,has⟩ | ⟨rfl,rfl⟩
    ·obtain ⟨l,x,o',hl,hcur,ho'⟩:=cur_last pre a s has
     have hcl:cur pre a (some s)=l ++ [x]:=hl
     rw [hcl] at ro' hcx hpn
     simp at hpn
     obtain ⟨hx0,hxn⟩:=hcx x (by simp)
     obtain ⟨b,rfl⟩:∃ b:Nat,x=(b:Int):=⟨x.toNat,by omega⟩
     have hbn:b < n:=by omega
     obtain ⟨xi,hxi⟩:∃ y,inn[b]?=some y:=⟨_,List.getElem?_eq_getElem (by omega)⟩
     rcases ro' with ⟨_,h⟩ | ⟨oo,rfl,o1,o2,o3⟩
     ·simp at h
     simp [h6,h1,hx6,h0]
     refine pop_int (l:=l) (o:=oo) obj' (by simp [tjCells]) o3 (by omega) (by omega) ?_
     simp [h0,show ¬ T=oo by omega,tjCells,show ¬ oi=oo by omega,i3',ri',ix_sl hbn,hxi,boolc]
     generalize hS2:(((S'.set T (AObj.row 8 [[gv,AV.sl 1 om 0 n,AV.sl 1 ol 0 n,AV.sl 1 oo 0 l.length,AV.sl 1 oi 0 n,AV.int IntKind.i64 z.clock,wv,pv]])).set oo (AObj.row 1 (els intc l))).set oi (AObj.row 1 ((els boolc inn).set b [AV.bool false])))=S2
     have b0:S2.next=S'.next:=by rw [← hS2];rfl
     have bT:S2.obj T=some (.row 8 [tjCells gv n om ol oi (.sl 1 oo 0 l.length) wv pv z.clock]):=by rw [← hS2];simp [i3,show ¬ T=oo by omega,tjCells]
     have bo:S2.obj oo=some (.row 1 (els intc l)):=by rw [← hS2];simp [show ¬ oo=oi by omega]
     have bi:S2.obj oi=some (.row 1 (els boolc (inn.set b false))):=by rw [← hS2,← els_set];simp [boolc]
     have bq:∀q,q ≠ T→q ≠ oo→q ≠ oi→S2.obj q=S'.obj q:=by intro q h1 h2 h3;rw [← hS2];simp [h1,h2,h3]
     have lp:∀q,q < B→∀c,F 5 ≠ .sl 1 q 0 c:=by
      intro q hq c e
      rcases hpa with ⟨h,_⟩ | ⟨o,h,h1,_⟩
      ·rw [e] at h;cases h
      ·rw [e] at h;cases h;omega
     have hpa2:Rd B intc 1 (S2.new (.row 1 [[.int .i64 (b:Int)]])) (F 5) part:=hpa.keep (by simp;omega) fun q h1 h2 ⟨c,h3⟩=>by
      simp [show ¬ q=S2.next by omega]
      exact bq q (by omega) (fun e=>hs1 q _ _ h3 (by rw [e])) (by omega)
     obtain ⟨S3,q1,q2,q3,q4⟩:=Rd.app (x:=(b:Int)) hpa2 (by simp [room];omega)
     have q1':appV 1 (F 5) (S2.new (.row 1 [[.int .i64 (b:Int)]])) [[.int .i64 (b:Int)]]=some (.sl 1 (S2.new (.row 1 [[.int .i64 (b:Int)]])).next 0 (part.length + 1),S3):=q1
     simp [q1',h0,h1]
     simp at q2
     have q5:∀q,q < S'.next→(∀c,F 5 ≠ .sl 1 q 0 c)→S3.obj q=S2.obj q:=by
      intro q hq hc
      rw [q4 q (by simp;omega) hc]
      simp [show ¬ q=S2.next by omega]
     have n5:∀(q c d:Nat),F 5=.sl 1 q 0 c→pv=.sl 1 q 0 d→False:=hs2
     refine ⟨o',by rw [hcl,hcur];simp,?_,.sl 1 oo 0 l.length,inn.set b false,part ++ [(b:Int)],⟨lT,lm,ll,li,by omega,⟨i1,i2,i3,i4,i5,i6⟩,?_,?_,?_,?_,lenm,hul,by simpa using leni',?_,?_,?_,?_⟩,?_,?_,?_,?_,?_,?_,?_⟩
     ·rcases ho' with ⟨rfl,e⟩ | ⟨s',rfl,h2,h3⟩
      ·exact .inr ⟨rfl,e⟩
      ·exact .inl ⟨s',rfl,h2,h3⟩
     ·rw [q5 T (by omega) (lp T lT)];exact bT
     ·rw [q5 om (by omega) (lp om lm),bq om i1' (by omega) i5];exact rm'
     ·rw [q5 ol (by omega) (lp ol ll),bq ol i2' (by omega) i6];exact rl'
     ·rw [q5 oi (by omega) (lp oi li)];exact bi
     ·refine .inr ⟨oo,by rw [hcur],o1,by omega,?_⟩
      rw [q5 oo o2 fun c e=>hs1 oo _ _ e rfl,hcur];exact bo
     ·refine rw2.keep (by omega) fun q h1 h2 ⟨c,h3⟩=>?_
      rw [q5 q h2 fun c' h4=>Rd.two hpa rw2 h4 h3,bq q (by omega) (fun e=>?_) (by omega)]
      subst e
      exact Rd.two (.inr ⟨q,rfl,o1,o2,o3⟩:Rd B intc 1 S' (.sl 1 q 0 (l ++ [(b:Int)]).length) (l ++ [(b:Int)])) rw2 rfl h3
     ·refine rp'.keep (by omega) fun q h1 h2 ⟨c,h3⟩=>?_
      rw [q5 q h2 fun c' h4=>n5 q c' c h4 h3,bq q (by omega) (fun e=>sep' q _ _ (by rw [e]) h3) (by omega)]
     ·intro q x y h1 h2
      cases h1
      exact sep' oo _ _ rfl h2
     ·exact .inr ⟨S2.next + 1,by simp,by omega,by omega,by simpa using q3⟩
     ·intro q x y h1 h2
      cases h1;cases h2;omega
     ·intro q x y h1 h2
      cases h1
      rcases rp' with ⟨h,_⟩ | ⟨o,h,h3,h4,_⟩
      ·rw [h2] at h;cases h
      ·rw [h2] at h;cases h;omega
     ·intro _;simp
     ·intro y hy
      rw [List.mem_append,List.mem_singleton] at hy
      rcases hy with hy | rfl
      ·exact hpx y hy
      ·exact ⟨hx0,hxn⟩
     ·rw [hcur];simp;omega
     ·intro y hy
      rw [hcur] at hy
      exact hcx y (by simp [hy])
    ·simp [h6,h1]
     rcases hpa with ⟨_,h⟩ | ⟨po,hpo,o1,o2,o3⟩
     ·exact absurd h (hp0 rfl)
     have hpne:=hp0 rfl
     rw [hpo]
     refine slices_Sort_one o3 hpne (by omega) ?_
     generalize hS2:S'.set po (.row 1 (els intc (sorted part)))=S2
     have b0:S2.next=S'.next:=by rw [← hS2];rfl
     have bp:S2.obj po=some (.row 1 (els intc (sorted part))):=by rw [← hS2];simp
     have bq:∀q,q ≠ po→S2.obj q=S'.obj q:=by intro q h;rw [← hS2];simp [h]
     have bT:=(bq T (by omega)).trans obj'
     have n0:¬ T=S2.next:=by omega
     simp [h0,bT,tjCells,hpo]
     have hX:S2.next=S2.next:=rfl
     have hr0:¬ room=0:=by simp [room]
     have hso:∀z ∈ (els intc (sorted part)).flatten,z.solid=true:=by
      intro z hz
      rw [intc_flat,List.mem_map] at hz
      obtain ⟨y,_,rfl⟩:=hz
      rfl
     have hsl:(sorted part).length=part.length:=sorted_len part
     have fin:∀(S3:St) (np:Nat),S3.next=S2.next + 2→np=S2.next + 1→S3.obj T=some (.row 8 [tjCells gv n om ol oi ov wv (.sl 1 np 0 (z.parts.length + 1)) z.clock])→S3.obj np=some (.row 1 (els partc z.parts ++ [[.sl 1 po 0 part.length]])) →
       (∀q,q < S2.next→q ≠ T→(∀c,pv ≠ .sl 1 q 0 c)→S3.obj q=S2.obj q)→K (.tuple []) S3 ∨ ∃ o v2,FrV S3 o (.tuple []) v2∧∃ S4,Fzn S3 S4 o∧K v2 S4:=by
      intro S3 np e1 e2 e3 e4 e5
      have lpv:∀q,q < B→∀c,pv ≠ .sl 1 q 0 c:=by
       intro q hq c e
       rcases rp' with ⟨h,_⟩ | ⟨o,h,h1,_⟩
       ·rw [e] at h;cases h
       ·rw [e] at h;cases h;omega
      have e6:S3.obj po=some (.row 1 (els intc (sorted part))):=by rw [e5 po (by omega) (by omega) fun c e=>hs2 po _ _ hpo e];exact bp
      refine .inr ⟨po,.tuple [],.inl rfl,⟨S3.next,fun q=>if q=po then none else if q=np then some (.row 1 (els partc (z.parts ++ [sorted part]))) else S3.obj q⟩,⟨rfl,by simp,?_,?_⟩,?_⟩
      ·intro sz es he
       rw [e6] at he;cases he
       exact hso
      ·intro q hq
       by_cases hqn:q=np
       ·subst hqn
        refine .inr (.inr ⟨1,els partc z.parts ++ [[.sl 1 po 0 part.length]],els partc (z.parts ++ [sorted part]),e4,by simp [hq],?_⟩)
        rw [show els partc (z.parts ++ [sorted part])=els partc z.parts ++ [partc (sorted part)] by simp [els]]
        have h9:FrV S3 po (.sl 1 po 0 part.length) (.fsl 1 (els intc (sorted part))):=by
         refine .inr ⟨1,0,part.length,_,rfl,e6,by simp [hsl],?_⟩
         rw [List.drop_zero,List.take_of_length_le (by simp [hsl])]
        exact FrVss.snoc (x:=[.sl 1 po 0 part.length]) (y:=partc (sorted part)) (show FrV S3 po _ _∧True from ⟨h9,trivial⟩) _
       ·exact .inr (.inl (by simp [hq,hqn]))
      ·refine hk _ ov wv (.sl 1 np 0 (z.parts.length + 1)) ⟨z.met,z.up a,inn,pre,z.way,z.clock,z.parts ++ [sorted part]⟩ ⟨lT,lm,ll,li,by show B≤S3.next;omega,⟨i1,i2,i3,i4,i5,i6⟩,?_,?_,?_,?_,lenm,hul,leni',?_,?_,?_,?_⟩ rfl rfl rfl rfl (.inr ⟨by simp only [hgu,hgm],rfl,sorted part,?_,?_,?_,rfl⟩)
       ·simp [show ¬ T=po by omega,show ¬ T=np by omega,e3]
       ·simp [show ¬ om=po by omega,show ¬ om=np by omega]
        rw [e5 om (by omega) i1' (lpv om lm),bq om (by omega)];exact rm'
       ·simp [show ¬ ol=po by omega,show ¬ ol=np by omega]
        rw [e5 ol (by omega) i2' (lpv ol ll),bq ol (by omega)];exact rl'
       ·simp [show ¬ oi=po by omega,show ¬ oi=np by omega]
        rw [e5 oi (by omega) i3' (lpv oi li),bq oi (by omega)];exact ri'
       ·refine ro'.keep (by show S'.next≤S3.next;omega) fun q h1 h2 ⟨c,h3⟩=>?_
        have hqp:q ≠ po:=fun e=>hs1 q _ _ (by rw [hpo,e]) h3
        simp [hqp,show ¬ q=np by omega]
        rw [e5 q (by omega) (by omega) fun c' h4=>sep' q _ _ h3 h4,bq q hqp]
       ·refine rw2.keep (by show S'.next≤S3.next;omega) fun q h1 h2 ⟨c,h3⟩=>?_
        have hqp:q ≠ po:=fun e=>Rd.two (.inr ⟨q,by rw [e],by omega,by omega,by rw [e];exact o3⟩:Rd B intc 1 S' (.sl 1 q 0 part.length) part) rw2 rfl h3
        simp [hqp,show ¬ q=np by omega]
        rw [e5 q (by omega) (by omega) fun c' h4=>Rd.two rp' rw2 h4 h3,bq q hqp]
       ·exact .inr ⟨np,by simp,by omega,by show np < S3.next;omega,by simp [show ¬ np=po by omega]⟩
       ·intro q x y h1 h2
        cases h2
        rcases ro' with ⟨h,_⟩ | ⟨o,h,h3,h4,_⟩
        ·rw [h1] at h;cases h
        ·rw [h1] at h;cases h;omega
       ·intro h
        have:=congrArg List.length h
        rw [hsl] at this
        exact hpne (List.length_eq_zero_iff.1 this)
       ·intro x hx
        rw [sorted,List.mem_mergeSort] at hx
        exact hpx x hx
       ·rw [hsl];omega
     rcases rp' with ⟨rfl,hpe⟩ | ⟨pq,rfl,p1,p2,p3⟩
     ·simp [hr0,n0,show ¬ T=S2.next + 1 by omega,bT,tjCells]
      refine fin _ (S2.next + 1) (by simp) rfl (by simp [tjCells,hpe]) ?_ ?_
      ·simp [show ¬ S2.next + 1=T by omega,hpe,els]
      ·intro q h1 h2 _
       simp [h2,show ¬ q=S2.next + 1 by omega,show ¬ q=S2.next by omega]
     ·have hpq:pq ≠ po:=fun e=>hs2 po part.length z.parts.length hpo (by rw [e])
      have p3':S2.obj pq=some (.row 1 (els partc z.parts)):=(bq pq hpq).trans p3
      simp [hr0,n0,show ¬ T=S2.next + 1 by omega,bT,tjCells,show ¬ pq=S2.next by omega,p3',show ¬ T=pq by omega,show z.parts.length + 1≤room by simp [room];omega]
      refine fin _ (S2.next + 1) (by simp) rfl (by simp [tjCells]) ?_ ?_
      ·simp [show ¬ S2.next + 1=T by omega]
       rw [List.take_of_length_le (by simp)]
      ·intro q h1 h2 h3
       have:¬ q=pq:=fun e=>h3 _ (by rw [e])
       simp [h2,this,show ¬ q=S2.next + 1 by omega,show ¬ q=S2.next by omega]
   ·simp
    refine ⟨h0,h1,hsuf,ov,z.inn,[],?_,?_,?_,?_,?_,?_,?_,?_⟩
    ·simpa [cur,hopn] using hT1
    ·exact .inl ⟨by simp,rfl⟩
    ·simp
    ·simp
    ·simp
    ·simp
    ·simp [cur,hopn]
    ·simpa [cur,← hopn] using hob
  ·simp [hne]
   exact .inl (hk _ ov wv pv _ hT1 rfl rfl rfl rfl (.inl ⟨by simp only [hgu,hgm];exact hne,rfl,rfl⟩))
end Go.Proofs.YtbhkamemheaajaaGreatDoor.Vm
