/- A part of the proof: Gp Gq Gr Gs Gt. -/
import Derived.Test.YtbhkamemheaajaaGreatDoorQ22
set_option linter.unusedVariables false
set_option linter.unusedSimpArgs false
set_option linter.constructorNameAsVariable false
namespace Go.Proofs.YtbhkamemheaajaaGreatDoor.Vm
open Go Go.RowKit
variable {N:Nat} {g:Glob}
def wfst (w:List (Nat × Nat)):List Int:=w.map fun p=>(p.1:Int)
structure Wfj (C:List (List Int)) (z:Tj):Prop where
 lm:z.met.length=C.length
 ll:z.low.length=C.length
 rng:∀x ∈ z.opn,0≤x∧x < C.length
 nodup:z.opn.Nodup
 omet:∀a:Nat,(a:Int) ∈ z.opn→z.met.getD a 0 ≠ 0
 sub:(wfst z.way).Sublist z.opn
 nx:∀p ∈ z.way,p.2≤(C.getD p.1 []).length
 low:∀a:Nat,z.met.getD a 0 ≠ 0→1≤z.low.getD a 0∧z.low.getD a 0≤z.met.getD a 0
 cnt:z.parts.length + z.opn.length + z.met.count 0≤C.length
 clk:z.clock + z.met.count 0=C.length
 prt:∀l ∈ z.parts,l ≠ []∧(∀x ∈ l,0≤x∧x < C.length)∧l.length≤C.length
theorem Wfj.wrng {C:List (List Int)} {z:Tj} (h:Wfj C z):∀p ∈ z.way,p.1 < C.length:=by
 intro p hp
 have:=h.rng (p.1:Int) (h.sub.subset (by rw [wfst,List.mem_map];exact ⟨p,hp,rfl⟩))
 omega
theorem Wfj.wlen {C:List (List Int)} {z:Tj} (h:Wfj C z):z.way.length≤z.opn.length:=by
 have:=h.sub.length_le
 simpa [wfst] using this
theorem count_set0 {l:List Int} {i:Nat} {y:Int} (h:l[i]?=some 0) (hy:y ≠ 0):(l.set i y).count 0 + 1=l.count 0:=by
 induction l generalizing i with
 | nil=>simp at h
 | cons a l ih =>
  cases i with
  | zero=>simp at h;subst h;simp [List.count_cons,hy]
  | succ i =>
   have:=ih (i:=i) (by simpa using h)
   simp only [List.set_cons_succ,List.count_cons]
   omega
theorem getD_set {l:List Int} {i k:Nat} {y:Int} (h:i < l.length):(l.set i y).getD k 0=if k=i then y else l.getD k 0:=by
 simp only [List.getD_eq_getElem?_getD]
 by_cases hk:k=i
 ·subst hk;rw [List.getElem?_set_self h];simp
 ·rw [List.getElem?_set_ne (Ne.symm hk)];simp [hk]
theorem Wfj.enter {C:List (List Int)} {z:Tj} (h:Wfj C z) {a:Nat} (ha:a < C.length) (hm:z.met[a]?=some 0):Wfj C (z.enter a):=by
 have hg:z.met.getD a 0=0:=by simp [List.getD_eq_getElem?_getD,hm]
 have ham:a < z.met.length:=by rw [h.lm];exact ha
 have hal:a < z.low.length:=by rw [h.ll];exact ha
 have hno:(a:Int) ∉ z.opn:=fun h'=>h.omet a h' hg
 have hcs:=count_set0 (y:=(z.clock + 1:Nat)) hm (by omega)
 have h3:=h.cnt
 have h4:=h.clk
 refine ⟨by simp [Tj.enter,h.lm],by simp [Tj.enter,h.ll],?_,?_,?_,?_,?_,?_,?_,?_,h.prt⟩
 ·intro x hx
  simp only [Tj.enter,List.mem_append,List.mem_singleton] at hx
  rcases hx with hx | rfl
  ·exact h.rng x hx
  ·omega
 ·simp only [Tj.enter]
  rw [List.nodup_append]
  refine ⟨h.nodup,by simp,?_⟩
  intro x hx y hy e
  simp at hy
  subst hy;subst e
  exact hno hx
 ·intro b hb
  simp only [Tj.enter] at hb ⊢
  rw [getD_set ham]
  split
  ·omega
  ·rename_i hne
   rw [List.mem_append,List.mem_singleton] at hb
   rcases hb with hb | hb
   ·exact h.omet b hb
   ·omega
 ·simp only [Tj.enter,wfst,List.map_append,List.map_cons,List.map_nil]
  exact List.Sublist.append h.sub (List.Sublist.refl _)
 ·intro p hp
  simp only [Tj.enter,List.mem_append,List.mem_singleton] at hp
  rcases hp with hp | rfl
  ·exact h.nx p hp
  ·exact Nat.zero_le _
 ·intro b hb
  simp only [Tj.enter] at hb ⊢
  rw [getD_set ham] at hb
  rw [getD_set ham,getD_set hal]
  by_cases hba:b=a
  ·simp [hba];omega
  ·simp only [if_neg hba] at hb ⊢
   exact h.low b hb
 ·simp only [Tj.enter,List.length_append,List.length_singleton];omega
 ·simp only [Tj.enter];omega
theorem sub_split {l pre suf:List Int} {a:Int} (h:(l ++ [a]).Sublist (pre ++ a :: suf)) (h1:a ∉ pre) (h2:a ∉ suf):l.Sublist pre:=by
 rw [List.sublist_append_iff] at h
 obtain ⟨l1,l2,he,hl1,hl2⟩:=h
 rcases List.eq_nil_or_concat l2 with rfl | ⟨m,y,rfl⟩
 ·simp at he
  have:a ∈ l1:=by rw [← he];simp
  exact absurd (hl1.subset this) h1
 ·rw [List.concat_eq_append,← List.append_assoc] at he
  obtain ⟨he1,he2⟩:=List.append_inj' he rfl
  simp at he2
  subst he2
  rw [List.concat_eq_append] at hl2
  have hm:m=[]:=by
   cases m with
   | nil=>rfl
   | cons b m =>
    cases hl2 with
    | cons _ h=>exact absurd (h.subset (by simp)) h2
    | cons_cons _ h=>exact absurd (h.subset (by simp)) h2
  subst hm
  simp at he1
  rw [he1];exact hl1
theorem Wfj.split {C:List (List Int)} {z:Tj} (h:Wfj C z) {wp:List (Nat × Nat)} {a nx:Nat} (hw:z.way=wp ++ [(a,nx)]):∃ pre suf,z.opn=pre ++ (a:Int) :: suf∧(a:Int) ∉ pre∧(a:Int) ∉ suf∧(wfst wp).Sublist pre:=by
 have hs:=h.sub
 rw [hw] at hs
 simp only [wfst,List.map_append,List.map_cons,List.map_nil] at hs
 have hm:(a:Int) ∈ z.opn:=hs.subset (by simp)
 obtain ⟨pre,suf,he⟩:=List.append_of_mem hm
 have hn:=h.nodup
 rw [he] at hn hs
 rw [List.nodup_append] at hn
 obtain ⟨_,n2,n3⟩:=hn
 have hp:(a:Int) ∉ pre:=fun hx=>n3 _ hx _ (by simp) rfl
 have hsf:(a:Int) ∉ suf:=by
  rw [List.nodup_cons] at n2
  exact n2.1
 exact ⟨pre,suf,he,hp,hsf,sub_split hs hp hsf⟩
theorem up_low {C:List (List Int)} {z:Tj} (h:Wfj C z) {wp:List (Nat × Nat)} {a nx:Nat} (hw:z.way=wp ++ [(a,nx)]):∀b:Nat,z.met.getD b 0 ≠ 0→1≤(Tj.up ⟨z.met,z.low,z.inn,z.opn,wp,z.clock,z.parts⟩ a).getD b 0∧(Tj.up ⟨z.met,z.low,z.inn,z.opn,wp,z.clock,z.parts⟩ a).getD b 0≤z.met.getD b 0:=by
 intro b hb
 have hb':=h.low b hb
 unfold Tj.up
 cases hl:wp.getLast? with
 | none=>exact hb'
 | some p =>
  have hp:p ∈ wp:=List.mem_of_getLast? hl
  have hpw:=h.wrng p (by rw [hw];simp [hp])
  simp only []
  rw [getD_set (by rw [h.ll];exact hpw)]
  split
  ·rename_i e
   subst e
   have ham:z.met.getD a 0 ≠ 0:=h.omet a (h.sub.subset (by rw [hw];simp [wfst]))
   have:=h.low a ham
   split <;> omega
  ·exact hb'
theorem up_len (z:Tj) (a:Nat):(z.up a).length=z.low.length:=by
 unfold Tj.up
 cases z.way.getLast? <;> simp
theorem Wfj.leave {C:List (List Int)} {z z':Tj} (h:Wfj C z) {wp:List (Nat × Nat)} {a nx:Nat} (hw:z.way=wp ++ [(a,nx)]) {pre suf:List Int} (ho:z.opn=pre ++ (a:Int) :: suf) (hs:(wfst wp).Sublist pre)
  (e1:z'.met=z.met) (e2:z'.clock=z.clock) (e3:z'.way=wp) (e4:z'.low=Tj.up ⟨z.met,z.low,z.inn,z.opn,wp,z.clock,z.parts⟩ a)
  (e5:(z'.low.getD a 0 ≠ z.met.getD a 0∧z'.opn=z.opn∧z'.parts=z.parts) ∨ (z'.low.getD a 0=z.met.getD a 0∧z'.opn=pre∧∃ part:List Int,part ≠ []∧(∀x ∈ part,0≤x∧x < C.length)∧part.length≤z.opn.length∧z'.parts=z.parts ++ [part])):Wfj C z':=by
 have hup:=up_low h hw
 rw [← e4] at hup
 have h3:=h.cnt
 have h4:=h.clk
 have hsz:(wfst wp).Sublist z.opn:=by rw [ho];exact hs.trans (List.sublist_append_left _ _)
 have hnx:∀p ∈ z'.way,p.2≤(C.getD p.1 []).length:=by
  intro p hp
  rw [e3] at hp
  exact h.nx p (by rw [hw];simp [hp])
 have hll:z'.low.length=C.length:=by rw [e4,up_len];exact h.ll
 rcases e5 with ⟨_,e6,e7⟩ | ⟨_,e6,part,p1,p2,p3,e7⟩
 ·exact ⟨by rw [e1];exact h.lm,hll,by rw [e6];exact h.rng,by rw [e6];exact h.nodup,by rw [e6,e1];exact h.omet,by rw [e3,e6];exact hsz,hnx,by rw [e1];exact hup,by rw [e7,e6,e1];exact h3,by rw [e2,e1];exact h4,by rw [e7];exact h.prt⟩
 ·have hpre:∀x ∈ pre,x ∈ z.opn:=fun x hx=>by rw [ho];simp [hx]
  have hlen:z.opn.length=pre.length + (suf.length + 1):=by rw [ho];simp
  refine ⟨by rw [e1];exact h.lm,hll,by rw [e6];exact fun x hx=>h.rng x (hpre x hx),?_,by rw [e6,e1];exact fun b hb=>h.omet b (hpre _ hb),by rw [e3,e6];exact hs,hnx,by rw [e1];exact hup,?_,by rw [e2,e1];exact h4,?_⟩
  ·have:=h.nodup
   rw [ho,List.nodup_append] at this
   rw [e6];exact this.1
  ·rw [e7,e6,e1,List.length_append,List.length_singleton];omega
  ·intro l hl
   rw [e7,List.mem_append,List.mem_singleton] at hl
   rcases hl with hl | rfl
   ·exact h.prt l hl
   ·exact ⟨p1,p2,by omega⟩
theorem Wfj.next {C:List (List Int)} {z:Tj} (h:Wfj C z) {wp:List (Nat × Nat)} {a nx:Nat} (hw:z.way=wp ++ [(a,nx)]) (hlt:nx < (C.getD a []).length):Wfj C ⟨z.met,z.low,z.inn,z.opn,wp ++ [(a,nx + 1)],z.clock,z.parts⟩:=by
 refine ⟨h.lm,h.ll,h.rng,h.nodup,h.omet,?_,?_,h.low,h.cnt,h.clk,h.prt⟩
 ·have:=h.sub
  rw [hw] at this
  simpa [wfst] using this
 ·intro p hp
  simp only [List.mem_append,List.mem_singleton] at hp
  rcases hp with hp | rfl
  ·exact h.nx p (by rw [hw];simp [hp])
  ·exact hlt
theorem Wfj.lows {C:List (List Int)} {z:Tj} (h:Wfj C z) {a b:Nat} (ha:a < C.length) (hb:z.met.getD b 0 ≠ 0):Wfj C ⟨z.met,z.low.set a (if z.met.getD b 0 < z.low.getD a 0 then z.met.getD b 0 else z.low.getD a 0),z.inn,z.opn,z.way,z.clock,z.parts⟩:=by
 refine ⟨h.lm,by simpa using h.ll,h.rng,h.nodup,h.omet,h.sub,h.nx,?_,h.cnt,h.clk,h.prt⟩
 intro c hc
 simp only at hc ⊢
 rw [getD_set (by rw [h.ll];exact ha)]
 split
 ·rename_i e
  subst e
  have h1:=h.low c hc
  have h2:=h.low b hb
  split <;> omega
 ·exact h.low c hc
def wsum (C:List (List Int)) (w:List (Nat × Nat)):Nat:=(w.map fun p=>(C.getD p.1 []).length + 1 - p.2).sum
def usum:List (List Int)→List Int→Nat
 | l :: C,m :: M=>(if m=0 then l.length + 2 else 0) + usum C M
 | _,_=>0
theorem usum_set {C:List (List Int)} {M:List Int} {b:Nat} {y:Int} (h:M[b]?=some 0) (hb:b < C.length) (hy:y ≠ 0):usum C (M.set b y) + ((C.getD b []).length + 2)=usum C M:=by
 induction C generalizing M b with
 | nil=>simp at hb
 | cons l C ih =>
  cases M with
  | nil=>simp at h
  | cons m M =>
   cases b with
   | zero =>
    simp at h;subst h
    simp [usum,hy];omega
   | succ b =>
    have:=ih (M:=M) (b:=b) (by simpa using h) (by simpa using hb)
    simp [usum] at this ⊢
    omega
theorem wsum_snoc (C:List (List Int)) (w:List (Nat × Nat)) (p:Nat × Nat):wsum C (w ++ [p])=wsum C w + ((C.getD p.1 []).length + 1 - p.2):=by simp [wsum]
end Go.Proofs.YtbhkamemheaajaaGreatDoor.Vm
namespace Go.Proofs.YtbhkamemheaajaaGreatDoor.Vm
open Go Go.RowKit
variable {N:Nat} {g:Glob}
theorem TjS.wayTo {B n T om ol oi:Nat} {gv ov wv pv:AV} {S S':St} {z:Tj} (h:TjS B n T om ol oi gv S ov wv pv z) {wo:Nat} {c:Nat} (hwv:wv=.sl 2 wo 0 c) {way':List (Nat × Nat)} (hn:S.next≤S'.next)
  (hT:S'.obj T=some (.row 8 [tjCells gv n om ol oi ov (.sl 2 wo 0 way'.length) pv z.clock])) (hw:S'.obj wo=some (.row 2 (els stepc way'))) (hq:∀q,q < S.next→q ≠ T→q ≠ wo→S'.obj q=S.obj q) :
  TjS B n T om ol oi gv S' ov (.sl 2 wo 0 way'.length) pv ⟨z.met,z.low,z.inn,z.opn,way',z.clock,z.parts⟩:=by
 obtain ⟨lT,lm,ll,li,le,⟨i1,i2,i3,i4,i5,i6⟩,obj,rm,rl,ri,lenm,lenl,leni,ro,rw',rp,sep⟩:=h
 have hwo:B≤wo∧wo < S.next:=by
  rcases rw' with ⟨h,_⟩ | ⟨o,h,h1,h2,_⟩
  ·rw [hwv] at h;cases h
  ·rw [hwv] at h;cases h;exact ⟨h1,h2⟩
 refine ⟨lT,lm,ll,li,by omega,⟨i1,i2,i3,i4,i5,i6⟩,hT,?_,?_,?_,lenm,lenl,leni,?_,.inr ⟨wo,rfl,hwo.1,by omega,hw⟩,?_,sep⟩
 ·rw [hq om (by omega) (Ne.symm i1) (by omega)];exact rm
 ·rw [hq ol (by omega) (Ne.symm i2) (by omega)];exact rl
 ·rw [hq oi (by omega) (Ne.symm i3) (by omega)];exact ri
 ·refine ro.keep hn fun q h1 h2 ⟨d,h3⟩=>hq q h2 (by omega) fun e=>?_
  exact Rd.two ro rw' h3 (by rw [hwv,e])
 ·refine rp.keep hn fun q h1 h2 ⟨d,h3⟩=>hq q h2 (by omega) fun e=>?_
  exact Rd.two rp rw' h3 (by rw [hwv,e])
def Rt (z:Tj):Prop:=z.parts ≠ [] ∨ ∃ r nx rest,z.way=(r,nx) :: rest∧z.met.getD r 0=1
def RnI (B T om ol oi:Nat) (gv:AV) (C:List (List Int)) (S:St) (z:Tj):Prop:=∃ ov wv pv,TjS B C.length T om ol oi gv S ov wv pv z∧Wfj C z∧Rt z
theorem tarjan_run {B T om ol oi f:Nat} {gv ov wv pv:AV} {C:List (List Int)} {S:St} {z:Tj} {K:AV→St→Prop} (hg:GrV gv C) (h:TjS B C.length T om ol oi gv S ov wv pv z) (hz:Wfj C z) (hw0:z.way=[]) (hf:f < C.length) (hm0:z.met[f]?=some 0) (hn:C.length≤64)
  (hin:∀l ∈ C,l.length < 1048576∧∀x ∈ l,0≤x∧x < C.length) (h0:z.parts ≠ [] ∨ z.clock=0)
  (hk:∀S' ov wv pv z',TjS B C.length T om ol oi gv S' ov wv pv z'→Wfj C z'→z'.way=[]→z'.parts ≠ []→K (.tuple []) S'):Cal P g 271 [.ptr T 0 0,.int .i64 (f:Int)] S K:=by
 have hc1:=hz.cnt
 have hc2:=hz.clk
 refine c271.in (by simp) ?_
 simp [k271]
 refine tarjan_enter h hf (by omega) (by omega) (by simp [hw0]) fun S1 ov1 wv1 pv1 h1=>?_
 have hz1:=hz.enter hf hm0
 have hr1:Rt (z.enter f):=by
  rcases h0 with h0 | h0
  ·exact .inl h0
  ·refine .inr ⟨f,0,[],by simp [Tj.enter,hw0],?_⟩
   simp only [Tj.enter]
   rw [getD_set (by rw [hz.lm];exact hf),if_pos rfl,h0];rfl
 simp
 refine W.whileI (fun (z:Tj) F S=>F 0=.ptr T 0 0∧RnI B T om ol oi gv C S z) (fun z=>wsum C z.way + usum C z.met) ?_ (z.enter f) _ _ ?_
 ·rintro z F S ⟨h0,ov,wv,pv,hT,hz,hr⟩
  have hc1:=hz.cnt
  have hc2:=hz.clk
  have hc3:=hz.wlen
  have obj:=hT.obj
  rcases List.eq_nil_or_concat z.way with hw | ⟨wp,⟨a,nx⟩,hw⟩
  ·have hp:z.parts ≠ []:=by
    rcases hr with h | ⟨_,_,_,h,_⟩
    ·exact h
    ·rw [hw] at h;cases h
   simp [h0,obj,tjCells,hT.rw.len,hw]
   exact hk S ov wv pv z hT hz hw hp
  ·rw [List.concat_eq_append] at hw
   have han:a < C.length:=hz.wrng (a,nx) (by rw [hw];simp)
   obtain ⟨l,hl⟩:∃ l,C[a]?=some l:=⟨_,List.getElem?_eq_getElem han⟩
   have hgd:C.getD a []=l:=by simp [List.getD_eq_getElem?_getD,hl]
   obtain ⟨w,hw1,hix⟩:=hg.idx hl
   obtain ⟨hll,hlx⟩:=hin l (List.mem_of_getElem? hl)
   have hnx:nx≤l.length:=by
    have:nx≤(C.getD a []).length:=hz.nx (a,nx) (by rw [hw];simp)
    rwa [hgd] at this
   have hwl:z.way.length=wp.length + 1:=by rw [hw];simp
   rcases hT.rw with ⟨_,h⟩ | ⟨wo,hwv,w1,w2,w3⟩
   ·rw [hw] at h;simp at h
   rw [hwl] at hwv
   rw [hw] at w3
   have hget:(els stepc (wp ++ [(a,nx)]))[wp.length]?=some [.int .i64 (a:Int),.int .i64 (nx:Int)]:=by simp [els,stepc]
   have hget2:∀h:wp.length < (els stepc (wp ++ [(a,nx)])).length,(els stepc (wp ++ [(a,nx)]))[wp.length]=[.int .i64 (a:Int),.int .i64 (nx:Int)]:=fun h=>by simp [els,stepc]
   have hTo:¬ T=wo:=by have:=hT.lT;omega
   simp [h0,obj,tjCells,hT.rw.len,hwl]
   refine top_step (l:=wp) (o:=wo) obj (by simp [tjCells,hwv]) (by omega) ?_
   simp
   refine Dra.auto [] mix ?_ ?_
   ·kernel_rfl
   simp [classes,h0,obj,tjCells,w3,hget,hget2,hix,hw1.len]
   by_cases hlt:nx=l.length
   ·simp [hlt,h0]
    refine pop_step (l:=wp) (x:=(a,nx)) (o:=wo) obj (by simp [tjCells,hwv]) w3 hTo (by have:=hT.lT;have:=hT.le;omega) w2 (by omega) fun S2 b1 b2 b3 b4=>?_
    have hT2:=hT.wayTo hwv (S':=S2) (way':=wp) (by omega) (by simpa [tjCells] using b2) b3 b4
    obtain ⟨pre,suf,s1,s2,s3,s4⟩:=hz.split hw
    simp [stepc]
    refine tarjan_leave hT2 han (fun p hp=>hz.wrng p (by rw [hw];simp [hp])) pre suf s1 s3 hz.rng (by simp only;omega) (by simp only;omega) (by simp only;omega) fun S3 ov3 wv3 pv3 z3 c1 c2 c3 c4 c5 c6=>?_
    have hz3:=hz.leave hw s1 s4 c2 c3 c4 c5 c6
    simp [h0]
    refine ⟨z3,?_,ov3,wv3,pv3,c1,hz3,?_⟩
    ·rw [c4,c2,hw,wsum_snoc,hgd];simp only;omega
    ·rcases hr with h | ⟨r,rn,rest,h,hm⟩
     ·left
      rcases c6 with ⟨_,_,h'⟩ | ⟨_,_,part,_,_,_,h'⟩
      ·rw [h'];exact h
      ·rw [h'];simp
     ·cases wp with
      | nil =>
       rw [hw] at h
       simp at h
       obtain ⟨⟨rfl,rfl⟩,rfl⟩:=h
       left
       rcases c6 with ⟨h1,_,_⟩ | ⟨_,_,part,_,_,_,h'⟩
       ·have h2:=up_low hz hw a (by omega)
        rw [← c5] at h2
        simp only at h1
        omega
       ·rw [h'];simp
      | cons q wp' =>
       rw [hw] at h
       simp at h
       obtain ⟨rfl,rfl⟩:=h
       exact .inr ⟨r,rn,wp',by rw [c4],by rw [c2];exact hm⟩
   ·have hlt':¬ (nx:Int)=(l.length:Int):=by omega
    have hnl:nx < l.length:=by omega
    obtain ⟨x,hxk⟩:∃ x,l[nx]?=some x:=⟨_,List.getElem?_eq_getElem hnl⟩
    obtain ⟨hx0,hxn⟩:=hlx x (List.mem_of_getElem? hxk)
    obtain ⟨b,rfl⟩:∃ b:Nat,x=(b:Int):=⟨x.toNat,by omega⟩
    have hbn:b < C.length:=by omega
    have e4:=wrapS nx (by omega)
    have hz2:=hz.next hw (by rw [hgd];exact hnl)
    simp [hlt']
    refine Dra.auto [] mix ?_ ?_
    ·kernel_rfl
    have ids:=hT.ids
    have hwoB:B≤wo:=by
     rcases hT.rw with ⟨h,_⟩ | ⟨o,h,h1,_⟩
     ·rw [hwv] at h;cases h
     ·rw [hwv] at h
      have:=(AV.sl.inj h).2.1
      omega
    have lm:=hT.lm
    have ll:=hT.ll
    have li:=hT.li
    obtain ⟨mb,hmb⟩:∃ y,z.met[b]?=some y:=⟨_,List.getElem?_eq_getElem (by rw [hz.lm];exact hbn)⟩
    have rm1:=hT.rm
    simp [classes,h0,obj,tjCells,w3,hget,hget2,hix,hw1.idx hxk,intc,e4,hTo,rm1,show ¬ om=wo by omega,ix_sl hbn,hmb]
    have hset:(els stepc (wp ++ [(a,nx)])).set wp.length [AV.int .i64 (a:Int),.int .i64 ((nx:Int) + 1)]=els stepc (wp ++ [(a,nx + 1)]):=by
     rw [show [AV.int IntKind.i64 (a:Int),AV.int IntKind.i64 ((nx:Int) + 1)]=stepc (a,nx + 1) by simp [stepc],els_set,set_last]
    rw [hset]
    generalize hS2:S.set wo (.row 2 (els stepc (wp ++ [(a,nx + 1)])))=S2
    have b0:S2.next=S.next:=by rw [← hS2];rfl
    have hT2:=hT.wayTo hwv (S':=S2) (way':=wp ++ [(a,nx + 1)]) (by omega) (by rw [← hS2];simp [hTo,obj,hwv]) (by rw [← hS2];simp) (fun q _ _ h=>by rw [← hS2];simp [h])
    have obj2:=hT2.obj
    have rm2:=hT2.rm
    have ri2:=hT2.ri
    have rl2:=hT2.rl
    simp only at rm2 ri2 rl2
    obtain ⟨ib,hib⟩:∃ y,z.inn[b]?=some y:=⟨_,List.getElem?_eq_getElem (by rw [hT.leni];exact hbn)⟩
    obtain ⟨la,hla⟩:∃ y,z.low[a]?=some y:=⟨_,List.getElem?_eq_getElem (by rw [hz.ll];exact han)⟩
    have hgb:z.met.getD b 0=mb:=by simp [List.getD_eq_getElem?_getD,hmb]
    have hga:z.low.getD a 0=la:=by simp [List.getD_eq_getElem?_getD,hla]
    have hr2:∀(met low:List Int) (way:List (Nat × Nat)) (clock:Nat) (inn:List Bool) (opn:List Int),(∀r,z.met.getD r 0=1→met.getD r 0=1)→(∃ t,way=wp ++ [(a,nx + 1)] ++ t)→Rt ⟨met,low,inn,opn,way,clock,z.parts⟩:=by
     intro met low way clock inn opn hmm ⟨t,hway⟩
     rcases hr with h | ⟨r,rn,rest,h,hm⟩
     ·exact .inl h
     ·right
      cases wp with
      | nil =>
       rw [hw] at h
       simp at h
       obtain ⟨⟨rfl,rfl⟩,rfl⟩:=h
       exact ⟨a,nx + 1,t,by simp [hway],hmm _ hm⟩
      | cons q wp' =>
       rw [hw] at h
       simp at h
       obtain ⟨rfl,rfl⟩:=h
       exact ⟨r,rn,wp' ++ [(a,nx + 1)] ++ t,by simp [hway],hmm _ hm⟩
    by_cases hmb0:mb=0
    ·subst hmb0
     simp [h0]
     refine tarjan_enter hT2 hbn (by simp only;omega) (by simp only;omega) (by simp only [List.length_append,List.length_singleton];omega) fun S3 ov3 wv3 pv3 h3=>?_
     have hz3:=hz2.enter hbn hmb
     have hus:=usum_set (C:=C) (y:=(z.clock + 1:Nat)) hmb hbn (by omega)
     simp [h0]
     refine ⟨_,?_,ov3,wv3,pv3,h3,hz3,hr2 _ _ _ _ _ _ (fun r hr=>?_) ⟨[(b,0)],rfl⟩⟩
     ·simp only [Tj.enter]
      rw [hw,wsum_snoc,wsum_snoc,wsum_snoc,hgd]
      simp only
      omega
     ·rw [getD_set (by rw [hz.lm];exact hbn)]
      split
      ·rename_i e;rw [e,hgb] at hr;omega
      ·exact hr
    ·have hz3:=hz2.lows (a:=a) (b:=b) han (by simp only;rw [hgb];exact hmb0)
     simp only [hgb,hga] at hz3
     have hms:wsum C (wp ++ [(a,nx + 1)]) + usum C z.met < wsum C z.way + usum C z.met:=by
      rw [hw,wsum_snoc,wsum_snoc,hgd]
      simp only
      omega
     simp [hmb0,h0,obj2,tjCells,ri2,ix_sl hbn,hib,boolc]
     cases ib
     ·simp [h0]
      exact ⟨_,hms,ov,_,pv,hT2,hz2,hr2 _ _ _ _ _ _ (fun r hr=>hr) ⟨[],by simp⟩⟩
     ·simp
      refine Dra.auto [] mix ?_ ?_
      ·kernel_rfl
      simp [classes,h0,obj2,tjCells,rl2,rm2,ix_sl hbn,ix_sl han,hla,hmb,intc,foldI]
      refine ⟨⟨z.met,z.low.set a (if mb < la then mb else la),z.inn,z.opn,wp ++ [(a,nx + 1)],z.clock,z.parts⟩,hms,ov,.sl 2 wo 0 (wp ++ [(a,nx + 1)]).length,pv,⟨hT2.lT,lm,ll,li,by simpa using hT2.le,ids,?_,?_,?_,?_,hT2.lenm,by simpa using hT2.lenl,hT2.leni,?_,?_,?_,hT2.sep⟩,hz3,hr2 _ _ _ _ _ _ (fun r hr=>hr) ⟨[],by simp⟩⟩
      ·simp [ids.2.1,obj2]
      ·simp [ids.2.2.2.1,rm2]
      ·simp
       rw [← els_set];rfl
      ·simp [Ne.symm ids.2.2.2.2.2,ri2]
      ·exact hT2.ro.keep (by simp) fun q h1 _ _=>by simp [show ¬ q=ol by omega]
      ·exact hT2.rw.keep (by simp) fun q h1 _ _=>by simp [show ¬ q=ol by omega]
      ·exact hT2.rp.keep (by simp) fun q h1 _ _=>by simp [show ¬ q=ol by omega]
 ·simp
  exact ⟨ov1,wv1,pv1,h1,hz1,hr1⟩
end Go.Proofs.YtbhkamemheaajaaGreatDoor.Vm
namespace Go.Proofs.YtbhkamemheaajaaGreatDoor.Vm
open Go Go.RowKit
variable {N:Nat} {g:Glob}
theorem scc_PartsF {a b:List Int} {x y:Int} {S:St} {K:AV→St→Prop} (ha:a[0]?=some x) (hb:b[0]?=some y) (hk:K (.int .i64 (IntKind.i64.wrap (x - y))) S):Cal P g 273 [.fsl 1 (els intc a),.fsl 1 (els intc b)] S K:=by
 refine c273.in (by simp) ?_
 have h1:pk (PK.indexAddr 1) [AV.fsl 1 (els intc a),AV.int IntKind.i64 0]=some (.fptr (intc x) 0):=FSl.idx (k:=0) (FSl.mk (e:=intc) (sz:=1) (l:=a)) ha
 have h2:pk (PK.indexAddr 1) [AV.fsl 1 (els intc b),AV.int IntKind.i64 0]=some (.fptr (intc y) 0):=FSl.idx (k:=0) (FSl.mk (e:=intc) (sz:=1) (l:=b)) hb
 simp [k273]
 refine Dra.auto [] mix ?_ ?_
 ·kernel_rfl
 simp [classes,h1,h2,intc]
 exact hk
theorem insertR_nil (f:AV) (S:St) (K:AV→St→Prop) (hk:K (.tuple []) S):Cal P g 286 [.nilsl,.int .i64 0,.int .i64 0,f] S K:=by
 refine c286.in (by simp) ?_
 simp [k286]
 refine W.whileI (fun (k:Nat) F S'=>F 2=.int .i64 0∧F 8=.int .i64 1∧S'=S) (fun _=>0) ?_ 0 _ _ ?_
 ·rintro k F S' ⟨h2,h6,rfl⟩
  simp [h2,h6]
  exact hk
 ·simp
  rfl
theorem pdqR_nil (f:AV) (S:St) (lim:Int) (K:AV→St→Prop) (hk:K (.tuple []) S):Cal P g 281 [.nilsl,.int .i64 0,.int .i64 0,.int .i64 lim,f] S K:=by
 refine c281.in (by simp) ?_
 simp [k281]
 refine W.whileI (fun (k:Nat) F S'=>F 0=.nilsl∧F 1=.int .i64 0∧F 2=.int .i64 0∧F 4=f∧S'=S) (fun _=>0) ?_ 0 _ _ ?_
 ·rintro k F S' ⟨h0,h1,h2,h4,rfl⟩
  have ew:IntKind.i64.wrap 0=0:=rfl
  simp [h1,h2,h0,h4,ew]
  refine insertR_nil f S' _ ?_
  simp
  exact hk
 ·simp
theorem sortR_nil {f:AV} {S:St} {K:AV→St→Prop} (hk:K (.tuple []) S):Cal P g 272 [.nilsl,f] S K:=by
 refine c272.in (by simp) ?_
 simp [k272]
 have e0:IntKind.u64.wrap 0=((0:Nat):Int):=rfl
 rw [e0]
 refine (bits_Len 0 (by omega)).use (n:=9) ?_ rfl ?_ <;> simp
 refine pdqR_nil _ _ _ _ ?_
 simp
 exact hk
structure PartsOK (n:Nat) (Ps:List (List Int)):Prop where
 some:0 < n→Ps ≠ []
 len:Ps.length≤n
 each:∀l ∈ Ps,l ≠ []∧(∀x ∈ l,0≤x∧x < n)∧l.length≤n
def PtI (T om ol oi B:Nat) (gv:AV) (C:List (List Int)) (a:Nat) (S:St):Prop:=∃ ov wv pv z,TjS B C.length T om ol oi gv S ov wv pv z∧Wfj C z∧z.way=[]∧(z.parts ≠ [] ∨ z.clock=0)∧(0 < a→z.parts ≠ [])
theorem scc_Parts {v:AV} {G:List (List Int)} (hv:GrV v G) (hG:G.length≤12) (hl:∀l ∈ G,l.length < 1048576):RetE P g false 256 [v] (fun y=>∃ Ps:List (List Int),FSl partc 1 y Ps∧PartsOK G.length Ps):=by
 refine RetE.in c256 (by simp) ?_
 have hroom:G.length≤room:=by simp [room];omega
 have hCl:(cleanG G).length=G.length:=by simp [cleanG]
 have hCm:∀l ∈ cleanG G,l.length < 1048576∧∀x ∈ l,0≤x∧x < (cleanG G).length:=by
  intro l h
  rw [hCl]
  simp only [cleanG,List.mem_map] at h
  obtain ⟨m,hm,rfl⟩:=h
  exact ⟨Nat.lt_of_le_of_lt (cleanL_len _ _) (hl m hm),fun x hx=>(cleanL_mem.1 hx).2⟩
 have hcv:=encG_gr (cleanG G)
 simp [k256,hv.len]
 refine Dra.auto [] mix ?_ ?_
 ·kernel_rfl
 simp [classes]
 refine (graph_Clean hv (by omega) (fun l h=>by have:=hl l h;omega)).b (n:=9) ?_ rfl ?_ <;> simp [pict_stab hv.stab]
 have hcc:(encG (cleanG G)).cells=[encG (cleanG G)]:=rfl
 have hc1:(encG (cleanG G)).one=true:=rfl
 generalize cleanG G=C at *
 generalize encG C=cv at *
 have hC12:C.length≤12:=by omega
 have hroom':C.length≤room:=by omega
 have hvl:=hv.len
 rw [← hCl] at hvl ⊢
 have e0:∀n:Nat,List.replicate n [AV.int IntKind.i64 0]=els intc (List.replicate n 0):=fun n=>els_replicate (e:=intc)
 have e1:∀n:Nat,List.replicate n [AV.bool false]=els boolc (List.replicate n false):=fun n=>els_replicate (e:=boolc)
 simp [hroom',hcc,hc1,hvl,e0,e1]
 have hz0:Wfj C ⟨List.replicate C.length 0,List.replicate C.length 0,List.replicate C.length false,[],[],0,[]⟩:=by
  refine ⟨by simp,by simp,by simp,by simp,by simp,by simp [wfst],by simp,?_,by simp,by simp,by simp⟩
  intro a h
  exfalso
  apply h
  simp only [List.getD_eq_getElem?_getD,List.getElem?_replicate]
  split <;> rfl
 refine W.whileI (fun (a:Nat) F S=>a≤C.length∧F 4=.ptr 3 0 0∧F 19=.int .i64 C.length∧F 20=.int .i64 a∧PtI 3 0 1 2 4 cv C a S) (fun a=>C.length - a) ?_ 0 _ _ ?_
 ·rintro a F S ⟨ha,h4,h19,h20,ov,wv,pv,z,hT,hz,hw,hp,hpa⟩
  have obj:=hT.obj
  have rm:=hT.rm
  by_cases hlt:a < C.length
  ·have e4:=wrapS a (by omega)
   obtain ⟨m,hm⟩:∃ m,z.met[a]?=some m:=⟨_,List.getElem?_eq_getElem (by rw [hz.lm];exact hlt)⟩
   simp [h19,h20,hlt]
   simp [h4,obj,tjCells,rm,ix_sl hlt,hm,intc]
   by_cases hm0:m=0
   ·subst hm0
    simp [h4]
    refine tarjan_run hcv hT hz hw hlt hm (by omega) hCm hp fun S' ov' wv' pv' z' hT' hz' hw' hp'=>?_
    simp [h4,h19,h20,e4]
    exact ⟨a + 1,by omega,by omega,by omega,ov',wv',pv',z',hT',hz',hw',.inl hp',fun _=>hp'⟩
   ·have hpp:z.parts ≠ []:=by
     rcases hp with h | h
     ·exact h
     ·exfalso
      have h1:=hz.clk
      rw [h,← hz.lm,Nat.zero_add] at h1
      have:=List.count_eq_length.1 h1 m (List.mem_of_getElem? hm)
      exact hm0 this.symm
    simp [hm0,h4,h19,h20,e4]
    exact ⟨a + 1,by omega,by omega,by omega,ov,wv,pv,z,hT,hz,hw,hp,fun _=>hpp⟩
  ·have:a=C.length:=by omega
   subst this
   have hcnt:=hz.cnt
   have hP:∀Ps:List (List Int),Ps.Perm z.parts→PartsOK C.length Ps:=by
    intro Ps hpm
    refine ⟨fun h e=>?_,?_,fun l h=>hz.prt l (hpm.mem_iff.1 h)⟩
    ·subst e
     exact hpa h hpm.symm.eq_nil
    ·rw [hpm.length_eq];omega
   simp [h19,h20,h4,obj,tjCells]
   rcases hT.rp with ⟨rfl,hpe⟩ | ⟨po,rfl,p1,p2,p3⟩
   ·refine sortR_nil ?_
    simp [h4,obj,tjCells]
    exact ⟨.nilsl,⟨[],.inr ⟨rfl,rfl⟩,hP [] (by rw [hpe])⟩,1,rfl⟩
   ·refine sortF_row (c:=fun l=>AV.fsl 1 (els intc l)) (fun _=>rfl) p3 (by omega) (fun a b=>IntKind.i64.wrap ((a.getD 0 0) - (b.getD 0 0))) ?_ fun l' hl'=>?_
    ·intro a ha b hb l'
     have h1:=(hz.prt a ha).1
     have h2:=(hz.prt b hb).1
     cases a with
     | nil=>exact absurd rfl h1
     | cons x a =>
      cases b with
      | nil=>exact absurd rfl h2
      | cons y b=>exact scc_PartsF (a:=x :: a) (b:=y :: b) rfl rfl ⟨rfl,rfl⟩
    ·simp [h4,show ¬ 3=po by omega,obj,tjCells]
     refine ⟨.fsl 1 (els partc l'),⟨l',.inl rfl,hP l' hl'⟩,3,?_⟩
     rw [← hl'.length_eq]
     refine pict_row (es:=els partc l') (by simp;rfl) (by simp) (by simp) fun k e he=>?_
     rw [he]
     simp only [els,List.getElem?_map] at he
     cases hz:l'[k]? with
     | none=>rw [hz] at he;cases he
     | some x=>rw [hz] at he;cases he;simp [partc]
 ·simp
  refine ⟨.nilsl,.nilsl,.nilsl,_,⟨by omega,by omega,by omega,by omega,by simp,by simp,by simp [tjCells],by simp,by simp,by simp,by simp,by simp,by simp,.inl ⟨rfl,rfl⟩,.inl ⟨rfl,rfl⟩,.inl ⟨rfl,rfl⟩,fun _ _ _ h=>by cases h⟩,hz0,rfl,.inr rfl,fun h=>absurd h (by omega)⟩
end Go.Proofs.YtbhkamemheaajaaGreatDoor.Vm
namespace Go.Proofs.YtbhkamemheaajaaGreatDoor.Vm
open Go Go.RowKit
variable {N:Nat} {g:Glob}
theorem encR_gr (L:List (List Int)):GrV (.fsl 1 (els (fun l=>[encF intc 1 l]) L)) L:=by
 refine .inr ⟨L.map fun l=>encF intc 1 l,by simp [els],by simp,fun k w l hw hl=>?_⟩
 rw [List.getElem?_map,hl] at hw
 cases hw
 exact encF_sl
theorem ints_pict {S:St} {o:Nat} {l:List Int} {m:Nat} (h:S.obj o=some (.row 1 (els intc l))):pict S [] (m + 2) (.sl 1 o 0 l.length)=some (.fsl 1 (els intc l)):=by
 refine pict_row (es:=els intc l) h (by simp) (by simp) fun k e he=>?_
 rw [he]
 simp only [els,List.getElem?_map] at he
 cases hz:l[k]? with
 | none=>rw [hz] at he;cases he
 | some x=>rw [hz] at he;cases he;simp [intc]
theorem Dra.autoR {P:Program} {l:List VOper} {aft:List (List Nat)} {F:AFrame} {S:St} {Q:Res→Prop} (R:St) (hR:Sub R S) (xs ls:List Nat) (hm:P.follows .mixedOrders=true) (hc:(decide ((classes xs ls l 0 false).length=l.length) && drawChk (l.zip (classes xs ls l 0 false)) aft)=true) (h:vcDs P g S R l (classes xs ls l 0 false) F S Q):Dra P g l aft F S Q:=drawnR R hR _ hm hc h
structure Shrunk (n:Nat) (L:List (List Int)) (r:List Int):Prop where
 len:L.length≤n
 short:∀l ∈ L,l.length < 1048576
 rlen:r.length=n
 rng:∀x ∈ r,0≤x∧x < L.length
theorem scc_Shrink {v:AV} {G:List (List Int)} (hv:GrV v G) (hG:G.length≤12) (hl:∀l ∈ G,l.length < 1000):RetE P g false 231 [v] (fun y=>∃ (L:List (List Int)) (r:List Int),y=.tuple [encG (cleanG L),.fsl 1 (els intc r)]∧Shrunk G.length L r):=by
 refine RetE.in c231 (by simp) ?_
 have hroom:G.length≤room:=by simp [room];omega
 have hCl:(cleanG G).length=G.length:=by simp [cleanG]
 have hCm:∀l ∈ cleanG G,l.length < 1000∧∀x ∈ l,0≤x∧x < G.length:=by
  intro l h
  simp only [cleanG,List.mem_map] at h
  obtain ⟨m,hm,rfl⟩:=h
  exact ⟨Nat.lt_of_le_of_lt (cleanL_len _ _) (hl m hm),fun x hx=>(cleanL_mem.1 hx).2⟩
 have hcv:=encG_gr (cleanG G)
 simp [k231]
 refine (scc_Parts hv hG (fun l h=>by have:=hl l h;omega)).use (n:=9) ?_ ?_ ?_ <;> simp [pict_stab hv.stab,solids,hv.solid]
 rintro pv Ps hPv hPs
 have e0:∀n:Nat,List.replicate n [AV.int IntKind.i64 0]=els intc (List.replicate n 0):=fun n=>els_replicate (e:=intc)
 simp [hv.len,hroom,hPv.len,e0]
 have hp0:=hPs.len
 refine W.whileI (fun (k:Nat) F S=>k≤Ps.length∧F 0=v∧F 4=pv∧F 5=.sl 1 0 0 G.length∧F 20=pv∧F 21=.int .i64 Ps.length∧F 22=.int .i64 k∧S.next=1∧∃ r:List Int,r.length=G.length∧S.obj 0=some (.row 1 (els intc r))∧∀x ∈ r,0≤x∧x < Ps.length) (fun k=>Ps.length - k) ?_ 0 _ _ ?_
 ·rintro k F S ⟨hk,h0,h4,h5,h20,h21,h22,hn,r,hr,hro,hrx⟩
  by_cases hlt:k < Ps.length
  ·obtain ⟨l,hx⟩:∃ l,Ps[k]?=some l:=⟨_,List.getElem?_eq_getElem hlt⟩
   obtain ⟨_,hlx,hll⟩:=hPs.each l (List.mem_of_getElem? hx)
   have hlf:FSl intc 1 (.fsl 1 (els intc l)) l:=FSl.mk
   have e4:=wrapS k (by omega)
   simp [h21,h22,hlt]
   simp [h20,h22,hPv.idx hx,partc]
   refine W.whileI (fun (j:Nat) F S=>j≤l.length∧F 0=v∧F 4=pv∧F 5=.sl 1 0 0 G.length∧F 6=.int .i64 k∧F 20=pv∧F 21=.int .i64 Ps.length∧F 22=.int .i64 k∧F 27=.fsl 1 (els intc l)∧F 28=.int .i64 l.length∧F 29=.int .i64 j∧S.next=1∧∃ r:List Int,r.length=G.length∧S.obj 0=some (.row 1 (els intc r))∧∀x ∈ r,0≤x∧x < Ps.length) (fun j=>l.length - j) ?_ 0 _ _ ?_
   ·rintro j F S ⟨hj,h0,h4,h5,h6,h20,h21,h22,h27,h28,h29,hn,r,hr,hro,hrx⟩
    by_cases hlj:j < l.length
    ·obtain ⟨x,hxj⟩:∃ x,l[j]?=some x:=⟨_,List.getElem?_eq_getElem hlj⟩
     have e5:=wrapS j (by omega)
     obtain ⟨hx0,hxn⟩:=hlx x (List.mem_of_getElem? hxj)
     obtain ⟨b,rfl⟩:∃ b:Nat,x=(b:Int):=⟨x.toNat,by omega⟩
     have hbn:b < G.length:=by omega
     obtain ⟨y,hy⟩:∃ y,r[b]?=some y:=⟨_,List.getElem?_eq_getElem (by omega)⟩
     simp [h28,h29,hlj]
     simp [h27,h29,hlf.idx hxj,intc,h5,h6,ix_sl hbn,hro,hy,h0,h4,h20,h21,h22,e5]
     refine ⟨j + 1,by omega,by omega,by omega,hn,r.set b (k:Int),by simp [hr],?_,?_⟩
     ·rw [← els_set];rfl
     ·intro z hz
      rcases List.mem_or_eq_of_mem_set hz with h | rfl
      ·exact hrx z h
      ·omega
    ·have:j=l.length:=by omega
     subst this
     simp [h28,h29,h0,h4,h5,h20,h21,h22,e4]
     exact ⟨k + 1,by omega,by omega,by omega,hn,r,hr,hro,hrx⟩
   ·simp [h0,h4,h5,h20,h21,h22]
    exact ⟨hn,r,hr,hro,hrx⟩
  ·have hpr:Ps.length≤room:=by omega
   simp [h21,h22,hlt,h4,hPv.len,hpr,h0]
   refine (graph_Clean hv (by omega) (fun l h=>by have:=hl l h;omega)).use (n:=9) ?_ rfl ?_ <;> simp [pict_stab hv.stab]
   have hR0:RowsV 2 (S.new (.row 1 (List.replicate Ps.length [.nilsl]))) 1 (List.replicate Ps.length [.nilsl]) (List.replicate Ps.length []):=by
    have:=RowsV.start (S:=S) (by simp) Ps.length
    rw [hn] at this
    exact this
   generalize cleanG G=C at *
   generalize encG C=cv at *
   simp [hcv.len,hn,hCl]
   refine W.whileI (fun (a:Nat) F S=>a≤G.length∧F 5=.sl 1 0 0 G.length∧F 10=.sl 1 1 0 Ps.length∧F 43=cv∧F 44=.int .i64 G.length∧F 45=.int .i64 a∧S.obj 0=some (.row 1 (els intc r))∧∃ es L,RowsV 2 S 1 es L∧L.length=Ps.length∧∀m ∈ L,m.length≤a * 1000) (fun a=>G.length - a) ?_ 0 _ _ ?_
   ·rintro a F S ⟨ha,h5,h10,h43,h44,h45,hro,es,L,hR,hLl,hLb⟩
    by_cases hlt:a < G.length
    ·obtain ⟨l,hx⟩:∃ l,C[a]?=some l:=⟨_,List.getElem?_eq_getElem (by omega)⟩
     obtain ⟨w,hw,hix⟩:=hcv.idx hx
     obtain ⟨hll,hlx⟩:=hCm l (List.mem_of_getElem? hx)
     have e4:=wrapS a (by omega)
     obtain ⟨ra,hra⟩:∃ y,r[a]?=some y:=⟨_,List.getElem?_eq_getElem (by omega)⟩
     obtain ⟨hra0,hran⟩:=hrx ra (List.mem_of_getElem? hra)
     obtain ⟨ka,rfl⟩:∃ b:Nat,ra=(b:Int):=⟨ra.toNat,by omega⟩
     have hka:ka < Ps.length:=by omega
     simp [h44,h45,hlt]
     simp [h43,h45,hix,hw.len]
     refine W.whileI (fun (k:Nat) F S=>k≤l.length∧F 5=.sl 1 0 0 G.length∧F 10=.sl 1 1 0 Ps.length∧F 11=.int .i64 a∧F 43=cv∧F 44=.int .i64 G.length∧F 45=.int .i64 a∧F 50=w∧F 51=.int .i64 l.length∧F 52=.int .i64 k∧S.obj 0=some (.row 1 (els intc r))∧∃ es L,RowsV 2 S 1 es L∧L.length=Ps.length∧∀m ∈ L,m.length≤a * 1000 + k) (fun k=>l.length - k) ?_ 0 _ _ ?_
     ·rintro k F S ⟨hk,h5,h10,h11,h43,h44,h45,h50,h51,h52,hro,es,L,hR,hLl,hLb⟩
      by_cases hlk:k < l.length
      ·obtain ⟨x,hxk⟩:∃ x,l[k]?=some x:=⟨_,List.getElem?_eq_getElem hlk⟩
       have e5:=wrapS k (by omega)
       obtain ⟨hx0,hxn⟩:=hlx x (List.mem_of_getElem? hxk)
       obtain ⟨b,rfl⟩:∃ b:Nat,x=(b:Int):=⟨x.toNat,by omega⟩
       have hbn:b < G.length:=by omega
       obtain ⟨rb,hrb⟩:∃ y,r[b]?=some y:=⟨_,List.getElem?_eq_getElem (by omega)⟩
       simp [h51,h52,hlk]
       simp [h50,h52,hw.idx hxk,intc]
       refine Dra.auto [] mix ?_ ?_
       ·kernel_rfl
       simp [classes,h5,h11,ix_sl hlt,ix_sl hbn,hro,hra,hrb,intc]
       by_cases heq:(ka:Int)=rb
       ·simp [heq,h5,h10,h11,h43,h44,h45,h50,h51,h52,e5]
        refine ⟨k + 1,by omega,by omega,by omega,hro,es,L,hR,hLl,fun m hm=>?_⟩
        have:=hLb m hm;omega
       ·simp [heq]
        obtain ⟨u,m,hu,hm,hu1⟩:=hR.idx (k:=ka) (by omega)
        have hmb:=hLb m (List.mem_of_getElem? hm)
        obtain ⟨S',q1,q2,q3,q4⟩:=(hR.new (.row 1 [[.int .i64 rb]])).app (a:=rb) hu hm (by simp [room];omega)
        have hob:=q3 0 (by omega)
        have hob1:=q3 1 (by omega)
        have hS1:=hR.obj
        have hn1:=hR.le
        simp [show ¬ 0=S.next by omega,hro] at hob
        simp [show ¬ 1=S.next by omega,hS1] at hob1
        have hkae:ka < es.length:=by rw [hR.len];omega
        refine Dra.autoR ⟨1,fun o=>if o=0 then S.obj 0 else none⟩ (fun q x h=>?_) [] [4] mix ?_ ?_
        ·simp only at h
         split at h
         ·rename_i e;rw [e];exact h
         ·cases h
        ·kernel_rfl
        simp [classes,h5,h10,h11,ix_sl hlt,ix_sl hbn,ix_sl hka,hro,hra,hrb,hS1,hu,intc,KDx]
        have hsub:∀S'':St,S''.obj 0=some (.row 1 (els intc r))→Sub ⟨1,fun o=>if o=0 then some (.row 1 (els intc r)) else none⟩ S'':=by
         intro S'' h q x hq
         simp only at hq
         split at hq
         ·rename_i e;rw [e,h];exact hq
         ·cases hq
        simp [q1,hob1,hu,h52,h43,h44,h45,h50,h51,e5]
        refine ⟨hsub _ hob,hsub _ (by simp [hob]),k + 1,by omega,by omega,by omega,hob,_,_,q4,by simp [hLl],fun m' hm'=>?_⟩
        rcases List.mem_or_eq_of_mem_set hm' with h | rfl
        ·have:=hLb m' h;omega
        ·simp;omega
      ·have:k=l.length:=by omega
       subst this
       simp [h51,h52,h5,h10,h43,h44,h45,e4]
       refine ⟨a + 1,by omega,by omega,by omega,hro,es,L,hR,hLl,fun m hm=>?_⟩
       have:=hLb m hm;omega
     ·simp [h5,h10,h43,h44,h45]
      exact ⟨hro,es,L,hR,hLl,hLb⟩
    ·simp [h44,h45,hlt,h10]
     have hp1:=hR.pict (m:=6)
     rw [hLl] at hp1
     have hLs:∀l ∈ L,l.length < 1048576:=fun l h=>by have:=hLb l h;omega
     refine (graph_Clean (encR_gr L) (by omega) (fun l h=>by have:=hLs l h;omega)).use (n:=9) (by simp only [mapOpt,hp1]) rfl ?_
     simp [h5]
     refine ⟨_,⟨L,r,rfl,by omega,hLs,hr,fun x hx=>by have:=hrx x hx;omega⟩,3,?_⟩
     have hp2:=ints_pict (m:=0) hro
     rw [hr] at hp2
     have hp3:pict S [] 2 (encG (cleanG L))=some (encG (cleanG L)):=pict_stab rfl
     rw [pict_tuple]
     simp only [mapOpt,hp2,hp3];rfl
   ·simp
    exact ⟨h5,by simp [hn,hro],_,List.replicate Ps.length [],hR0,by simp,fun m hm=>(List.mem_replicate.1 hm).2⟩
 ·simp
  refine ⟨_,by simp,rfl,fun x hx=>?_⟩
  have hx':=List.mem_replicate.1 hx
  rw [hx'.2]
  have:=hPs.some (by omega)
  have:=List.length_pos_iff.2 this
  omega
end Go.Proofs.YtbhkamemheaajaaGreatDoor.Vm
namespace Go.Proofs.YtbhkamemheaajaaGreatDoor.Vm
open Go Go.RowKit
variable {N:Nat} {g:Glob}
theorem rank_Ranks {v:AV} {G:List (List Int)} (hv:GrV v G) (hG:G.length≤12) (hl:∀l ∈ G,l.length < 1000):RetE P g false 180 [v] (fun y=>∃ o:List Int,y=.fsl 1 (els intc o)∧o.length=G.length):=by
 refine RetE.in c180 (by simp) ?_
 have hroom:G.length≤room:=by simp [room];omega
 simp [k180]
 refine (scc_Shrink hv hG hl).use (n:=9) (by simp [pict_stab hv.stab]) (by simp [solids,hv.solid]) ?_
 rintro _ ⟨L,r,rfl,hS⟩
 simp
 have hLl:(cleanG L).length=L.length:=by simp [cleanG]
 have h1:=hS.len
 refine (rank_of (encG_gr (cleanG L)) (by omega) ?_).use (n:=9) ?_ ?_ ?_
 ·intro l h
  rw [hLl]
  simp only [cleanG,List.mem_map] at h
  obtain ⟨m,hm,rfl⟩:=h
  exact ⟨Nat.lt_of_le_of_lt (cleanL_len _ _) (hS.short m hm),fun x hx=>(cleanL_mem.1 hx).2⟩
 ·simp [encG]
 ·simp [solids,encG]
 rintro y ⟨q,rfl,hq⟩
 have hrl:=hS.rlen
 have hrf:FSl intc 1 (.fsl 1 (els intc r)) r:=FSl.mk
 have hqf:FSl intc 1 (.fsl 1 (els intc q)) q:=FSl.mk
 have e0:∀n:Nat,List.replicate n [AV.int IntKind.i64 0]=els intc (List.replicate n 0):=fun n=>els_replicate (e:=intc)
 simp [hv.len,hroom,e0]
 refine W.whileI (fun (a:Nat) F S=>a≤r.length∧F 5=.fsl 1 (els intc q)∧F 6=.sl 1 0 0 G.length∧F 19=.fsl 1 (els intc r)∧F 20=.int .i64 r.length∧F 21=.int .i64 a∧∃ o:List Int,o.length=G.length∧S.obj 0=some (.row 1 (els intc o))) (fun a=>r.length - a) ?_ 0 _ _ ?_
 ·rintro a F S ⟨ha,h5,h6,h19,h20,h21,o,ho,hob⟩
  by_cases hlt:a < r.length
  ·obtain ⟨x,hx⟩:∃ x,r[a]?=some x:=⟨_,List.getElem?_eq_getElem hlt⟩
   obtain ⟨hx0,hxn⟩:=hS.rng x (List.mem_of_getElem? hx)
   obtain ⟨b,rfl⟩:∃ b:Nat,x=(b:Int):=⟨x.toNat,by omega⟩
   obtain ⟨y,hy⟩:∃ y,q[b]?=some y:=⟨_,List.getElem?_eq_getElem (by omega)⟩
   obtain ⟨u,hu⟩:∃ u,o[a]?=some u:=⟨_,List.getElem?_eq_getElem (by omega)⟩
   have e4:=wrapS a (by omega)
   have hag:a < G.length:=by omega
   simp [h20,h21,hlt]
   simp [h19,h21,hrf.idx hx,intc,h5,hqf.idx hy,h6,ix_sl hag,hob,hu,h20,e4]
   refine ⟨a + 1,by omega,by omega,by omega,o.set a y,by simp [ho],?_⟩
   rw [← els_set];rfl
  ·simp [h20,h21,hlt,h6]
   refine ⟨_,⟨o,rfl,ho⟩,2,?_⟩
   rw [← ho]
   exact ints_pict hob
 ·simp
  exact ⟨_,by simp,rfl⟩
theorem natc_eq (l:List Nat):els natc l=els intc (l.map fun k:Nat=>(k:Int)):=by simp [els,natc,intc]
theorem set_take_succ {α:Type} {l:List α} {i:Nat} {y:α} (h:i < l.length):(l.set i y).take (i + 1)=l.take i ++ [y]:=by
 rw [take_succ_get (x:=y) (by rw [List.getElem?_set_self h]),List.take_set_of_le (by omega)]
theorem rank_Schedule {v:AV} {G:List (List Int)} (hv:GrV v G) (hG:G.length≤12) (hl:∀l ∈ G,l.length < 1000) (a0:Nat):RetE P g false 123 [v,.int .i64 (a0:Int)] (fun y=>∃ o:List Nat,y=.fsl 1 (els natc o)∧o.Perm (List.range G.length)):=by
 refine RetE.in c123 (by simp) ?_
 have hroom:G.length≤room:=by simp [room];omega
 simp [k123]
 refine (rank_Ranks hv hG hl).use (n:=9) (by simp [pict_stab hv.stab]) (by simp [solids,hv.solid]) ?_
 rintro _ ⟨rk,rfl,hrk⟩
 simp
 refine (graph_Order hv (by omega) (fun l h=>by have:=hl l h;omega) a0).use (n:=9) (by simp [pict_stab hv.stab]) (by simp [solids,hv.solid,AV.solid]) ?_
 rintro ov ⟨ol,hov,hol⟩
 simp [hv.len]
 refine (rank_places hov (by omega) G.length (by omega)).use (n:=9) (by simp [pict_stab hov.stab]) (by simp [solids,hov.solid,AV.solid]) ?_
 rintro _ ⟨at',rfl,hat⟩
 have hrf:FSl intc 1 (.fsl 1 (els intc rk)) rk:=FSl.mk
 have haf:FSl intc 1 (.fsl 1 (els intc at')) at':=FSl.mk
 simp [hv.len,hroom]
 refine W.whileI (fun (a:Nat) F S=>a≤at'.length∧F 0=v∧F 5=.fsl 1 (els intc rk)∧F 7=.ptr 1 0 0∧F 8=.sl 1 2 0 G.length∧F 25=.fsl 1 (els intc at')∧F 26=.int .i64 at'.length∧F 27=.int .i64 a∧S.obj 1=some (.row 1 [[.sl 2 0 0 G.length]]) ∧
  (∃ ks:List (Int × Int),ks.length=G.length∧S.obj 0=some (.row 2 (els keyc ks)))∧∃ o:List Nat,o.length=G.length∧o.take a=List.range a∧S.obj 2=some (.row 1 (els natc o))) (fun a=>at'.length - a) ?_ 0 _ _ ?_
 ·rintro a F S ⟨ha,h0,h5,h7,h8,h25,h26,h27,hb,⟨ks,hkl,hks⟩,o,hol,hot,hob⟩
  by_cases hlt:a < at'.length
  ·obtain ⟨x,hx⟩:∃ x,at'[a]?=some x:=⟨_,List.getElem?_eq_getElem hlt⟩
   have e4:=wrapS a (by omega)
   have hag:a < G.length:=by omega
   obtain ⟨rx,hrx⟩:∃ y,rk[a]?=some y:=⟨_,List.getElem?_eq_getElem (by omega)⟩
   obtain ⟨u,hu⟩:∃ u,o[a]?=some u:=⟨_,List.getElem?_eq_getElem (by omega)⟩
   obtain ⟨kx,hkx⟩:∃ u,ks[a]?=some u:=⟨_,List.getElem?_eq_getElem (by omega)⟩
   simp [h26,h27,hlt]
   simp [h25,h27,haf.idx hx,intc]
   have hsub0:Sub ⟨2,fun o=>if o=1 then S.obj 1 else none⟩ S:=by
    intro q x hq
    simp only at hq
    split at hq
    ·rename_i e;rw [e];exact hq
    ·cases hq
   have hsub:∀S'':St,S''.obj 1=some (.row 1 [[.sl 2 0 0 G.length]])→Sub ⟨2,fun o=>if o=1 then some (.row 1 [[.sl 2 0 0 G.length]]) else none⟩ S'':=by
    intro S'' h q x hq
    simp only at hq
    split at hq
    ·rename_i e;rw [e,h];exact hq
    ·cases hq
   have fin:∀z:Int,∃ a':Nat,at'.length - a' < at'.length - a∧a'≤at'.length∧(a:Int) + 1=(a':Int)∧(∃ ks':List (Int × Int),ks'.length=G.length∧(els keyc ks).set a [AV.int .i64 rx,.int .i64 z]=els keyc ks')∧∃ o':List Nat,o'.length=G.length∧o'.take a'=List.range a'∧(els natc o).set a [AV.int .i64 (a:Int)]=els natc o':=by
    intro z
    refine ⟨a + 1,by omega,by omega,by omega,⟨ks.set a (rx,z),by simp [hkl],by rw [← els_set];rfl⟩,o.set a a,by simp [hol],?_,by rw [← els_set];rfl⟩
    rw [set_take_succ (by omega),hot,List.range_succ]
   by_cases hx1:x=-1
   ·simp [hx1,h0,hv.len]
    refine Dra.autoR ⟨2,fun o=>if o=1 then S.obj 1 else none⟩ hsub0 [] [2] mix ?_ ?_
    ·kernel_rfl
    simp [classes,h5,h7,h8,hb,hks,hob,ix_sl hag,hrf.idx hrx,hkx,hu,intc,natc,keyc,h0,h25,h26,h27,e4,KDx]
    exact ⟨hsub _ (by simp [hb]),hsub _ (by simp [hb]),fin _⟩
   ·simp [hx1]
    refine Dra.autoR ⟨2,fun o=>if o=1 then S.obj 1 else none⟩ hsub0 [] [2] mix ?_ ?_
    ·kernel_rfl
    simp [classes,h5,h7,h8,hb,hks,hob,ix_sl hag,hrf.idx hrx,hkx,hu,intc,natc,keyc,h0,h25,h26,h27,e4,KDx]
    exact ⟨hsub _ (by simp [hb]),hsub _ (by simp [hb]),fin _⟩
  ·have:a=G.length:=by omega
   subst this
   simp [h26,h27,hlt,h8,h7]
   have hoR:o=List.range G.length:=by rw [← hot,List.take_of_length_le (by omega)]
   subst hoR
   have hq:∀a ∈ List.range G.length,∀b ∈ List.range G.length,∀l':List Nat,Cal P g 184 ([AV.int .i64 (a:Int),AV.int .i64 (b:Int)] ++ [AV.ptr 1 0 0]) (S.set 2 (.row 1 (els (cel fun k:Nat=>AV.int .i64 (k:Int)) l')))
     (fun v S'=>v=.int .i64 (cmpKey (ks.getD a (0,0)) (ks.getD b (0,0)))∧S'=S.set 2 (.row 1 (els (cel fun k:Nat=>AV.int .i64 (k:Int)) l'))):=by
    intro a ha b hb' l'
    have ha:=List.mem_range.1 ha
    have hb':=List.mem_range.1 hb'
    obtain ⟨ka,hka⟩:∃ u,ks[a]?=some u:=⟨_,List.getElem?_eq_getElem (by omega)⟩
    obtain ⟨kb,hkb⟩:∃ u,ks[b]?=some u:=⟨_,List.getElem?_eq_getElem (by omega)⟩
    refine rank_ScheduleF (kb:=1) (ko:=0) (ks:=ks) (by simp [hb,hkl]) (by simp [hks]) hka hkb ⟨?_,rfl⟩
    simp [List.getD_eq_getElem?_getD,hka,hkb]
   have hlen:(List.range G.length).length=G.length:=by simp
   rw [← hlen]
   refine sortF_int (α:=Nat) (c:=fun k:Nat=>AV.int .i64 (k:Int)) (fun _=>rfl) hob (by rw [hlen];omega) (fun a b=>cmpKey (ks.getD a (0,0)) (ks.getD b (0,0))) hq fun l' hl'=>?_
   simp [h8]
   refine ⟨_,⟨l',rfl,by simpa using hl'⟩,2,?_⟩
   have hll:l'.length=G.length:=by rw [hl'.length_eq];simp
   rw [← hll,natc_eq]
   have:=ints_pict (m:=0) (o:=2) (l:=l'.map fun k:Nat=>(k:Int)) (S:=S.set 2 (.row 1 (els (cel fun k:Nat=>AV.int .i64 (k:Int)) l'))) (by simp;rw [← natc_eq];rfl)
   simpa using this
 ·simp
  exact ⟨⟨List.replicate G.length (0,0),by simp,by simp [els,keyc]⟩,List.replicate G.length 0,by simp,by simp [els,natc]⟩
end Go.Proofs.YtbhkamemheaajaaGreatDoor.Vm
