/- A part of the proof: Ub Uc Ud Ue Ui. -/
import Derived.Test.YtchkknkjhiaooaaGreatDoorQ28
set_option linter.unusedVariables false
set_option linter.unusedSimpArgs false
set_option linter.constructorNameAsVariable false
namespace Go.Proofs.YtchkknkjhiaooaaGreatDoor.Vm
open Go Go.RowKit
variable {N:Nat} {g:Glob}
theorem sub_len:∀(a b:List Int),a.Nodup→(∀x ∈ a,x ∈ b)→a.length≤b.length
 | [],b,_,_=>Nat.zero_le _
 | x :: a,b,hn,hs=>by
  rw [List.nodup_cons] at hn
  have hx:=hs x (by simp)
  have h1:=sub_len a (b.erase x) hn.2 fun y hy=>by
   have hne:y ≠ x:=fun e=>hn.1 (e ▸ hy)
   exact (List.mem_erase_of_ne hne).2 (hs y (by simp [hy]))
  have h2:=List.length_erase_of_mem hx
  have h3:0 < b.length:=List.length_pos_of_mem hx
  simp only [List.length_cons]
  omega
theorem addOnce_nodup {l:List Int} {x:Int} (h:l.Nodup):(addOnce l x).Nodup:=by
 unfold addOnce
 split
 ·exact h
 ·rename_i hx
  rw [List.nodup_append]
  refine ⟨h,by simp,fun a ha b hb=>?_⟩
  simp at hb
  subst hb
  exact fun e=>hx (e ▸ ha)
theorem once_nodup:∀(l out:List Int),out.Nodup→(l.foldl addOnce out).Nodup
 | [],out,h=>h
 | x :: l,out,h=>once_nodup l (addOnce out x) (addOnce_nodup h)
theorem uses_nodup (i:Ins):i.uses.Nodup:=by
 unfold Ins.uses
 split
 ·exact once_nodup _ [] List.nodup_nil
 ·exact List.nodup_nil
def Ins.varL (i:Ins):List Int:=if 0≤i.def then addOnce i.uses i.def else i.uses
theorem addOnce_mem {l:List Int} {x y:Int}:y ∈ addOnce l x ↔ y ∈ l ∨ y=x:=by
 unfold addOnce
 split
 ·rename_i h
  constructor
  ·exact .inl
  ·rintro (h' | rfl)
   ·exact h'
   ·exact h
 ·simp
theorem varL_mem (i:Ins) (x:Int):x ∈ i.varL ↔ x ∈ i.uses ∨ (0≤i.def∧x=i.def):=by
 unfold Ins.varL
 split
 ·rename_i h;rw [addOnce_mem];simp [h]
 ·rename_i h;simp [h]
theorem varL_facts (i:Ins):i.varL.Nodup∧(∀x ∈ i.varL,0≤x)∧i.varL.length≤6:=by
 have hu:=uses_len i
 refine ⟨?_,fun x hx=>?_,?_⟩
 ·unfold Ins.varL
  split
  ·exact addOnce_nodup (uses_nodup i)
  ·exact uses_nodup i
 ·rcases (varL_mem i x).1 hx with h | ⟨h,rfl⟩
  ·exact use_nn h
  ·exact h
 ·unfold Ins.varL
  split
  ·unfold addOnce
   split
   ·omega
   ·simp;omega
  ·omega
def Abv (out:List Int) (x:Int):Prop:=∀y ∈ out,y < x
structure SelI (l out:List Int):Prop where
 sub:∀x ∈ out,x ∈ l
 up:out.Pairwise (· < ·)
 rest:∀x ∈ l,x ∉ out→Abv out x
theorem SelI.nodup {l out:List Int} (h:SelI l out):out.Nodup:=h.up.imp fun h e=>by omega
theorem SelI.start (l:List Int):SelI l []:=⟨fun x h=>by (cases h),List.Pairwise.nil,fun x _ _ y hy=>by (cases hy)⟩
def BestI (l out:List Int) (k:Nat) (b:Int):Prop:=(b=-1∧∀(j:Nat) x,j < k→l[j]?=some x→¬ Abv out x) ∨ (0≤b∧b ∈ l∧Abv out b∧∀(j:Nat) x,j < k→l[j]?=some x→Abv out x→b≤x)
theorem BestI.no {l out:List Int} {k:Nat} {b x:Int} (h:BestI l out k b) (hx:l[k]?=some x) (hn:¬ Abv out x ∨ (0≤b∧b≤x)):BestI l out (k + 1) b:=by
 rcases h with ⟨h1,h2⟩ | ⟨h1,h2,h3,h4⟩
 ·refine .inl ⟨h1,fun j y hj hy=>?_⟩
  by_cases e:j=k
  ·subst e
   rw [hx] at hy;cases hy
   rcases hn with hn | hn
   ·exact hn
   ·omega
  ·exact h2 j y (by omega) hy
 ·refine .inr ⟨h1,h2,h3,fun j y hj hy ha=>?_⟩
  by_cases e:j=k
  ·subst e
   rw [hx] at hy;cases hy
   rcases hn with hn | hn
   ·exact absurd ha hn
   ·exact hn.2
  ·exact h4 j y (by omega) hy ha
theorem BestI.yes {l out:List Int} {k:Nat} {b x:Int} (h:BestI l out k b) (hx:l[k]?=some x) (h0:0≤x) (ha:Abv out x) (hb:b < 0 ∨ x < b):BestI l out (k + 1) x:=by
 refine .inr ⟨h0,List.mem_of_getElem? hx,ha,fun j y hj hy hay=>?_⟩
 by_cases e:j=k
 ·subst e
  rw [hx] at hy;cases hy
  omega
 ·rcases h with ⟨h1,h2⟩ | ⟨h1,h2,h3,h4⟩
  ·exact absurd hay (h2 j y (by omega) hy)
  ·have:=h4 j y (by omega) hy hay
   omega
theorem SelI.step {l out:List Int} {b:Int} (h:SelI l out) (hn:l.Nodup) (hlt:out.length < l.length) (hb:BestI l out l.length b):SelI l (out ++ [b]):=by
 have hex:∃ y,y ∈ l∧y ∉ out:=by
  apply Classical.byContradiction
  intro hno
  have:=sub_len l out hn fun x hx=>Classical.byContradiction fun hx'=>hno ⟨x,hx,hx'⟩
  omega
 obtain ⟨y,hy,hyo⟩:=hex
 obtain ⟨j,hj⟩:=List.mem_iff_getElem?.1 hy
 have hjl:=(List.getElem?_eq_some_iff.1 hj).1
 rcases hb with ⟨_,h2⟩ | ⟨h1,h2,h3,h4⟩
 ·exact absurd (h.rest y hy hyo) (h2 j y hjl hj)
 ·refine ⟨fun x hx=>?_,?_,fun x hx hxo z hz=>?_⟩
  ·rcases List.mem_append.1 hx with hx | hx
   ·exact h.sub x hx
   ·simp at hx;rw [hx];exact h2
  ·rw [List.pairwise_append]
   exact ⟨h.up,by simp,fun a ha c hc=>by simp at hc;rw [hc];exact h3 a ha⟩
  ·simp at hxo
   obtain ⟨j',hj'⟩:=List.mem_iff_getElem?.1 hx
   have hj'l:=(List.getElem?_eq_some_iff.1 hj').1
   have hax:=h.rest x hx hxo.1
   have:=h4 j' x hj'l hj' hax
   rcases List.mem_append.1 hz with hz | hz
   ·exact hax z hz
   ·simp at hz;omega
theorem SelI.all {l out:List Int} (h:SelI l out) (hl:l.length≤out.length) (x:Int):x ∈ out ↔ x ∈ l:=by
 refine ⟨h.sub x,fun hx=>Classical.byContradiction fun hxo=>?_⟩
 have:=sub_len (x :: out) l (List.nodup_cons.2 ⟨hxo,h.nodup⟩) fun y hy=>by
  rcases List.mem_cons.1 hy with rfl | hy
  ·exact hx
  ·exact h.sub y hy
 simp at this
 omega
theorem abv_last {pre:List Int} {z x:Int} (h:(pre ++ [z]).Pairwise (· < ·)):Abv (pre ++ [z]) x ↔ z < x:=by
 rw [List.pairwise_append] at h
 constructor
 ·intro h';exact h' z (by simp)
 ·intro h' y hy
  rcases List.mem_append.1 hy with hy | hy
  ·have:=h.2.2 y hy z (by simp);omega
  ·simp at hy;omega
theorem ref05_Vars (i:Ins):RetE P g false 310 [encI i] (fun y=>∃ L:List Int,FSl intc 1 y L∧(∀x,x ∈ L ↔ x ∈ i.varL)∧L.length≤6):=by
 refine RetE.in c310 (by simp) ?_
 simp [k310]
 refine (ref05_Uses i).use (n:=9) (by rfl) fun v S' hv hS=>?_
 obtain ⟨hvn,hvl,hnd6⟩:=varL_facts i
 have huse:=uses_len i
 have sf:S'.obj 0=some (.row 11 [insc i])∧0 < S'.next∧Bel S' v:=by
  rcases hS with ⟨_,rfl,rfl⟩ | ⟨rfl,rfl⟩
  ·exact ⟨by simp [insc],by simp,Bel.nil⟩
  ·exact ⟨by simp [insc],by simp,Bel.sl (by simp)⟩
 obtain ⟨s0,sn,hb⟩:=sf
 clear hS
 have s0':=s0
 simp only [insc] at s0'
 simp [s0']
 refine (ref05_Def i).use (n:=9) (by rfl) rfl ?_
 simp
 refine Bra.cut (fun F S=>Has intc 1 S (F 3) i.varL∧Bel S (F 3)) (bra_dec (fun h=>?_) (fun h=>?_)) ?_
 ·simp [s0']
  refine (ref05_Def i).use (n:=9) (by rfl) rfl ?_
  simp
  refine ref05_add hv hb (by omega) fun v' S2 a1 a2 _ _ _=>?_
  simp
  unfold Ins.varL
  rw [if_pos h]
  exact ⟨a1,a2⟩
 ·simp
  unfold Ins.varL
  rw [if_neg h]
  exact ⟨hv,hb⟩
 ·clear s0 s0' hv hb sn
  rintro F S ⟨hv,hb⟩
  generalize i.varL=l at *
  simp
  refine W.whileI (fun (out:List Int) F' S'=>F' 3=F 3∧SelI l out∧Has intc 1 S' (F 3) l∧Bel S' (F 3)∧Has intc 1 S' (F' 4) out∧Bel S' (F' 4)∧Sep (F 3) (F' 4)) (fun out=>l.length - out.length) ?_ [] _ _ ?_
  ·rintro out F1 S1 ⟨f3,hI,hv,hb,ho,hbo,hsep⟩
   have hol:=sub_len out l hI.nodup hI.sub
   simp [f3,hv.len,ho.len]
   by_cases hlt:out.length < l.length
   ·simp [hlt]
    refine W.whileI (fun (k:Nat) F' S'=>k≤l.length∧F' 3=F 3∧F' 4=F1 4∧F' 6=.int .i64 k∧S'=S1∧∃ b,F' 5=.int .i64 b∧BestI l out k b) (fun k=>l.length - k) ?_ 0 _ _ ?_
    ·rintro k F2 S2 ⟨hk,f3,f4,f6,rfl,b,f5,hB⟩
     simp [f3,f6,hv.len]
     by_cases hltk:k < l.length
     ·have e4:=wrapS k (by omega)
      obtain ⟨x,hx⟩:∃ x,l[k]?=some x:=⟨_,List.getElem?_eq_getElem hltk⟩
      have hx0:=hvl x (List.mem_of_getElem? hx)
      obtain ⟨o,ho1,ho2,ho3⟩:=hv.idx hx
      have hg2:∀h:k < (els intc l).length,(els intc l)[k]=[.int .i64 x]:=fun h=>by simp [els,intc,(List.getElem?_eq_some_iff.1 hx).2]
      have hg3:(els intc l)[k]?=some [.int .i64 x]:=by simp [els,intc,hx]
      have goon:∀t:Bool,(t=true ↔ Abv out x)→t=true ∨ t=false:=fun t _=>by cases t <;> simp
      simp [hltk]
      refine Dra.auto [] mix ?_ ?_
      ·kernel_rfl
      simp [classes,f3,f4,f6,ho.len]
      have key:out=[] ∨ ∃ pre z,out=pre ++ [z]:=by
       cases out with
       | nil=>exact .inl rfl
       | cons a t=>exact .inr ⟨(a :: t).dropLast,(a :: t).getLast (by simp),(List.dropLast_concat_getLast (by simp)).symm⟩
      rcases key with rfl | ⟨pre,z,rfl⟩
      ·have ha:Abv [] x:=fun y hy=>by (cases hy)
       simp
       by_cases hb0:b < 0
       ·simp [hb0,f3,f6,ho3,ho2,hx,hg2,hg3,f5]
        simp [f3,f4,f6,e4]
        exact ⟨k + 1,by omega,by omega,by omega,hB.yes hx hx0 ha (.inl hb0)⟩
       ·by_cases hxb:x < b
        ·simp [hb0,hxb,f3,f6,ho3,ho2,hx,hg2,hg3,f5]
         simp [f3,f4,f6,e4]
         exact ⟨k + 1,by omega,by omega,by omega,hB.yes hx hx0 ha (.inr hxb)⟩
        ·simp [hb0,hxb,f3,f6,ho3,ho2,hx,hg2,hg3,f5]
         simp [f3,f4,f6,e4,f5]
         exact ⟨k + 1,by omega,by omega,by omega,hB.no hx (.inr ⟨by omega,by omega⟩)⟩
      ·have hz:(pre ++ [z])[pre.length]?=some z:=by simp
       obtain ⟨o',hq1,hq2,hq3⟩:=ho.idx hz
       have e5:IntKind.i64.wrap (pre.length:Int)=(pre.length:Int):=wrap_in (by simp at hol;omega)
       have e6:IntKind.i64.wrap ((pre.length:Int) + 1 - 1)=(pre.length:Int):=by rw [wrap_in (by simp at hol;omega)];omega
       have hab:=abv_last (x:=x) hI.up
       have hg1:(els intc (pre ++ [z]))[pre.length]?=some [.int .i64 z]:=by simp [els,intc]
       have hg4:∀h:pre.length < (els intc (pre ++ [z])).length,(els intc (pre ++ [z]))[pre.length]=[.int .i64 z]:=fun h=>by simp [els,intc]
       simp [f3,f4,f6,ho.len,ho3,ho2,hx,hg2,hg3,e5,e6,hq3,hq2,hg1,hg4]
       by_cases hzx:z < x
       ·have ha:=hab.2 hzx
        by_cases hb0:b < 0
        ·simp [hzx,hb0,f3,f6,ho3,ho2,hx,hg2,hg3,f5]
         simp [f3,f4,f6,e4]
         exact ⟨k + 1,by omega,by omega,by omega,hB.yes hx hx0 ha (.inl hb0)⟩
        ·by_cases hxb:x < b
         ·simp [hzx,hb0,hxb,f3,f6,ho3,ho2,hx,hg2,hg3,f5]
          simp [f3,f4,f6,e4]
          exact ⟨k + 1,by omega,by omega,by omega,hB.yes hx hx0 ha (.inr hxb)⟩
         ·simp [hzx,hb0,hxb,f3,f6,ho3,ho2,hx,hg2,hg3,f5]
          simp [f3,f4,f6,e4,f5]
          exact ⟨k + 1,by omega,by omega,by omega,hB.no hx (.inr ⟨by omega,by omega⟩)⟩
       ·simp [hzx,f5]
        simp [f3,f4,f6,e4,f5]
        exact ⟨k + 1,by omega,by omega,by omega,hB.no hx (.inl fun h=>hzx (hab.1 h))⟩
     ·have:k=l.length:=by omega
      subst this
      simp [f4,f5]
      refine appV_own (e:=intc) (x:=b) (ho.new hbo) rfl (by simp [room];omega) fun S3 hS hnx hoth=>?_
      simp at hnx hoth
      simp [f3]
      refine ⟨out ++ [b],by simp;omega,hI.step hvn hlt hB,?_,hb.mono (by omega),by simpa using hS,Bel.sl (by omega),?_⟩
      ·refine hv.keep fun q ⟨c,hc⟩=>?_
       have:=hb _ _ _ hc
       rw [hoth q (by omega) (fun c' e=>hsep _ _ _ _ _ hc e),if_neg (by omega)]
      ·intro sz sz' q a c h1 h2
       have:=hb _ _ _ h1
       cases h2
       omega
    ·simp [f3]
     exact .inl ⟨rfl,fun j x h=>absurd h (by omega)⟩
   ·simp [hlt]
    exact ⟨encF intc 1 out,⟨out,encF_sl,hI.all (by omega),by omega⟩,9,ho.pict (n:=7)⟩
  ·simp
   refine ⟨SelI.start l,hv,hb,.inl ⟨rfl,rfl⟩,Bel.nil,fun _ _ _ _ _ _ h=>by cases h⟩
end Go.Proofs.YtchkknkjhiaooaaGreatDoor.Vm
namespace Go.Proofs.YtchkknkjhiaooaaGreatDoor.Vm
open Go Go.RowKit
variable {N:Nat} {g:Glob}
theorem ref06_live (f:Fun) (i:Int):Ret P g false 143 [encFun f,.int .i64 i] (.bool (f.live i)):=by
 refine Ret.in c143 (by simp) ?_
 simp [k143]
 by_cases h1:0≤i
 ·obtain ⟨k,rfl⟩:=Int.eq_ofNat_of_zero_le h1
  by_cases h2:k < f.blks.length
  ·obtain ⟨b,hb⟩:∃ b,f.blks[k]?=some b:=⟨_,List.getElem?_eq_getElem h2⟩
   simp [h2,f.blksS.len,f.blksS.idx hb]
   exact RK.eq (by simp [Fun.live,hb]) rfl
  ·have:f.blks[k]?=none:=List.getElem?_eq_none (by omega)
   simp [h2,f.blksS.len]
   exact RK.eq (by simp [Fun.live,this]) rfl
 ·simp [h1]
  exact RK.eq (by simp [Fun.live,h1]) rfl
def succOK (f:Fun) (l:List Int):Prop:=(∀j ∈ l,f.live j=true)∧risesTo l l.length
noncomputable instance (f:Fun) (l:List Int):Decidable (succOK f l):=Classical.propDecidable _
theorem ref06_succ (f:Fun) (l:List Int) (v:AV) (hv:FSl intc 1 v l) (hl:l.length < 2 ^ 40):Ret P g false 267 [encFun f,v] (.bool (decide (succOK f l))):=by
 refine Ret.in c267 (by simp) ?_
 simp [k267]
 have no:∀{S:St},¬ succOK f l→RK (.bool (decide (succOK f l))) (.bool false) S:=fun h=>RK.eq (by rw [decide_eq_false h]) rfl
 refine W.whileI (fun (k:Nat) F S=>k≤l.length∧F 1=v∧F 2=.ptr 0 0 0∧F 5=.int .i64 k∧S.obj 0=some (.row 3 [func f])∧(∀(j:Nat) x,j < k→l[j]?=some x→f.live x=true)∧risesTo l k) (fun k=>l.length - k) ?_ 0 _ _ ?_
 ·rintro k F S ⟨hk,f1,f2,f5,s0,hlv,hr⟩
  have s0':=s0
  simp only [func] at s0'
  simp [f1,f5,hv.len]
  by_cases hlt:k < l.length
  ·have e4:=wrapS k (by omega)
   obtain ⟨x,hx⟩:∃ x,l[k]?=some x:=⟨_,List.getElem?_eq_getElem hlt⟩
   simp [hlt]
   refine Dra.auto [] mix ?_ ?_
   ·kernel_rfl
   simp [classes,f1,f2,f5,s0',hv.idx hx,intc]
   refine (ref06_live f x).b (n:=9) (by simp [mapOpt,pict_stab f.blksS.stab]) rfl ?_
   cases hfx:f.live x
   ·simp
    exact no fun h=>by have:=h.1 x (List.mem_of_getElem? hx);rw [hfx] at this;cases this
   have hlv':∀(j:Nat) y,j < k + 1→l[j]?=some y→f.live y=true:=fun j y hj hy=>by
    by_cases e:j=k
    ·subst e;rw [hx] at hy;cases hy;exact hfx
    ·exact hlv j y (by omega) hy
   cases k with
   | zero =>
    have e1:IntKind.i64.wrap 1=1:=rfl
    simp [f5,f1,f2,e1]
    exact ⟨1,by omega,by omega,by omega,s0,hlv',fun j a b h=>absurd h (by omega)⟩
   | succ m =>
    obtain ⟨y,hy⟩:∃ y,l[m]?=some y:=⟨_,List.getElem?_eq_getElem (by omega)⟩
    have e8:IntKind.i64.wrap ((m:Int) + 1 - 1)=(m:Int):=by rw [wrap_in (by omega)];omega
    have e9:IntKind.i64.wrap (m:Int)=(m:Int):=wrap_in (by omega)
    have e10:IntKind.i64.wrap ((m:Int) + 1 + 1)=(m:Int) + 1 + 1:=wrap_in (by omega)
    have hx2:=hv.idx hx
    simp at hx2
    simp [f1,f5,hx2,hv.idx hy,e8,e9,intc]
    refine bra_dec (fun h=>?_) (fun h=>?_)
    ·simp
     exact no fun h'=>by have:=h'.2 m y x (by omega) hy hx;omega
    ·simp [f1,f2,f5,e10]
     refine ⟨m + 1 + 1,by omega,by omega,by omega,s0,hlv',fun j a b hj ha hb=>?_⟩
     by_cases e:j=m
     ·subst e
      rw [hy] at ha;rw [hx] at hb
      cases ha;cases hb
      omega
     ·exact hr j a b (by omega) ha hb
  ·have:k=l.length:=by omega
   subst this
   simp
   have:succOK f l:=⟨fun j hj=>by
    obtain ⟨n,hn⟩:=List.mem_iff_getElem?.1 hj
    exact hlv n j (List.getElem?_eq_some_iff.1 hn).1 hn,hr⟩
   exact RK.eq (by rw [decide_eq_true this]) rfl
 ·simp [func]
  exact fun j x y h=>absurd h (by omega)
def codeOK (p:Prg) (f:Fun) (l:List Ins):Prop:=(∀x ∈ l,p.insOK f x=true)∧l.length≤16
noncomputable instance (p:Prg) (f:Fun) (l:List Ins):Decidable (codeOK p f l):=Classical.propDecidable _
theorem ins_any {f:Fun} {i:Ins}:(i.vars.any fun x=>decide (f.vars≤x))=true ↔ ∃ x ∈ i.varL,f.vars≤x:=by
 simp only [List.any_eq_true,decide_eq_true_eq]
 have hd:i.def=-1 ∨ 0≤i.def:=by
  unfold Ins.def
  split
  ·rename_i h
   simp only [Bool.and_eq_true] at h
   have hp:i.okP:=by simpa [Ins.ok] using h.2
   exact .inr hp.2.2.2.2.2.2.2.1
  ·exact .inl rfl
 constructor
 ·rintro ⟨x,hx,h⟩
  refine ⟨x,(varL_mem i x).2 ?_,h⟩
  rcases (vars_mem i x).1 hx with h1 | ⟨h1,h2⟩
  ·exact .inl h1
  ·exact .inr ⟨hd.resolve_left h1,h2⟩
 ·rintro ⟨x,hx,h⟩
  refine ⟨x,(vars_mem i x).2 ?_,h⟩
  rcases (varL_mem i x).1 hx with h1 | ⟨h1,h2⟩
  ·exact .inl h1
  ·exact .inr ⟨by omega,h2⟩
set_option maxHeartbeats 4000000 in
theorem ref06_code (p:Prg) (f:Fun) (l:List Ins) (v:AV) (hv:FSl insc 11 v l) (hl:l.length < 2 ^ 40) (hpl:p.funs.length < 2 ^ 40):Ret P g false 268 [encP p,encFun f,v] (.bool (decide (codeOK p f l))):=by
 refine Ret.in c268 (by simp) ?_
 simp [k268]
 have no:∀{S:St},¬ codeOK p f l→RK (.bool (decide (codeOK p f l))) (.bool false) S:=fun h=>RK.eq (by rw [decide_eq_false h]) rfl
 refine W.whileI (fun (k:Nat) F S=>k≤l.length∧F 2=v∧F 3=.ptr 0 0 0∧F 4=.ptr 1 0 0∧F 7=.int .i64 k∧S.obj 0=some (.row 1 [[p.funsV]])∧S.obj 1=some (.row 3 [func f])∧∀(j:Nat) x,j < k→l[j]?=some x→p.insOK f x=true) (fun k=>l.length - k) ?_ 0 _ _ ?_
 ·rintro k F S ⟨hk,f2,f3,f4,f7,s0,s1,hall⟩
  have s1':=s1
  simp only [func] at s1'
  simp [f2,f7,hv.len]
  by_cases hlt:k < l.length
  ·have e4:=wrapS k (by omega)
   obtain ⟨x,hx⟩:∃ x,l[k]?=some x:=⟨_,List.getElem?_eq_getElem hlt⟩
   have bad:p.insOK f x=false→¬ codeOK p f l:=fun h h'=>by have:=h'.1 x (List.mem_of_getElem? hx);rw [h] at this;cases this
   simp [hlt,f2,f7,hv.idx hx]
   refine (ref05_Form x).use (n:=9) (by rfl) rfl ?_
   cases hok:x.ok
   ·simp
    exact no (bad (by simp [Prg.insOK,hok]))
   simp [f2,f7,hv.idx hx]
   refine (ref05_Vars x).use (n:=9) (by rfl) rfl ?_
   rintro y ⟨L,hy,hL,hLl⟩
   simp
   refine W.whileI (fun (j:Nat) F S=>j≤L.length∧F 2=v∧F 3=.ptr 0 0 0∧F 4=.ptr 1 0 0∧F 7=.int .i64 k∧F 8=y∧F 9=.int .i64 j∧S.obj 0=some (.row 1 [[p.funsV]])∧S.obj 1=some (.row 3 [func f])∧∀(j':Nat) u,j' < j→L[j']?=some u→u < f.vars) (fun j=>L.length - j) ?_ 0 _ _ ?_
   ·clear f2 f3 f4 f7 s0 s1 s1'
    rintro j F S ⟨hj,f2,f3,f4,f7,f8,f9,s0,s1,hlo⟩
    have s1':=s1
    simp only [func] at s1'
    simp [f8,f9,hy.len]
    by_cases hltj:j < L.length
    ·have e5:=wrapS j (by omega)
     obtain ⟨u,hu⟩:∃ u,L[j]?=some u:=⟨_,List.getElem?_eq_getElem hltj⟩
     simp [hltj]
     refine Dra.auto [] mix ?_ ?_
     ·kernel_rfl
     simp [classes,f4,f8,f9,s1',hy.idx hu,intc]
     refine bra_dec (fun h=>?_) (fun h=>?_)
     ·simp
      refine no (bad ?_)
      have:(x.vars.any fun u=>decide (f.vars≤u))=true:=ins_any.2 ⟨u,(hL u).1 (List.mem_of_getElem? hu),h⟩
      simp [Prg.insOK,this]
     ·simp [f2,f3,f4,f7,f8,f9,e5]
      refine ⟨j + 1,by omega,by omega,by omega,s0,s1,fun j' w hj' hw=>?_⟩
      by_cases e:j'=j
      ·subst e;rw [hu] at hw;cases hw;omega
      ·exact hlo j' w (by omega) hw
    ·have:j=L.length:=by omega
     subst this
     have hany:(x.vars.any fun u=>decide (f.vars≤u))=false:=by
      cases h:(x.vars.any fun u=>decide (f.vars≤u))
      ·rfl
      ·obtain ⟨u,h1,h2⟩:=ins_any.1 h
       obtain ⟨n,hn⟩:=List.mem_iff_getElem?.1 ((hL u).2 h1)
       have:=hlo n u (List.getElem?_eq_some_iff.1 hn).1 hn
       omega
     have hf0:0≤x.f:=by
      have hp:x.okP:=by simpa [Ins.ok] using hok
      exact hp.2.2.2.2.2.2.2.2.2.2.1
     have next:p.insOK f x=true→∀(j:Nat) y,j < k + 1→l[j]?=some y→p.insOK f y=true:=fun h j y hj hy=>by
      by_cases e:j=k
      ·subst e;rw [hx] at hy;cases hy;exact h
      ·exact hall j y (by omega) hy
     simp
     refine Dra.auto [] mix ?_ ?_
     ·kernel_rfl
     by_cases h7:x.kind=7
     ·obtain ⟨fn,hfn⟩:∃ n:Nat,x.f=(n:Int):=⟨x.f.toNat,by omega⟩
      by_cases hfl:fn < p.funs.length
      ·obtain ⟨h,hh⟩:∃ h,p.funs[fn]?=some h:=⟨_,List.getElem?_eq_getElem hfl⟩
       have hnle:¬ p.funs.length≤fn:=by omega
       simp (config:={ maxSteps:=2000000 }) [classes,f2,f3,f7,s0,hv.idx hx,h7,hfn,p.funsS.len,hnle,p.funsS.idx hh]
       by_cases hpn:h.par=x.n
       ·simp [hpn]
        simp [f2,f3,f4,f7,e4]
        exact ⟨k + 1,by omega,by omega,by omega,s0,s1',next (by simp [Prg.insOK,hok,hany,h7,hfn,hh,hpn])⟩
       ·simp [hpn]
        exact no (bad (by simp [Prg.insOK,hok,hany,h7,hfn,hh,hpn]))
      ·have hh:p.funs[fn]?=none:=List.getElem?_eq_none (by omega)
       simp [classes,f2,f3,f7,s0,hv.idx hx,h7,hfn,p.funsS.len,show p.funs.length≤fn by omega]
       exact no (bad (by simp [Prg.insOK,hok,hany,h7,hfn,hh]))
     ·simp [classes,f2,f3,f7,s0,hv.idx hx,h7]
      simp [f2,f3,f4,f7,e4]
      exact ⟨k + 1,by omega,by omega,by omega,s1',next (by simp [Prg.insOK,hok,hany,h7])⟩
   ·simp [f2,f3,f4,f7]
    exact ⟨s0,s1⟩
  ·have:k=l.length:=by omega
   subst this
   simp [f2,hv.len]
   refine RK.eq ?_ rfl
   congr 1
   apply Bool.eq_iff_iff.2
   simp only [decide_eq_true_eq]
   constructor
   ·intro h
    exact ⟨fun x hx=>by
     obtain ⟨n,hn⟩:=List.mem_iff_getElem?.1 hx
     exact hall n x (List.getElem?_eq_some_iff.1 hn).1 hn,by omega⟩
   ·intro h
    have:=h.2
    omega
 ·simp [func]
end Go.Proofs.YtchkknkjhiaooaaGreatDoor.Vm
namespace Go.Proofs.YtchkknkjhiaooaaGreatDoor.Vm
open Go Go.RowKit
variable {N:Nat} {g:Glob}
instance:PlainE insc:=⟨fun x=>by simp [insc,AV.stab]⟩
theorem appV_list {α:Type} {e:α→List AV} {sz:Nat} {S:St} {v:AV} {l m:List α} {K:AV × St→Prop} (h:Has e sz S v l) (hb:Bel S v) (hok:okAll sz (els e m)) (hr:l.length + m.length≤room)
  (hk:∀v' S',Has e sz S' v' (l ++ m)→Bel S' v'→S.next≤S'.next→(∀q,q < S.next→(∀c,v ≠ .sl sz q 0 c)→S'.obj q=S.obj q)→(v'=v ∨ ∀q c,v'=.sl sz q 0 c→S.next≤q)→K (v',S')):Ok (appV sz v S (els e m)) K:=by
 by_cases hm:m=[]
 ·subst hm
  have hl:(lenV v).isSome=true:=by rw [h.len];rfl
  have:appV sz v S (els e ([]:List α))=some (v,S):=by
   unfold appV
   rw [if_pos (by simp [els]),if_pos hl]
  rw [this,ok_some]
  exact hk v S (by rw [List.append_nil];exact h) hb (Nat.le_refl _) (fun _ _ _=>rfl) (.inl rfl)
 ·have h0:¬ (els e m).length=0:=by rw [els_length];simpa using hm
  have h1:¬ ((els e m).length > room ∨ ¬ okAll sz (els e m)):=by
   rw [els_length]
   rintro (h | h)
   ·omega
   ·exact h hok
  rcases h with ⟨rfl,rfl⟩ | ⟨o,rfl,ho,hne⟩
  ·rw [appV_nil,if_neg h0,if_neg h1,ok_some]
   refine hk _ _ (.inr ⟨S.next,by simp,?_,by simpa using hm⟩) (Bel.sl (by simp)) (by simp) (fun q hq _=>new_other (by omega)) (.inr fun q c e=>by cases e;exact Nat.le_refl _)
   rw [new_same];simp
  ·rw [appV_sl,if_neg h0,if_neg h1,ho,rowOf_row,Option.bind_some,if_pos ⟨rfl,rfl,by simp,by simpa using hr⟩,ok_some]
   refine hk _ _ (.inr ⟨S.next,by simp,?_,by simp [hm]⟩) (Bel.sl (by simp)) (by simp) (fun q hq hv=>?_) (.inr fun q c e=>by cases e;exact Nat.le_refl _)
   ·have:(S.drop o).next=S.next:=rfl
    rw [← this,new_same];simp [els_take,els_append]
   ·rw [new_other (by show q ≠ S.next;omega)]
    simp only [drop_obj]
    rw [if_neg (by rintro rfl;exact hv _ rfl)]
theorem ins_okAll (m:List Ins):okAll 11 (els insc m):=by
 unfold okAll
 simp only [els,List.all_map,List.all_eq_true,Function.comp]
 intro x _;rfl
def blkOK (p:Prg) (f:Fun) (b:Blk):Prop:=¬ (b.on=false∧(b.ins ≠ [] ∨ b.out ≠ []))∧succOK f b.out∧codeOK p f b.ins
theorem blkMsg_iff (p:Prg) (f:Fun) (b:Blk):p.blkMsg f b=[] ↔ blkOK p f b:=by
 unfold Prg.blkMsg blkOK
 have e1:(0 < b.ins.length + b.out.length) ↔ (b.ins ≠ [] ∨ b.out ≠ []):=by
  rw [← List.length_pos_iff,← List.length_pos_iff];omega
 have e2:¬ (rises b.out=false ∨ (b.out.any fun x=>!f.live x)=true) ↔ succOK f b.out:=by
  unfold succOK rises
  rw [not_or]
  simp only [decide_eq_false_iff_not,Classical.not_not,List.any_eq_true,Bool.not_eq_true',not_exists,not_and,Bool.not_eq_false]
  exact ⟨fun h=>⟨h.2,h.1⟩,fun h=>⟨h.2,h.1⟩⟩
 have e3:¬ (16 < b.ins.length ∨ (b.ins.any fun i=>!p.insOK f i)=true) ↔ codeOK p f b.ins:=by
  unfold codeOK
  rw [not_or]
  simp only [List.any_eq_true,Bool.not_eq_true',not_exists,not_and,Bool.not_eq_false,Nat.not_lt]
  exact ⟨fun h=>⟨h.2,h.1⟩,fun h=>⟨h.2,h.1⟩⟩
 rw [← e1]
 split
 ·rename_i h;simp [h]
 ·rename_i h
  split
  ·rename_i h2
   have:¬ succOK f b.out:=fun h3=>e2.2 h3 h2
   simp [this]
  ·rename_i h2
   split
   ·rename_i h3
    have:¬ codeOK p f b.ins:=fun h4=>e3.2 h4 h3
    simp [this]
   ·rename_i h3
    exact iff_of_true rfl ⟨h,e2.1 h2,e3.1 h3⟩
theorem firstMsg_iff {p:Prg} {f:Fun}:∀l:List Blk,firstMsg p f l=[] ↔ ∀b ∈ l,blkOK p f b
 | []=>by simp [firstMsg]
 | b :: l=>by
  rw [firstMsg]
  split
  ·rename_i h
   rw [firstMsg_iff l]
   have:=(blkMsg_iff p f b).1 h
   simp [this]
  ·rename_i h
   have h2:¬ blkOK p f b:=fun h'=>h ((blkMsg_iff p f b).2 h')
   constructor
   ·intro h';exact absurd h' h
   ·intro h';exact absurd (h' b (by simp)) h2
def funOK (p:Prg) (f:Fun):Prop:=f.varsOK∧f.blksOK∧∀b ∈ f.blks,blkOK p f b
noncomputable instance (p:Prg) (f:Fun):Decidable (funOK p f):=Classical.propDecidable _
theorem funMsg_iff (p:Prg) (f:Fun):p.funMsg f=[] ↔ funOK p f:=by
 unfold Prg.funMsg funOK
 split
 ·rename_i h;simp [h]
 ·rename_i h
  split
  ·rename_i h2;simp [h2]
  ·rename_i h2
   rw [firstMsg_iff]
   have h1':=Classical.not_not.1 h
   have h2':=Classical.not_not.1 h2
   exact ⟨fun h=>⟨h1',h2',h⟩,fun h=>h.2.2⟩
theorem ref06_fun (p:Prg) (f:Fun) (hpl:p.funs.length < 2 ^ 38) (hf:f.Small):Ret P (gl N) false 202 [encP p,encFun f] (.bool (decide (funOK p f))):=by
 refine Ret.in c202 (by simp) ?_
 simp [k202,f.blksS.len]
 have no:∀{S:St},¬ funOK p f→RK (.bool (decide (funOK p f))) (.bool false) S:=fun h=>RK.eq (by rw [decide_eq_false h]) rfl
 have hfb:=hf.blks
 by_cases a1:f.par < 0
 ·simp [a1];exact no fun h=>by have:=h.1;unfold Fun.varsOK at this;omega
 by_cases a2:3 < f.par
 ·simp [a1,a2];exact no fun h=>by have:=h.1;unfold Fun.varsOK at this;omega
 by_cases a3:f.vars < f.par
 ·simp [a1,a2,a3];exact no fun h=>by have:=h.1;unfold Fun.varsOK at this;omega
 by_cases a4:6 < f.vars
 ·simp [a1,a2,a3,a4];exact no fun h=>by have:=h.1;unfold Fun.varsOK at this;omega
 by_cases a5:f.blks.length < 1
 ·have a5':f.blks=[]:=List.length_eq_zero_iff.1 (by omega)
  simp [a1,a2,a3,a4,a5'];exact no fun h=>by have:=h.2.1.1;omega
 by_cases a6:12 < f.blks.length
 ·have a5':¬ f.blks=[]:=fun h=>by rw [h] at a5;simp at a5
  simp [a1,a2,a3,a4,a5',a6,show ¬ (f.blks.length:Int) < 1 by omega,show (12:Int) < f.blks.length by omega];exact no fun h=>by have:=h.2.1.2.1;omega
 obtain ⟨B0,hB0⟩:∃ b,f.blks[0]?=some b:=⟨_,List.getElem?_eq_getElem (by omega)⟩
 obtain ⟨B1,hB1⟩:∃ b,f.blks[f.blks.length - 1]?=some b:=⟨_,List.getElem?_eq_getElem (by omega)⟩
 have hx0:=f.blksS.idx hB0
 have hx1:=f.blksS.idx hB1
 simp at hx0
 have a5':¬ f.blks=[]:=fun h=>by rw [h] at a5;simp at a5
 have ec:((f.blks.length - 1:Nat):Int)=(f.blks.length:Int) - 1:=by omega
 rw [ec] at hx1
 have e1:IntKind.i64.wrap ((f.blks.length:Int) - 1)=(f.blks.length:Int) - 1:=wrap_in (by omega)
 cases hon0:B0.on
 ·simp [a1,a2,a3,a4,a5',show ¬ (f.blks.length:Int) < 1 by omega,show ¬ (12:Int) < f.blks.length by omega,hx0,hon0]
  exact no fun h=>by have:=h.2.1.2.2.1;unfold Fun.onAt at this;rw [hB0] at this;simp [hon0] at this
 cases hon1:B1.on
 ·simp [a1,a2,a3,a4,a5',show ¬ (f.blks.length:Int) < 1 by omega,show ¬ (12:Int) < f.blks.length by omega,hx0,hon0,e1,hx1,hon1]
  exact no fun h=>by have:=h.2.1.2.2.2;unfold Fun.onAt at this;rw [hB1] at this;simp [hon1] at this
 simp [a1,a2,a3,a4,a5',show ¬ (f.blks.length:Int) < 1 by omega,show ¬ (12:Int) < f.blks.length by omega,hx0,hon0,e1,hx1,hon1]
 refine W.whileI (fun (k:Nat) F S=>k≤f.blks.length∧F 2=.ptr 0 0 0∧F 3=.ptr 1 0 0∧F 5=.int .i64 f.blks.length∧F 6=.int .i64 k∧S.obj 0=some (.row 1 [[p.funsV]])∧S.obj 1=some (.row 3 [func f])∧2≤S.next∧∀(j:Nat) b,j < k→f.blks[j]?=some b→blkOK p f b) (fun k=>f.blks.length - k) ?_ 0 _ _ ?_
 ·rintro k F S ⟨hk,f2,f3,f5,f6,s0,s1,hn,hall⟩
  have s1':=s1
  simp only [func] at s1'
  by_cases hlt:k < f.blks.length
  ·have e4:=wrapS k (by omega)
   obtain ⟨b,hb⟩:∃ b,f.blks[k]?=some b:=⟨_,List.getElem?_eq_getElem hlt⟩
   have hbm:=List.mem_of_getElem? hb
   have hbi:=hf.ins b hbm
   have hbo:=hf.out b hbm
   have z0:¬ 0=S.next:=by omega
   have z1:¬ 1=S.next:=by omega
   have bad:¬ blkOK p f b→¬ funOK p f:=fun h h'=>h (h'.2.2 b hbm)
   have next:blkOK p f b→∀(j:Nat) c,j < k + 1→f.blks[j]?=some c→blkOK p f c:=fun h j c hj hc=>by
    by_cases e:j=k
    ·subst e;rw [hb] at hc;cases hc;exact h
    ·exact hall j c (by omega) hc
   have after:∀{F':AFrame} {S':St},True:=trivial
   simp [f5,f6,hlt,f3,s1',f.blksS.idx hb,z0,z1]
   have tailC:(b.on=false∧(b.ins ≠ [] ∨ b.out ≠ [])) ∨ ¬ (b.on=false∧(b.ins ≠ [] ∨ b.out ≠ [])):=Classical.em _
   rcases tailC with ⟨hon,hne⟩ | hgood
   ·by_cases hi:b.ins=[]
    ·have ho:¬ b.out=[]:=by
      rcases hne with h | h
      ·exact absurd hi h
      ·exact h
     simp [hon,hi,ho,b.insS.len,b.outS.len]
     exact no (bad fun h=>h.1 ⟨hon,.inr ho⟩)
    ·simp [hon,hi,b.insS.len,b.outS.len]
     exact no (bad fun h=>h.1 ⟨hon,.inl hi⟩)
   ·have cases3:b.on=true ∨ (b.on=false∧b.ins=[]∧b.out=[]):=by
     cases hon:b.on
     ·right
      refine ⟨rfl,?_,?_⟩
      ·exact Classical.byContradiction fun h=>hgood ⟨hon,.inl h⟩
      ·exact Classical.byContradiction fun h=>hgood ⟨hon,.inr h⟩
     ·exact .inl rfl
    rcases cases3 with hon | ⟨hon,hi,ho⟩
    ·simp [hon,f3,s1',z0,z1]
     refine (ref06_succ f b.out b.outV b.outS (by omega)).use (n:=9) (by simp [mapOpt,pict_stab f.blksS.stab,pict_stab b.outS.stab]) rfl ?_
     by_cases hs:succOK f b.out
     ·simp [hs,f2,f3,s0,s1',z0,z1]
      refine (ref06_code p f b.ins b.insV b.insS (by omega) (by omega)).use (n:=9) (by simp [mapOpt,pict_stab p.funsS.stab,pict_stab f.blksS.stab,pict_stab b.insS.stab]) rfl ?_
      by_cases hc:codeOK p f b.ins
      ·simp [hc]
       simp [f2,f3,f5,f6,e4]
       exact ⟨k + 1,by omega,by omega,by omega,by simp [z0,s0],by simp [z1,s1],by omega,next ⟨hgood,hs,hc⟩⟩
      ·simp [hc]
       exact no (bad fun h=>hc h.2.2)
     ·simp [hs]
      exact no (bad fun h=>hs h.2.1)
    ·simp [hon,hi,ho,b.insS.len,b.outS.len,f3,s1',z0,z1]
     refine (ref06_succ f b.out b.outV b.outS (by omega)).use (n:=9) (by simp [mapOpt,pict_stab f.blksS.stab,pict_stab b.outS.stab]) rfl ?_
     by_cases hs:succOK f b.out
     ·simp [hs,f2,f3,s0,s1',z0,z1]
      refine (ref06_code p f b.ins b.insV b.insS (by omega) (by omega)).use (n:=9) (by simp [mapOpt,pict_stab p.funsS.stab,pict_stab f.blksS.stab,pict_stab b.insS.stab]) rfl ?_
      by_cases hc:codeOK p f b.ins
      ·simp [hc]
       simp [f2,f3,f5,f6,e4]
       exact ⟨k + 1,by omega,by omega,by omega,by simp [z0,s0],by simp [z1,s1],by omega,next ⟨hgood,hs,hc⟩⟩
      ·simp [hc]
       exact no (bad fun h=>hc h.2.2)
     ·simp [hs]
      exact no (bad fun h=>hs h.2.1)
  ·have:k=f.blks.length:=by omega
   subst this
   simp [f5,f6]
   have:funOK p f:=⟨by unfold Fun.varsOK;omega,⟨by omega,by omega,by unfold Fun.onAt;rw [hB0];exact hon0,by unfold Fun.onAt;rw [hB1];exact hon1⟩,fun b hb=>by
    obtain ⟨n,hn⟩:=List.mem_iff_getElem?.1 hb
    exact hall n b (List.getElem?_eq_some_iff.1 hn).1 hn⟩
   exact RK.eq (by rw [decide_eq_true this]) rfl
 ·simp [func]
end Go.Proofs.YtchkknkjhiaooaaGreatDoor.Vm
namespace Go.Proofs.YtchkknkjhiaooaaGreatDoor.Vm
open Go Go.RowKit
variable {N:Nat} {g:Glob}
def Fun.insTo (f:Fun) (j:Nat):List Ins:=((f.blks.map Blk.ins).take j).flatten
def Fun.insA (f:Fun):List Ins:=(f.blks.map Blk.ins).flatten
def Prg.insTo (p:Prg) (i:Nat):List Ins:=((p.funs.map Fun.insA).take i).flatten
def Prg.insA (p:Prg):List Ins:=(p.funs.map Fun.insA).flatten
theorem Fun.insTo_succ {f:Fun} {j:Nat} {b:Blk} (h:f.blks[j]?=some b):f.insTo (j + 1)=f.insTo j ++ b.ins:=by
 have h':(f.blks.map Blk.ins)[j]?=some b.ins:=by rw [List.getElem?_map,h];rfl
 unfold Fun.insTo
 rw [take_succ_get h'];simp
theorem Prg.insTo_succ {p:Prg} {j:Nat} {f:Fun} (h:p.funs[j]?=some f):p.insTo (j + 1)=p.insTo j ++ f.insA:=by
 have h':(p.funs.map Fun.insA)[j]?=some f.insA:=by rw [List.getElem?_map,h];rfl
 unfold Prg.insTo
 rw [take_succ_get h'];simp
theorem Fun.insTo_all (f:Fun):f.insTo f.blks.length=f.insA:=by
 unfold Fun.insTo;rw [List.take_of_length_le (by simp)];rfl
theorem Prg.insTo_all (p:Prg):p.insTo p.funs.length=p.insA:=by
 unfold Prg.insTo;rw [List.take_of_length_le (by simp)];rfl
theorem flat_subI {l:List (List Ins)} (k:Nat):(l.take k).flatten.Sublist l.flatten:=by
 have h:l.flatten=(l.take k).flatten ++ (l.drop k).flatten:=by rw [← List.flatten_append,List.take_append_drop]
 rw [h];exact List.sublist_append_left _ _
theorem ins_part {p:Prg} {f:Fun} {b:Blk} {k j:Nat} (hf:p.funs[k]?=some f) (hb:f.blks[j]?=some b):(p.insTo k).length + (f.insTo j).length + b.ins.length≤p.insA.length:=by
 have h1:(f.insTo (j + 1)).Sublist f.insA:=flat_subI (j + 1)
 have h2:(p.insTo (k + 1)).Sublist p.insA:=flat_subI (k + 1)
 rw [Fun.insTo_succ hb] at h1
 rw [Prg.insTo_succ hf] at h2
 have h3:=h1.length_le
 have h4:=h2.length_le
 simp only [List.length_append] at h3 h4
 omega
theorem ids_ins (p:Prg):p.ids=p.insA.map Ins.id:=by
 unfold Prg.ids Prg.insA
 rw [List.map_flatten,List.map_map]
 congr 1
 refine List.map_congr_left fun f _=>?_
 unfold Fun.ids Fun.insA
 simp only [Function.comp]
 rw [List.map_flatten,List.map_map]
 rfl
theorem ref06_Instrs (p:Prg) (hl:p.insA.length < 2 ^ 30) (hf:p.funs.length < 2 ^ 30) (hb:∀f ∈ p.funs,f.blks.length < 2 ^ 30):OwnL P (gl N) insc 11 203 [encP p] p.insA:=by
 refine OwnL.in c203 (by simp) ?_
 simp [k203]
 refine W.whileI (fun (i:Nat) F S=>i≤p.funs.length∧F 1=.ptr 0 0 0∧F 4=.int .i64 i∧S.obj 0=some (.row 1 [[p.funsV]])∧0 < S.next∧Has insc 11 S (F 3) (p.insTo i)∧Bel S (F 3)∧∀q c,F 3=.sl 11 q 0 c→0 < q) (fun i=>p.funs.length - i) ?_ 0 _ _ ?_
 ·rintro i F S ⟨hi,f1,f4,s0,hn,h3,b3,y3⟩
  simp [f1,f4,s0,p.funsS.len]
  by_cases hlt:i < p.funs.length
  ·have e4:=wrapS i (by omega)
   obtain ⟨f,hfi⟩:∃ f,p.funs[i]?=some f:=⟨_,List.getElem?_eq_getElem hlt⟩
   have hbl:=hb f (List.mem_of_getElem? hfi)
   simp [hlt]
   refine W.whileI (fun (j:Nat) F S=>j≤f.blks.length∧F 1=.ptr 0 0 0∧F 4=.int .i64 i∧F 5=.int .i64 j∧S.obj 0=some (.row 1 [[p.funsV]])∧0 < S.next∧Has insc 11 S (F 3) (p.insTo i ++ f.insTo j)∧Bel S (F 3)∧∀q c,F 3=.sl 11 q 0 c→0 < q) (fun j=>f.blks.length - j) ?_ 0 _ _ ?_
   ·clear f1 f4 s0 hn h3 b3 y3
    rintro j F S ⟨hj,f1,f4,f5,s0,hn,h3,b3,y3⟩
    simp [f1,f4,f5,s0,p.funsS.idx hfi,f.blksS.len]
    by_cases hltj:j < f.blks.length
    ·have e5:=wrapS j (by omega)
     obtain ⟨b,hbj⟩:∃ b,f.blks[j]?=some b:=⟨_,List.getElem?_eq_getElem hltj⟩
     have hpt:=ins_part hfi hbj
     simp [hltj,f1,f4,f5,s0,p.funsS.idx hfi,f.blksS.idx hbj,b.insS.elems]
     refine appV_list h3 b3 (ins_okAll b.ins) (by simp [room];omega) fun v' S' a1 a2 a3 a4 a5=>?_
     simp [f1,f4,f5,e5]
     refine ⟨j + 1,by omega,by omega,by omega,by rw [a4 0 hn fun c e=>absurd (y3 0 c e) (by omega)];exact s0,by omega,by rw [Fun.insTo_succ hbj,← List.append_assoc];exact a1,a2,fun q c e=>?_⟩
     rcases a5 with a5 | a5
     ·rw [a5] at e;exact y3 q c e
     ·have:=a5 q c e;omega
    ·have:j=f.blks.length:=by omega
     subst this
     simp [f1,f4,e4]
     exact ⟨i + 1,by omega,by omega,by omega,s0,hn,by rw [Prg.insTo_succ hfi,← f.insTo_all];exact h3,b3,y3⟩
   ·simp [f1,f4]
    exact ⟨s0,hn,by simpa [Fun.insTo] using h3,b3,y3⟩
  ·have:i=p.funs.length:=by omega
   subst this
   rw [p.insTo_all] at h3
   simp
   exact h3
 ·simp [Prg.insTo]
  exact ⟨Has.nil,Bel.nil⟩
theorem flatI_len {α β:Type} {g:α→List β} {m:Nat}:∀(l:List α),(∀a ∈ l,(g a).length≤m)→(l.map g).flatten.length≤l.length * m
 | [],_=>by simp
 | a :: l,h=>by
  have h1:=h a (by simp)
  have h2:=flatI_len l fun x hx=>h x (by simp [hx])
  simp only [List.map_cons,List.flatten_cons,List.length_append,List.length_cons,Nat.add_mul,Nat.one_mul]
  omega
theorem insA_len {p:Prg} (h6:p.funs.length≤6) (h:∀f ∈ p.funs,funOK p f):p.insA.length≤1152:=by
 have h1:=flatI_len (g:=Fun.insA) (m:=192) p.funs fun f hf=>by
  have h2:=flatI_len (g:=Blk.ins) (m:=16) f.blks fun b hb=>((h f hf).2.2 b hb).2.2.2
  have h3:=(h f hf).2.1.2.1
  have h4:f.blks.length * 16≤12 * 16:=Nat.mul_le_mul_right _ h3
  unfold Fun.insA
  omega
 have h5:p.funs.length * 192≤6 * 192:=Nat.mul_le_mul_right _ h6
 unfold Prg.insA
 omega
theorem ref06_Sane (p:Prg) (hp:p.Fit):Ret P (gl N) false 138 [encP p] (.bool p.sane):=by
 refine Ret.in c138 (by simp) ?_
 simp [k138,p.funsS.len]
 have no:∀{S:St},p.sane ≠ true→RK (.bool p.sane) (.bool false) S:=fun h=>RK.eq (by
  cases hs:p.sane
  ·rfl
  ·exact absurd hs h) rfl
 refine bra_dec (fun h6=>?_) (fun h6=>?_)
 ·simp
  exact no fun h=>by have:=(Prg.sane_iff.1 h).1;omega
 simp
 refine W.whileI (fun (k:Nat) F S=>k≤p.funs.length∧F 1=.ptr 0 0 0∧F 3=.int .i64 k∧S.obj 0=some (.row 1 [[p.funsV]])∧∀(j:Nat) f,j < k→p.funs[j]?=some f→funOK p f) (fun k=>p.funs.length - k) ?_ 0 _ _ ?_
 ·rintro k F S ⟨hk,f1,f3,s0,hall⟩
  simp [f1,f3,s0,p.funsS.len]
  by_cases hlt:k < p.funs.length
  ·have e4:=wrapS k (by omega)
   obtain ⟨f,hfi⟩:∃ f,p.funs[k]?=some f:=⟨_,List.getElem?_eq_getElem hlt⟩
   simp [hlt]
   refine Dra.auto [] mix ?_ ?_
   ·kernel_rfl
   simp [classes,f1,f3,s0,p.funsS.idx hfi]
   refine (ref06_fun p f hp.funs (hp.each f (List.mem_of_getElem? hfi))).b (n:=9) (by simp [mapOpt,pict_stab p.funsS.stab,pict_stab f.blksS.stab]) rfl ?_
   by_cases hf:funOK p f
   ·simp [hf,f1,f3,e4]
    refine ⟨k + 1,by omega,by omega,by omega,s0,fun j f' hj hf'=>?_⟩
    by_cases e:j=k
    ·subst e;rw [hfi] at hf';cases hf';exact hf
    ·exact hall j f' (by omega) hf'
   ·simp [hf]
    exact no fun h=>hf ((funMsg_iff p f).1 ((Prg.sane_iff.1 h).2.1 f (List.mem_of_getElem? hfi)))
  ·have:k=p.funs.length:=by omega
   subst this
   have hall':∀f ∈ p.funs,funOK p f:=fun f hf=>by
    obtain ⟨n,hn⟩:=List.mem_iff_getElem?.1 hf
    exact hall n f (List.getElem?_eq_some_iff.1 hn).1 hn
   have hil:=insA_len (by omega) hall'
   simp [f1,s0]
   refine (ref06_Instrs p (by omega) (by omega) (fun f hf=>by have:=(hall' f hf).2.1.2.1;omega)).ret.use (n:=9) (by simp [mapOpt,pict_stab p.funsS.stab]) rfl ?_
   have hA:FSl insc 11 (encF insc 11 p.insA) p.insA:=encF_sl
   have hsane:(∀(a b:Nat) (x y:Ins),b < a→p.insA[a]?=some x→p.insA[b]?=some y→y.id ≠ x.id) ↔ p.sane=true:=by
    rw [Prg.sane_iff,ids_ins]
    constructor
    ·intro h
     refine ⟨by omega,fun f hf=>(funMsg_iff p f).2 (hall' f hf),?_⟩
     unfold List.Nodup
     rw [List.pairwise_iff_getElem]
     intro a b ha hb hab
     simp only [List.getElem_map]
     simp only [List.length_map] at ha hb
     exact h b a _ _ hab (List.getElem?_eq_getElem hb) (List.getElem?_eq_getElem ha)
    ·rintro ⟨_,_,h⟩ a b x y hab hx hy
     unfold List.Nodup at h
     rw [List.pairwise_iff_getElem] at h
     obtain ⟨ha,rfl⟩:=List.getElem?_eq_some_iff.1 hx
     obtain ⟨hb,rfl⟩:=List.getElem?_eq_some_iff.1 hy
     have:=h b a (by simpa using hb) (by simpa using ha) hab
     simpa using this
   clear hall hall'
   generalize p.insA=A at *
   simp
   refine W.whileI (fun (a:Nat) F S=>a≤A.length∧F 4=encF insc 11 A∧F 5=.int .i64 a∧∀(a' b:Nat) (x y:Ins),a' < a→b < a'→A[a']?=some x→A[b]?=some y→y.id ≠ x.id) (fun a=>A.length - a) ?_ 0 _ _ ?_
   ·clear f1 f3 s0
    rintro a F S ⟨ha,f4,f5,hd⟩
    simp [f4,f5,hA.len]
    by_cases hlta:a < A.length
    ·have e5:=wrapS a (by omega)
     obtain ⟨x,hx⟩:∃ x,A[a]?=some x:=⟨_,List.getElem?_eq_getElem hlta⟩
     simp [hlta]
     refine W.whileI (fun (b:Nat) F S=>b≤a∧F 4=encF insc 11 A∧F 5=.int .i64 a∧F 6=.int .i64 b∧∀(b':Nat) (y:Ins),b' < b→A[b']?=some y→y.id ≠ x.id) (fun b=>a - b) ?_ 0 _ _ ?_
     ·clear f4 f5
      rintro b F S ⟨hb,f4,f5,f6,hd2⟩
      simp [f5,f6]
      by_cases hltb:b < a
      ·have e6:=wrapS b (by omega)
       obtain ⟨y,hy⟩:∃ y,A[b]?=some y:=⟨_,List.getElem?_eq_getElem (by omega)⟩
       simp [hltb]
       refine Dra.auto [] mix ?_ ?_
       ·kernel_rfl
       simp [classes,f4,f5,f6,hA.idx hx,hA.idx hy]
       refine bra_dec (fun e=>?_) (fun e=>?_)
       ·simp
        exact no fun h=>hsane.2 h a b x y hltb hx hy e
       ·simp [f4,f5,f6,e6]
        refine ⟨b + 1,by omega,by omega,by omega,fun b' z hb' hz=>?_⟩
        by_cases e2:b'=b
        ·subst e2;rw [hy] at hz;cases hz;exact e
        ·exact hd2 b' z (by omega) hz
      ·have:b=a:=by omega
       subst this
       simp [f4,f5,e5]
       refine ⟨b + 1,by omega,by omega,by omega,fun a' b' z y ha' hb' hz hy=>?_⟩
       by_cases e:a'=b
       ·subst e;rw [hx] at hz;cases hz;exact hd2 b' y hb' hy
       ·exact hd a' b' z y (by omega) hb' hz hy
     ·simp [f4,f5]
    ·have:a=A.length:=by omega
     subst this
     simp
     exact RK.eq (by rw [hsane.1 fun a b x y hab hx hy=>hd a b x y (List.getElem?_eq_some_iff.1 hx).1 hab hx hy]) rfl
   ·simp
 ·simp
theorem ref06_Fun (p:Prg) (i:Int) (hp:p.Fit):Ret P (gl N) false 83 [encP p,.int .i64 i] (.tuple [encFun ((p.fn i).getD Fun.none),.bool (p.fn i).isSome]):=by
 refine Ret.in c83 (by simp) ?_
 have hfl:=hp.funs
 simp [k83]
 refine (ref06_Sane p hp).use (n:=9) (by simp [mapOpt,pict_stab p.funsS.stab]) rfl ?_
 cases hs:p.sane
 ·simp
  exact ⟨3,by simp [Prg.fn,hs]⟩
 ·by_cases h1:i < 0
  ·simp [h1]
   exact ⟨3,by simp [Prg.fn,show ¬ 0≤i by omega]⟩
  ·obtain ⟨k,rfl⟩:=Int.eq_ofNat_of_zero_le (show 0≤i by omega)
   by_cases h2:k < p.funs.length
   ·obtain ⟨f,hf⟩:∃ b,p.funs[k]?=some b:=⟨_,List.getElem?_eq_getElem h2⟩
    simp [show ¬ (k:Int) < 0 by omega,p.funsS.len,show ¬ p.funs.length≤k by omega,p.funsS.idx hf]
    exact ⟨3,by simp [Prg.fn,hs,hf]⟩
   ·have hn:p.funs[k]?=none:=List.getElem?_eq_none (by omega)
    simp [show ¬ (k:Int) < 0 by omega,p.funsS.len,show p.funs.length≤k by omega]
    exact ⟨3,by simp [Prg.fn,hn]⟩
end Go.Proofs.YtchkknkjhiaooaaGreatDoor.Vm
namespace Go.Proofs.YtchkknkjhiaooaaGreatDoor.Vm
open Go Go.RowKit
variable {N:Nat} {g:Glob}
section
variable {α:Type} {Y:Sys α}
structure RoI (Y:Sys α) (x0 x:List α) (b:Nat) (same:Bool):Prop where
 mid:Y.Mid x (fun i=>i < Y.n)
 gle:Y.gap x≤Y.gap x0
 sm:same=true→x=x0∧∀b',b' < b→∀a,x0[b']?=some a→a=Y.ev x0 b'
 df:same=false→Y.gap x < Y.gap x0
theorem RoI.start {x0:List α} (h:Y.Mid x0 (fun i=>i < Y.n)):RoI Y x0 x0 0 true:=⟨h,Nat.le_refl _,fun _=>⟨rfl,fun b' hb=>absurd hb (by omega)⟩,fun h=>by cases h⟩
theorem RoI.step [DecidableEq α] {x0 x:List α} {b:Nat} {same:Bool} {s:α} (h:RoI Y x0 x b same) (hs:x[b]?=some s):RoI Y x0 (x.set b (Y.ev x b)) (b + 1) (same && decide (Y.ev x b=s)):=by
 have hm:Y.Mid (x.set b (Y.ev x b)) (fun i=>i < Y.n):=h.mid.step hs (fun k hk=>.inr hk) fun _ k hk _=>hk
 have hb:=h.mid.fit.lt hs
 have hev:=h.mid.fit.ev hb.1
 by_cases he:Y.ev x b=s
 ·have hx:x.set b (Y.ev x b)=x:=by rw [he];exact set_same hs
  rw [hx,decide_eq_true he,Bool.and_true]
  refine ⟨h.mid,h.gle,fun ht=>?_,h.df⟩
  obtain ⟨e1,e2⟩:=h.sm ht
  refine ⟨e1,fun b' hb' a ha=>?_⟩
  by_cases e:b'=b
  ·subst e
   rw [← e1,hs] at ha
   cases ha
   rw [← e1];exact he.symm
  ·exact e2 b' (by omega) a ha
 ·have hlt:=Y.gap_set h.mid.fit.ok hs hev (h.mid.pre b s hs) (Ne.symm he)
  rw [decide_eq_false he,Bool.and_false]
  exact ⟨hm,by have:=h.gle;omega,fun ht=>by (cases ht),fun _=>by have:=h.gle;omega⟩
theorem RoI.least {x0 x:List α} (h:RoI Y x0 x Y.n true):Y.Least x:=by
 obtain ⟨e1,e2⟩:=h.sm rfl
 refine ⟨h.mid.fit,fun i a ha=>?_,h.mid.low⟩
 subst e1
 exact e2 i (h.mid.fit.lt ha).1 a ha
theorem gap_le (x:List α):Y.gap x≤x.length * Y.top:=by
 unfold Sys.gap
 induction x with
 | nil=>simp
 | cons a x ih=>simp only [List.map_cons,List.sum_cons,List.length_cons,Nat.add_mul,Nat.one_mul];omega
end
structure InI (p:Prg) (i:Int) (f:Fun) (prV:AV) (F:AFrame) (S:St):Prop where
 f1:F 1=.int .i64 i
 f2:F 2=.ptr 0 0 0
 f5:F 5=.ptr 1 0 0
 f7:F 7=.int .i64 f.blks.length
 f8:F 8=.sl 2 2 0 f.blks.length
 f9:F 9=prV
 s0:S.obj 0=some (.row 1 [[p.funsV]])
 s1:S.obj 1=some (.row 3 [func f])
 n:3≤S.next
 h:Has prc 1 S prV f.pgr
 b:Bel S prV
 y:∀q c,prV=.sl 1 q 0 c→3≤q
theorem InI.up {p:Prg} {i:Int} {f:Fun} {prV:AV} {F F':AFrame} {S S':St} (h:InI p i f prV F S) (h1:F' 1=F 1) (h2:F' 2=F 2) (h5:F' 5=F 5) (h7:F' 7=F 7) (h8:F' 8=F 8) (h9:F' 9=F 9) (hu:∀q,q < S.next→q ≠ 2→(q < 3 ∨ ∃ L:List (List Int),S.obj q=some (.row 1 (els prc L)))→S'.obj q=S.obj q) (hn:S.next≤S'.next):InI p i f prV F' S':=by
 have:=h.n
 refine ⟨by rw [h1];exact h.f1,by rw [h2];exact h.f2,by rw [h5];exact h.f5,by rw [h7];exact h.f7,by rw [h8];exact h.f8,by rw [h9];exact h.f9,by rw [hu 0 (by omega) (by omega) (.inl (by omega))];exact h.s0,by rw [hu 1 (by omega) (by omega) (.inl (by omega))];exact h.s1,by omega,?_,h.b.mono hn,h.y⟩
 refine h.h.keep fun q ⟨c,hc⟩=>?_
 have h3:=h.y q c hc
 refine hu q (h.b _ _ _ hc) (by omega) (.inr ?_)
 rcases h.h with ⟨e,_⟩ | ⟨o,e,ho,_⟩
 ·rw [e] at hc;cases hc
 ·rw [e] at hc;cases hc;exact ⟨_,ho⟩
theorem ref06_has (l:List Int) (n:Int) (v:AV) (hv:FSl intc 1 v l) (hl:l.length < 2 ^ 40):Ret P g false 139 [v,.int .i64 n] (.bool (decide (n ∈ l))):=by
 refine Ret.in c139 (by simp) ?_
 simp [k139]
 refine W.whileI (fun (k:Nat) F S=>k≤l.length∧n ∉ l.take k∧F 0=v∧F 1=.int .i64 n∧F 5=.int .i64 k) (fun k=>l.length - k) ?_ 0 _ _ ?_
 ·rintro k F S ⟨hk,hno,f0,f1,f5⟩
  simp [f0,f5,hv.len]
  by_cases hlt:k < l.length
  ·obtain ⟨x,hx⟩:∃ x,l[k]?=some x:=⟨_,List.getElem?_eq_getElem hlt⟩
   have e4:=wrapS k (by omega)
   simp [hlt,f0,f1,f5,hv.idx hx,intc]
   refine bra_dec (fun h=>?_) (fun h=>?_)
   ·simp
    exact RK.eq (by rw [← h];simp [List.mem_of_getElem? hx]) rfl
   ·simp [f0,f1,f5,e4]
    refine ⟨k + 1,by omega,by omega,?_,by omega⟩
    rw [take_succ_get hx]
    simp only [List.mem_append,List.mem_singleton]
    rintro (h' | h')
    ·exact hno h'
    ·exact h h'.symm
  ·have:k=l.length:=by omega
   subst this
   rw [List.take_length] at hno
   simp
   exact RK.eq (by simp [hno]) rfl
 ·simp
theorem ref06_Preds (p:Prg) (i b:Int) (hp:p.Fit):OwnL P (gl N) intc 1 84 [encP p,.int .i64 i,.int .i64 b] (p.preds i b):=by
 refine OwnL.in c84 (by simp) ?_
 simp [k84]
 refine (ref06_Fun p i hp).use (n:=9) (by simp [mapOpt,pict_stab p.funsS.stab]) (by simp [solids,AV.solid,p.funsS.solid]) ?_
 have hsm:((p.fn i).getD Fun.none).Small:=by
  cases h:p.fn i with
  | none=>exact ⟨by simp,fun b hb=>by simp at hb,fun b hb=>by simp at hb⟩
  | some f=>exact fn_fit hp h
 have h12:((p.fn i).getD Fun.none).blks.length≤12:=by
  cases h:p.fn i with
  | none=>simp
  | some f=>exact (fn_ok h).len.2
 have hpr:p.preds i b=((p.fn i).getD Fun.none).preds b:=rfl
 rw [hpr]
 generalize (p.fn i).getD Fun.none=f at *
 simp
 refine W.whileI (fun (k:Nat) F S=>k≤f.blks.length∧F 2=.int .i64 b∧F 8=.ptr 1 0 0∧F 10=.int .i64 k∧1 < S.next∧S.obj 1=some (.row 3 [func f])∧Has intc 1 S (F 7) (f.predsTo b k)∧Bel S (F 7)∧∀q c,F 7=.sl 1 q 0 c→1 < q) (fun k=>f.blks.length - k) ?_ 0 _ _ ?_
 ·rintro k F S ⟨hk,h2,h8,h10,hn,s1,h7,hb7,y7⟩
  have s1':=s1
  simp only [func] at s1'
  simp [h8,h10,s1',f.blksS.len]
  by_cases hlt:k < f.blks.length
  ·obtain ⟨y,hy⟩:∃ y,f.blks[k]?=some y:=⟨_,List.getElem?_eq_getElem hlt⟩
   have e4:=wrapS k (by omega)
   have hst:=Fun.predsTo_succ (b:=b) hy
   have hpl:=f.predsTo_len b k
   have hol:y.out.length < 2 ^ 40:=by have:=hsm.out y (List.mem_of_getElem? hy);omega
   simp [hlt,h2,h8,h10,s1',f.blksS.idx hy]
   refine (ref06_has y.out b y.outV y.outS hol).use (n:=9) (by simp [mapOpt,pict_stab y.outS.stab]) rfl ?_
   by_cases hm:b ∈ y.out
   ·simp [hm,h10] at hst ⊢
    refine appV_own (e:=intc) (x:=(k:Int)) (h7.new hb7) rfl (by simp [room];omega) ?_
    intro S' hS hnx hoth
    simp at hnx hoth
    simp [h2,h8,h10,e4]
    refine ⟨k + 1,by omega,by omega,by omega,by omega,?_,by rw [hst];simpa using hS,Bel.sl (by rw [hnx];exact Nat.lt_succ_self _),by omega⟩
    rw [hoth 1 (by omega) (fun c e=>by have:=y7 1 c e;omega),if_neg (by omega)]
    exact s1
   ·simp [hm] at hst ⊢
    simp [h2,h8,h10,e4]
    exact ⟨k + 1,by omega,by omega,by omega,by omega,s1,by rw [hst];exact h7,hb7,y7⟩
  ·have:k=f.blks.length:=by omega
   subst this
   simp
   exact h7
 ·simp [func]
  exact ⟨.nil,Bel.nil⟩
theorem ref06_Block (p:Prg) (i j:Int) (hp:p.Fit):Ret P (gl N) false 88 [encP p,.int .i64 i,.int .i64 j] (.tuple [encBlk ((p.blk i j).getD Blk.none),.bool (p.blk i j).isSome]):=by
 refine Ret.in c88 (by simp) ?_
 simp [k88]
 refine (ref06_Fun p i hp).use (n:=9) (by simp [mapOpt,pict_stab p.funsS.stab]) (by simp [solids,AV.solid,p.funsS.solid]) ?_
 simp
 have hfs:=((p.fn i).getD Fun.none).blksS
 refine (ref06_live ((p.fn i).getD Fun.none) j).use (n:=9) (by simp [mapOpt,pict_stab hfs.stab]) rfl ?_
 cases hl:((p.fn i).getD Fun.none).live j
 ·simp
  have:p.blk i j=none:=by
   unfold Prg.blk
   cases h:p.fn i with
   | none=>rfl
   | some f=>rw [h] at hl;simp at hl;simp [Fun.blk,hl]
  exact ⟨3,by simp [this]⟩
 ·cases h:p.fn i with
  | none=>rw [h] at hl;simp [Fun.live,Fun.none] at hl
  | some f =>
   rw [h] at hl;simp at hl
   have hl':=hl
   unfold Fun.live at hl'
   simp only [Bool.and_eq_true,decide_eq_true_eq] at hl'
   obtain ⟨k,rfl⟩:=Int.eq_ofNat_of_zero_le hl'.1
   obtain ⟨b,hb⟩:∃ b,f.blks[k]?=some b:=by
    cases hb:f.blks[k]? with
    | none=>rw [Int.toNat_natCast,hb] at hl';simp at hl'
    | some b=>exact ⟨b,rfl⟩
   have hblk:p.blk i k=some b:=by simp [Prg.blk,h,Fun.blk,hl,hb]
   simp [f.blksS.idx hb]
   exact ⟨3,by simp [hblk]⟩
end Go.Proofs.YtchkknkjhiaooaaGreatDoor.Vm
