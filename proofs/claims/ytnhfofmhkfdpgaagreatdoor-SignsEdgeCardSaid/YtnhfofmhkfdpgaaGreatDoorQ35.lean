/- A part of the proof: Ia. -/
import Derived.Carry
import Derived.ChangeArms
import Derived.OpenShut
import Derived.ChangeSlices
import Derived.Test.YtnhfofmhkfdpgaaGreatDoorQ34
set_option linter.unusedVariables false
set_option linter.unusedSimpArgs false
set_option linter.constructorNameAsVariable false
namespace Go.Proofs.YtnhfofmhkfdpgaaGreatDoor.Vm
open Go Go.RowKit Go.ChangeShapes Go.WideShapes
section
variable {H:Type} {enc:TypeId × Value->H} {w:World} {sp:Nat->Bool}
noncomputable def fieldsOf (t:TypeId):Array Field:=match P.underlying t with | some (.struct fs)=>fs | _=>#[]
noncomputable def fieldsAt (t:TypeId):List (TypeId × Nat):=(fieldsOf t).toList.map fun f=>(f.type,f.offset)
theorem xDy {t:TypeId} {fuel:Nat} {cs:List Value} {x:DataW H × List MemPlace} {L:List (TypeId × Nat)} (ht:P.underlying t=some (.struct (fieldsOf t))) (hL:fieldsAt t=L) (h:DataW.trod enc P w 0 sp true fuel t cs=some x) :
  cs.length=P.cellsOf t/\∃ n,∀(i:Nat) (u:TypeId) (o:Nat),L[i]?=some (u,o)->∃ y,DataW.trod enc P w 0 sp true n u ((cs.drop o).take (P.cellsOf u))=some y:=by
 obtain ⟨xs,n,rfl,rfl,h1,h2,h3⟩:=DataW.trod_struct ht h
 refine ⟨h1,n,fun i u o hi=>?_⟩
 rw [<- hL,fieldsAt,List.getElem?_map] at hi
 cases hf:(fieldsOf t).toList[i]? with
 | none=>rw [hf] at hi;cases hi
 | some f =>
  rw [hf] at hi
  simp at hi
  obtain ⟨rfl,rfl⟩:=hi
  have hf2:(fieldsOf t)[i]?=some f:=by simpa using hf
  have hlt:i < (fieldsOf t).size:=(Array.getElem?_eq_some_iff.1 hf2).1
  rw [h3 i f hf2]
  exact ⟨_,xgG (by omega)⟩
def C0 (w:World):Ctx:=⟨w,w.heap.size,fun _=>False,fun _=>none,St.empty⟩
theorem xWg {w:World} {b:Nat}:¬ (C0 w).bad b:=by
 rintro (⟨_,h⟩ | ⟨o,l,x,h,_⟩)
 ·exact h
 ·cases h
def Opens {α:Type} (enc:TypeId × Value->H) (w:World) (sp:Nat->Bool) (t:TypeId) (e:α->List AV):Prop:=∀(fuel:Nat) (cs:List Value) (x:DataW H × List MemPlace),DataW.trod enc P w 0 sp true fuel t cs=some x->∃ a:α,VRs (C0 w) cs (e a)/\∀v ∈ e a,v.solid=true
theorem xQh {t:TypeId} (ht:P.underlying t=some (.int .i64)):Opens enc w sp t intc:=by
 intro fuel cs x h
 obtain ⟨n,rfl,_,_⟩:=DataW.trod_int ht h
 exact ⟨n,.cons _ _ _ _ (.int _ _) .nil,fun v hv=>by simp [intc] at hv;subst hv;rfl⟩
theorem plainAdd (b q k:Nat):(⟨b,q,none⟩:Addr).add k=⟨b,q + k,none⟩:=by
 unfold Addr.add
 split
 ·subst_vars;rfl
 ·rfl
theorem VRs.app {C:Ctx}:∀{vs us:List Value} {xs ys:List AV},VRs C vs xs->VRs C us ys->VRs C (vs ++ us) (xs ++ ys)
 | _,_,_,_,.nil,h2=>h2
 | _,_,_,_,.cons v x vs xs h hs,h2=>.cons v x _ _ h (VRs.app hs h2)
theorem xCT {α:Type} {t u:TypeId} {e:α->List AV} {sz:Nat} (ht:P.underlying t=some (.slice u)) (hc:P.cellsOf u=sz) (hsz:0 < sz) (he:∀a,(e a).length=sz) (ho:Opens enc w sp u e):Opens enc w sp t (fun p:Bool × List α=>[encN p.1 e sz p.2]):=by
 intro fuel cs x h
 rcases DataW.trod_slice ht h with ⟨rfl,_⟩ | ⟨a,len,cap,elems,rest,n,rfl,rfl,rfl,hb,hl,hm,hlen,hel,_,_⟩
 ·exact ⟨(true,[]),.cons _ _ _ _ (by simp [encN];exact .nilsl none) .nil,fun v hv=>by simp [encN] at hv;subst hv;rfl⟩
 ·by_cases h0:len=0
  ·subst h0
   exact ⟨(false,[]),.cons _ _ _ _ (by simp [encN,els];exact .fnil (some a) cap sz) .nil,fun v hv=>by simp [encN,els] at hv;subst hv;rfl⟩
  ·obtain ⟨blk,off,spot⟩:=a
   have row:∀i,i < len->∃ cs y,cs.length=sz/\(∀j,j < sz->w.cell? ((⟨blk,off,spot⟩:Addr).add (i * sz) |>.add j)=cs[j]?)/\DataW.trod enc P w 0 sp true n u cs=some y:=by
    intro i hi
    have h1:=hel i hi
    rw [hc,xgG (by omega)] at h1
    cases hcs:w.cells? 0 ((⟨blk,off,spot⟩:Addr).add (i * sz)) sz with
    | none=>rw [hcs] at h1;cases h1
    | some cs =>
     rw [hcs] at h1
     obtain ⟨_,k1,k2⟩:=World.cells?_some hcs
     exact ⟨cs,_,k1,k2,h1⟩
   have hspot:spot=none:=by
    obtain ⟨cs,y,k1,k2,_⟩:=row 0 (by omega)
    have g0:=k2 0 hsz
    obtain ⟨c0,hc0⟩:∃ c0,cs[0]?=some c0:=⟨_,xgG (by omega)⟩
    rw [hc0] at g0
    simpa [Addr.add] using World.cell?_spot g0
   subst hspot
   have key:∀m,m<=len->∃ (l:List α) (vs:List Value),l.length=m/\vs.length=m * sz/\Cells w blk off vs/\VRs (C0 w) vs (els e l).flatten/\∀v ∈ (els e l).flatten,v.solid=true:=by
    intro m
    induction m with
    | zero=>intro _;exact ⟨[],[],rfl,by simp,(fun j v h=>by simp at h),by simp [els];exact .nil,fun v h=>by simp [els] at h⟩
    | succ m ih =>
     intro hm
     obtain ⟨l,vs,k1,k2,k3,k4,k5⟩:=ih (by omega)
     obtain ⟨cs,y,c1,c2,c3⟩:=row m (by omega)
     obtain ⟨a,a1,a2⟩:=ho n cs y c3
     refine ⟨l ++ [a],vs ++ cs,by simp [k1],by simp [k2,c1,Nat.add_mul],?_,?_,?_⟩
     ·intro j v hj
      by_cases hjl:j < vs.length
      ·rw [List.getElem?_append_left hjl] at hj
       exact k3 j v hj
      ·rw [List.getElem?_append_right (by omega)] at hj
       have hlt:=(xgS hj).1
       have h2:=c2 (j - vs.length) (by omega)
       rw [hj] at h2
       have ea:((⟨blk,off,none⟩:Addr).add (m * sz)).add (j - vs.length)=⟨blk,off + j,none⟩:=by
        rw [plainAdd,plainAdd,show off + m * sz + (j - vs.length)=off + j by rw [<- k2];omega]
       rwa [ea] at h2
     ·have:(els e (l ++ [a])).flatten=(els e l).flatten ++ e a:=by simp [els]
      rw [this]
      exact k4.app a1
     ·intro v hv
      have:(els e (l ++ [a])).flatten=(els e l).flatten ++ e a:=by simp [els]
      rw [this,List.mem_append] at hv
      rcases hv with hv | hv
      ·exact k5 v hv
      ·exact a2 v hv
   obtain ⟨l,vs,k1,k2,k3,k4,k5⟩:=key len (Nat.le_refl _)
   have hblk:blk < w.heap.size:=by
    obtain ⟨cs,y,c1,c2,_⟩:=row 0 (by omega)
    have g0:=c2 0 hsz
    obtain ⟨c0,hc0⟩:∃ c0,cs[0]?=some c0:=⟨_,xgG (by omega)⟩
    rw [hc0] at g0
    have e0:((⟨blk,off,none⟩:Addr).add (0 * sz)).add 0=⟨blk,off,none⟩:=by simp [Addr.add]
    rw [e0] at g0
    unfold World.cell? at g0
    cases hh:w.heap[blk]? with
    | none=>simp [hh] at g0
    | some o=>exact (Array.getElem?_eq_some_iff.1 hh).1
   have hen:encN false e sz l=.fsl sz (els e l):=by simp [encN]
   refine ⟨(false,l),.cons _ _ _ _ ?_ .nil,?_⟩
   ·show VR (C0 w) _ (encN false e sz l)
    rw [hen]
    have hll:(els e l).length=len:=by simp [els,k1]
    rw [<- hll]
    refine .fsl blk off cap sz vs (els e l) k3 ?_ k4 k5 xWg hblk (by omega)
    intro x hx
    simp only [els,List.mem_map] at hx
    obtain ⟨a,_,rfl⟩:=hx
    exact he a
   ·intro v hv
    simp only [List.mem_singleton] at hv
    subst hv
    rw [hen]
    simp only [AV.solid]
end
end Go.Proofs.YtnhfofmhkfdpgaaGreatDoor.Vm
