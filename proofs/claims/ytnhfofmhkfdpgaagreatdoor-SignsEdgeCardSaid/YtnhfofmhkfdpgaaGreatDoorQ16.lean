/- A part of the proof: Fe. -/
import Derived.Test.YtnhfofmhkfdpgaaGreatDoorQ15
set_option linter.unusedVariables false
set_option linter.unusedSimpArgs false
set_option linter.constructorNameAsVariable false
namespace Go.Proofs.YtnhfofmhkfdpgaaGreatDoor.Vm
open Go Go.RowKit
variable {N:Nat} {g:Glob}
def sorted (l:List Int):List Int:=l.mergeSort fun x y=>decide (x<=y)
theorem xAH (l:List Int):(sorted l).length=l.length:=by simp [sorted]
theorem xEc (l:List Int):(els intc l).flatten=l.map (AV.int .i64):=by
 induction l with
 | nil=>rfl
 | cons x l ih=>simpa [els,intc] using ih
theorem xOD {C:Ctx}:∀{vs:List Value} {l:List Int},VRs C vs (l.map (AV.int .i64))->vs=l.map (Value.int .i64)
 | [],[],_=>rfl
 | v :: vs,x :: l,.cons _ _ _ _ h hs=>by rw [h.int_inv,xOD hs];rfl
theorem xOE {C:Ctx}:∀l:List Int,VRs C (l.map (Value.int .i64)) (l.map (AV.int .i64))
 | []=>.nil
 | x :: l=>.cons _ _ _ _ (.int _ _) (xOE l)
theorem xJk {off:Nat} {d:List Int} {c:Array Value} (hb:off + d.length<=c.size) (j:Nat) (v:Value) (h:(d.map (Value.int .i64))[j]?=some v):(Sort.putCells (Value.int .i64) off d.toArray c)[off + j]?=some v:=by
 rw [List.getElem?_map] at h
 cases hd:d[j]? with
 | none=>rw [hd] at h;cases h
 | some x =>
  rw [hd] at h;simp at h;subst h
  have hj:=(xgS hd).1
  unfold Sort.putCells
  rw [Array.getElem?_mapIdx,Array.getElem?_eq_getElem (by omega)]
  simp only [Option.map_some,List.size_toArray]
  rw [if_pos ⟨by omega,by omega⟩]
  have:off + j - off=j:=by omega
  rw [this]
  simp [hd]
theorem xBm {l:List Int} {o:Nat} {S:St} {K:AV->St->Prop} (ho:S.obj o=some (.row 1 (els intc l))) (hne:l ≠ []) (hl:l.length < 2 ^ 40) (hk:K (.tuple []) (S.set o (.row 1 (els intc (sorted l))))) :
  Cal P g 96 [.sl 1 o 0 l.length] S K:=by
 refine ⟨c96.call,?_⟩
 intro vs C hS hR hvs hN hG
 subst hS
 have hpos:0 < l.length:=List.length_pos_iff.2 hne
 cases hvs with
 | cons v x us xs hv hvs =>
 cases hvs
 have hel:(els intc l)[0]?=some (intc l[0]):=by rw [xOn,xgG hpos];rfl
 obtain ⟨loc,c,ty,vs,k1,k2,k3,k4,k5,k6,k7,k8,_⟩:=xBy hR ho hel
 rw [xEc] at k8
 have hvs:=xOD k8
 subst hvs
 simp only [xBf,Nat.mul_one] at k5
 have main:∀cap,l.length<=cap->Calls P 96 #[Value.slice (some ⟨loc.blk,loc.off,none⟩) l.length cap] C.w fun e w'=>∃ v av C',e=.returned v/\retR K (.val av C'.S)/\C'.w=w'/\Le C C'/\Rel C'/\VR C' v av:=by
  intro cap hcap
  have hblk:=(Array.getElem?_eq_some_iff.1 k4).1
  have hH:Sort.Holds (Value.int .i64) C.w loc.blk loc.off l.toArray:=by
   intro j hj
   have hj:j < l.length:=by simpa using hj
   refine ⟨?_,?_⟩
   ·rw [cell_of_row C.w loc.blk _ c ty (0,0) k4]
    have:=k7 j (Value.int .i64 l[j]) (by simp [hj])
    rw [this]
    simp [hj]
   ·exact frozen_of_row C.w loc.blk (loc.off + j) c ty k4
  refine Calls.mono (Tryz.slices_Sort_int loc.blk loc.off cap l C.w hH hblk (by omega)) ?_
  rintro e w' ⟨rfl,n,os,rfl⟩
  let ob:Obj:=.cells (Sort.putCells (Value.int .i64) loc.off (sorted l).toArray c) ty (0,0)
  have hsz:(Sort.putCells (Value.int .i64) loc.off (sorted l).toArray c).size=c.size:=by simp [Sort.putCells]
  have hL1:Le C (C.wrote o loc.blk ob (.row 1 (els intc (sorted l)))):=xCa hR ho k1 k4 ob (fun c' e f h=>by cases h;exact ⟨_,_,rfl,hsz⟩) _
  have hR1:Rel (C.wrote o loc.blk ob (.row 1 (els intc (sorted l)))):=by
   refine xBF hR ho k1 hL1 (.inr ⟨loc,_,ty,(sorted l).map (Value.int .i64),k1,k2,k3,xAm _ hblk,?_,?_,?_,?_⟩)
   ·simp only [xBf,xAH,Nat.mul_one,hsz];exact k5
   ·intro x hx;simp only [els,List.mem_map] at hx;obtain ⟨y,_,rfl⟩:=hx;rfl
   ·intro j v hj;exact xJk (by rw [xAH];exact k5) j v hj
   ·rw [xEc];exact xOE _
  have hheap:∀k,k < C.w.heap.size->(Sort.grow (Sort.putRow (Value.int .i64) (Sort.ahead C.w n) loc.blk loc.off (sorted l).toArray) os).heap[k]?=(putBlk C.w loc.blk ob).heap[k]?:=by
   intro k hk
   rw [Sort.heap_grow_old _ _ (by simpa using hk)]
   simp only [Sort.putRow,Sort.mapBlock,Sort.heap_ahead,putBlk]
   rw [Array.getElem?_modify,Array.getElem?_setIfInBounds]
   by_cases e:loc.blk=k
   ·subst e;rw [if_pos rfl,if_pos rfl,if_pos hk,k4];rfl
   ·rw [if_neg e,if_neg e]
  have hB:Below (putBlk C.w loc.blk ob).heap.size (putBlk C.w loc.blk ob) (Sort.grow (Sort.putRow (Value.int .i64) (Sort.ahead C.w n) loc.blk loc.off (sorted l).toArray) os):=by
   refine ⟨rfl,rfl,rfl,by rw [xAR];simp,fun k hk=>?_⟩
   rw [xAR] at hk
   exact hheap k hk
  have h2:=xMI hR1 hB
  have h3:=xI6 hR1 hB
  refine ⟨_,.tuple [],_,rfl,?_,?_,hL1.trans h2,h3,.tuple [] [] .nil⟩
  ·exact hk
  ·rfl
 generalize hn:l.length=n at hv
 cases hv with
 | sl sz o off len cap l' c e f h hz hh hm hcap =>
  rw [k1] at h;cases h
  subst hn
  have:=main cap hcap
  simpa using this
 | slnil=>omega
end Go.Proofs.YtnhfofmhkfdpgaaGreatDoor.Vm
