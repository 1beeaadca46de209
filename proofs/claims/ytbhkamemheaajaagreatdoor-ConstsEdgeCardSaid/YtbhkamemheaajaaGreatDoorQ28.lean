/- A part of the proof: Ad Ah Ai Aj Ao Ak Am Al. -/
import Derived.Shelf.Spec.SlicesGrow
import Derived.Test.YtbhkamemheaajaaGreatDoorQ27
set_option linter.unusedVariables false
set_option linter.unusedSimpArgs false
set_option linter.constructorNameAsVariable false
namespace Go.Proofs.YtbhkamemheaajaaGreatDoor.Vm
open Go Go.RowKit
variable {N:Nat} {g:Glob}
def Fun.insts (f:Fun):List Ins:=(f.blks.map Blk.ins).flatten
def Fun.dids (f:Fun) (v:Int):List Int:=sorted ((f.insts.filter fun x=>decide (x.def=v)).map Ins.id)
def Ins.reach (i:Ins) (s:BSet) (ids:List Int):BSet:=if i.def=-1 then s else (s.minus (BSet.ofL s.n ids)).with i.id
def Fun.pastD (f:Fun) (s:BSet) (l:List Ins):BSet:=l.foldl (fun s x=>if 0≤x.def then x.reach s (f.dids x.def) else s) s
def Fun.killI (f:Fun) (s:BSet) (l:List Ins):BSet:=l.foldl (fun s x=>if 0≤x.def then s.or (BSet.ofL 96 (f.dids x.def)) else s) s
def Fun.genD (f:Fun) (k:Nat):BSet:=f.pastD (BSet.new 96) (f.code k)
def Fun.killD (f:Fun) (k:Nat):BSet:=f.killI (BSet.new 96) (f.code k)
def Fun.dflow (f:Fun):Flw where
 w:=96
 rs:=f.pgr
 gen:=(List.range f.blks.length).map f.genD
 kill:=(List.range f.blks.length).map f.killD
open Classical in
noncomputable def Fun.ends (f:Fun):List BSet:=if h:f.dflow.OK then f.dflow.sol h else []
end Go.Proofs.YtbhkamemheaajaaGreatDoor.Vm
namespace Go.Proofs.YtbhkamemheaajaaGreatDoor.Vm
open Go Go.RowKit
variable {N:Nat} {g:Glob}
def Blk.stepsTo (k:Nat) (y:Blk) (c:Nat):List (Nat × Ins):=(y.ins.take c).map fun x=>(k,x)
def Fun.stepsTo (k:Nat) (f:Fun) (b:Nat):List (Nat × Ins):=((f.blks.take b).map fun y=>y.stepsTo k y.ins.length).flatten
def Prg.stepsTo (p:Prg):Nat→List (Nat × Ins)
 | 0=>[]
 | a + 1=>p.stepsTo a ++ (match p.funs[a]? with | some f=>f.stepsTo a f.blks.length | none=>[])
def Prg.steps (p:Prg):List (Nat × Ins):=p.stepsTo p.funs.length
theorem Prg.stepsTo_succ {p:Prg} {a:Nat} {f:Fun} (h:p.funs[a]?=some f):p.stepsTo (a + 1)=p.stepsTo a ++ f.stepsTo a f.blks.length:=by
 rw [Prg.stepsTo,h]
theorem Fun.stepsTo_succ {k b:Nat} {f:Fun} {y:Blk} (h:f.blks[b]?=some y):f.stepsTo k (b + 1)=f.stepsTo k b ++ y.stepsTo k y.ins.length:=by
 unfold Fun.stepsTo
 rw [take_succ_get h,List.map_append,List.flatten_append]
 simp
theorem Blk.stepsTo_succ {k c:Nat} {y:Blk} {x:Ins} (h:y.ins[c]?=some x):y.stepsTo k (c + 1)=y.stepsTo k c ++ [(k,x)]:=by
 unfold Blk.stepsTo
 rw [take_succ_get h,List.map_append];rfl
theorem Blk.stepsTo_sub {k:Nat} {y:Blk} (c:Nat):(y.stepsTo k c).Sublist (y.stepsTo k y.ins.length):=by
 unfold Blk.stepsTo
 rw [List.take_length]
 exact (List.take_sublist _ _).map _
theorem Fun.stepsTo_sub {k:Nat} {f:Fun} (b:Nat):(f.stepsTo k b).Sublist (f.stepsTo k f.blks.length):=by
 unfold Fun.stepsTo
 rw [List.take_length]
 have h:f.blks.map (fun y=>y.stepsTo k y.ins.length)=(f.blks.take b).map (fun y=>y.stepsTo k y.ins.length) ++ (f.blks.drop b).map (fun y=>y.stepsTo k y.ins.length):=by
  rw [← List.map_append,List.take_append_drop]
 rw [h,List.flatten_append]
 exact List.sublist_append_left _ _
theorem Prg.stepsTo_sub {p:Prg} {a:Nat}:∀m,a≤m→(p.stepsTo a).Sublist (p.stepsTo m)
 | 0,h=>by rw [show a=0 by omega];exact List.Sublist.refl _
 | m + 1,h=>by
  by_cases he:a=m + 1
  ·subst he;exact List.Sublist.refl _
  ·rw [Prg.stepsTo]
   exact (Prg.stepsTo_sub m (by omega)).trans (List.sublist_append_left _ _)
theorem steps_part {p:Prg} {f:Fun} {y:Blk} {a b c:Nat} (hf:p.funs[a]?=some f) (hy:f.blks[b]?=some y):(p.stepsTo a ++ (f.stepsTo a b ++ y.stepsTo a c)).Sublist p.steps:=by
 have ha:=(List.getElem?_eq_some_iff.1 hf).1
 have h1:(f.stepsTo a b ++ y.stepsTo a c).Sublist (f.stepsTo a f.blks.length) :=
  ((List.Sublist.refl _).append (y.stepsTo_sub c)).trans (by rw [← Fun.stepsTo_succ hy];exact f.stepsTo_sub _)
 have h2:(p.stepsTo a ++ (f.stepsTo a b ++ y.stepsTo a c)).Sublist (p.stepsTo (a + 1)):=by
  rw [Prg.stepsTo_succ hf]
  exact (List.Sublist.refl _).append h1
 exact h2.trans (Prg.stepsTo_sub _ (by omega))
theorem Fun.steps_insts (k:Nat) (f:Fun):f.stepsTo k f.blks.length=f.insts.map fun x=>(k,x):=by
 unfold Fun.stepsTo Fun.insts
 rw [List.take_length,List.map_flatten,List.map_map]
 congr 1
 refine List.map_congr_left fun y _=>?_
 simp [Blk.stepsTo]
theorem Prg.stepsTo_ids (p:Prg):∀a,a≤p.funs.length→(p.stepsTo a).map (fun t=>t.2.id)=p.idsTo a
 | 0,_=>by simp [Prg.stepsTo,Prg.idsTo]
 | a + 1,h=>by
  obtain ⟨f,hf⟩:∃ f,p.funs[a]?=some f:=⟨_,List.getElem?_eq_getElem (by omega)⟩
  rw [Prg.stepsTo_succ hf,List.map_append,Prg.stepsTo_ids p a (by omega),Prg.idsTo_succ hf,Fun.steps_insts,List.map_map]
  congr 1
  unfold Fun.insts Fun.ids
  rw [List.map_flatten,List.map_map]
  rfl
theorem Prg.steps_ids (p:Prg):p.steps.map (fun t=>t.2.id)=p.ids:=by rw [Prg.steps,Prg.stepsTo_ids p _ (Nat.le_refl _),Prg.idsTo_all]
theorem prog_each {p:Prg} (hp:p.Fit) {fv:AV} {S0:St} {K:AV→St→Prop} (Inv:List (Nat × Ins)→St→Prop) (hup:∀L S S',Inv L S→Up S S'→Inv L S') (h0:Inv [] S0)
  (hst:∀(L:List (Nat × Ins)) (a b c:Nat) (f:Fun) (y:Blk) (x:Ins) (S:St),p.funs[a]?=some f→f.blks[b]?=some y→y.ins[c]?=some x→(L ++ [(a,x)]).Sublist p.steps→Inv L S→∀K':AV→St→Prop,(∀v S',Inv (L ++ [(a,x)]) S'→K' v S')→CalV P (gl N) fv [.int .i64 a,.int .i64 b,.int .i64 c,encI x] S K')
  (hk:∀S,Inv p.steps S→K (.tuple []) S):Cal P (gl N) 57 [encP p,fv] S0 K:=by
 refine c57.in (by simp) ?_
 have hpl:=hp.funs
 simp [k57]
 refine W.whileI (fun (a:Nat) F S=>a≤p.funs.length∧F 1=fv∧F 11=p.funsV∧F 12=.int .i64 p.funs.length∧F 13=.int .i64 a∧Inv (p.stepsTo a) S) (fun a=>p.funs.length - a) ?_ 0 _ _ ?_
 ·rintro a F S ⟨ha,f1,f11,f12,f13,hI⟩
  by_cases hlt:a < p.funs.length
  ·have e4:=wrapS a (by omega)
   obtain ⟨f,hf⟩:∃ f,p.funs[a]?=some f:=⟨_,List.getElem?_eq_getElem hlt⟩
   have hfs:=hp.each f (List.mem_of_getElem? hf)
   have hbl:=hfs.blks
   simp [f12,f13,hlt]
   simp [f11,f13,p.funsS.idx hf]
   generalize hS1:(S.new (.row 3 [[.int .i64 0,.int .i64 0,.nilsl]])).set S.next (.row 3 [[.int .i64 f.par,.int .i64 f.vars,f.blksV]])=S1
   have hI1:Inv (p.stepsTo a ++ f.stepsTo a 0) S1:=by
    have:p.stepsTo a ++ f.stepsTo a 0=p.stepsTo a:=by simp [Fun.stepsTo]
    rw [this,← hS1]
    exact hup _ _ _ hI ((Up.new _ _).put (Nat.le_refl _) _)
   clear hS1 hI
   refine W.whileI (fun (b:Nat) F S=>b≤f.blks.length∧F 1=fv∧F 11=p.funsV∧F 12=.int .i64 p.funs.length∧F 13=.int .i64 a∧F 4=.int .i64 a∧F 19=f.blksV∧F 20=.int .i64 f.blks.length∧F 21=.int .i64 b∧Inv (p.stepsTo a ++ f.stepsTo a b) S) (fun b=>f.blks.length - b) ?_ 0 _ _ ?_
   ·rintro b F S ⟨hb,f1,f11,f12,f13,f4,f19,f20,f21,hI⟩
    by_cases hltb:b < f.blks.length
    ·have e5:=wrapS b (by omega)
     obtain ⟨y,hy⟩:∃ f',f.blks[b]?=some f':=⟨_,List.getElem?_eq_getElem hltb⟩
     have hil:=hfs.ins y (List.mem_of_getElem? hy)
     simp [f20,f21,hltb]
     simp [f19,f21,f.blksS.idx hy]
     generalize hS1:(S.new (.row 3 [[.bool false,.nilsl,.nilsl]])).set S.next (.row 3 [[.bool y.on,y.insV,y.outV]])=S1
     have hI1:Inv (p.stepsTo a ++ (f.stepsTo a b ++ y.stepsTo a 0)) S1:=by
      have:f.stepsTo a b ++ y.stepsTo a 0=f.stepsTo a b:=by simp [Blk.stepsTo]
      rw [this,← hS1]
      exact hup _ _ _ hI ((Up.new _ _).put (Nat.le_refl _) _)
     clear hS1 hI
     refine W.whileI (fun (c:Nat) F S=>c≤y.ins.length∧F 1=fv∧F 11=p.funsV∧F 12=.int .i64 p.funs.length∧F 13=.int .i64 a∧F 4=.int .i64 a∧F 19=f.blksV∧F 20=.int .i64 f.blks.length∧F 21=.int .i64 b∧F 6=.int .i64 b∧F 27=y.insV∧F 28=.int .i64 y.ins.length∧F 29=.int .i64 c∧Inv (p.stepsTo a ++ (f.stepsTo a b ++ y.stepsTo a c)) S) (fun c=>y.ins.length - c) ?_ 0 _ _ ?_
     ·rintro c F S ⟨hc,f1,f11,f12,f13,f4,f19,f20,f21,f6,f27,f28,f29,hI⟩
      by_cases hltc:c < y.ins.length
      ·have e6:=wrapS c (by omega)
       obtain ⟨x,hx⟩:∃ x,y.ins[c]?=some x:=⟨_,List.getElem?_eq_getElem hltc⟩
       simp [f28,f29,hltc]
       simp [f27,f29,y.insS.idx hx,f1,f4,f6]
       have hL:(p.stepsTo a ++ (f.stepsTo a b ++ y.stepsTo a c)) ++ [(a,x)]=p.stepsTo a ++ (f.stepsTo a b ++ y.stepsTo a (c + 1)):=by
        rw [Blk.stepsTo_succ hx];simp
       refine hst (p.stepsTo a ++ (f.stepsTo a b ++ y.stepsTo a c)) a b c f y x _ hf hy hx (by rw [hL];exact steps_part hf hy) (hup _ _ _ hI ((Up.new _ _).put (Nat.le_refl _) _)) _ fun v S' hI'=>?_
       rw [hL] at hI'
       simp [f1,f4,f6,f11,f12,f13,f19,f20,f21,f27,f28,f29,e6]
       exact ⟨c + 1,by omega,by omega,by omega,hI'⟩
      ·have:c=y.ins.length:=by omega
       subst this
       simp [f28,f29,f1,f4,f11,f12,f13,f19,f20,f21,e5]
       exact ⟨b + 1,by omega,by omega,by omega,by rw [Fun.stepsTo_succ hy];exact hI⟩
     ·simp [f1,f4,f11,f12,f13,f19,f20,f21]
      exact hI1
    ·have:b=f.blks.length:=by omega
     subst this
     simp [f20,f21,f1,f11,f12,f13,e4]
     exact ⟨a + 1,by omega,by omega,by omega,by rw [Prg.stepsTo_succ hf];exact hI⟩
   ·simp [f1,f11,f12,f13]
    exact hI1
  ·have:a=p.funs.length:=by omega
   subst this
   simp [f12,f13]
   exact hk S hI
 ·simp
  exact hup _ _ _ h0 (Up.new _ _)
end Go.Proofs.YtbhkamemheaajaaGreatDoor.Vm
namespace Go.Proofs.YtbhkamemheaajaaGreatDoor.Vm
open Go Go.RowKit
set_option maxRecDepth 100000
variable {N:Nat} {g:Glob}
def leastN (l:List Int):Nat→Nat→Int
 | _,0=>-1
 | k,m + 1=>if (k:Int) ∈ l then leastN l (k + 1) m else (k:Int)
theorem prog_least {l:List Int} {o m:Nat} {S:St} {K:AV→St→Prop} (ho:S.obj o=some (.map (ents l))) (hm:m < 2 ^ 30) (hk:K (.int .i64 (leastN l 0 m)) S):Cal P g 115 [.map o,.int .i64 (m:Int)] S K:=by
 refine c115.in (by simp) ?_
 simp [k115]
 refine W.whileI (fun (k:Nat) F S'=>k≤m∧F 0=.map o∧F 6=.int .i64 m∧F 7=.int .i64 k∧leastN l 0 m=leastN l k (m - k)∧S'=S) (fun k=>m - k) ?_ 0 _ _ ?_
 ·rintro k F S' ⟨hk',h0,h6,h7,he,rfl⟩
  by_cases hlt:k < m
  ·have e4:=wrapS k (by omega)
   obtain ⟨d,hd⟩:∃ d,m - k=d + 1:=⟨m - k - 1,by omega⟩
   have hd2:m - (k + 1)=d:=by omega
   rw [hd,leastN] at he
   simp [h6,h7,hlt]
   by_cases hin:(k:Int) ∈ l
   ·rw [if_pos hin] at he
    simp [h0,h6,h7,ho,findV_ents,hin,e4]
    exact ⟨k + 1,by omega,by omega,by omega,by rw [hd2];exact he⟩
   ·rw [if_neg hin] at he
    simp [h0,h6,h7,ho,findV_ents,hin]
    rw [he] at hk
    exact hk
  ·have:k=m:=by omega
   subst this
   rw [Nat.sub_self,leastN] at he
   rw [he] at hk
   simp [h6,h7]
   exact hk
 ·simp
theorem newId1 {L:List Int} {x:Ins} {a b c:AV} {S:St} {K:AV→St→Prop} (h2:S.obj 2=some (.row 1 [[.map 1]])) (h1:S.obj 1=some (.map (ents L))) (hx:x.id ∉ L) (hn:3≤S.next)
  (hk:∀S',S'.obj 1=some (.map (ents (L ++ [x.id])))→S'.obj 2=S.obj 2→S.next≤S'.next→K (.tuple []) S'):Cal P g 118 [a,b,c,encI x,.ptr 2 0 0] S K:=by
 refine c118.in (by simp) ?_
 have hput:=putV_ents L x.id hx
 simp [k118,h2,h1,hput,show ¬ 2=S.next by omega,show ¬ 1=S.next by omega]
 exact hk _ (by simp) (by simp [show ¬ 2=S.next by omega]) (by simp)
noncomputable def Prg.newId (p:Prg):Int:=if p.sane=true then leastN p.ids 0 96 else -1
theorem prog_NewId (p:Prg) (hp:p.Fit):Ret P (gl N) false 78 [encP p] (.int .i64 p.newId):=by
 refine Ret.in c78 (by simp) ?_
 simp [k78]
 refine (prog_Sane p hp).use (n:=9) (by simp [mapOpt,pict_stab p.funsS.stab]) (by simp [solids,AV.solid,p.funsS.solid]) ?_
 cases hs:p.sane with
 | false =>
  simp
  exact RK.eq (by simp [Prg.newId,hs]) rfl
 | true =>
  simp
  have hnd:=(Prg.sane_iff.1 hs).2.2
  refine prog_each hp (fun L S=>3≤S.next∧S.obj 2=some (.row 1 [[.map 1]])∧S.obj 1=some (.map (ents (L.map fun t=>t.2.id)))) ?_ ?_ ?_ ?_
  ·rintro L S S' ⟨h1,h2,h3⟩ hup
   exact ⟨by have:=hup.1;omega,by rw [hup.2 2 (by omega)];exact h2,by rw [hup.2 1 (by omega)];exact h3⟩
  ·simp [ents]
  ·rintro L a b c f y x S hf hy hx hsub ⟨h1,h2,h3⟩ K' hK'
   have hsub2:=hsub.map (fun t:Nat × Ins=>t.2.id)
   rw [p.steps_ids] at hsub2
   have hnd2:=hnd.sublist hsub2
   rw [List.map_append,List.nodup_append] at hnd2
   simp
   refine newId1 h2 h3 (fun hin=>hnd2.2.2 x.id hin x.id (by simp) rfl) h1 fun S' k1 k2 k3=>?_
   exact hK' _ _ ⟨by omega,by rw [k2];exact h2,by rw [k1,List.map_append];rfl⟩
  ·rintro S ⟨h1,h2,h3⟩
   rw [p.steps_ids] at h3
   simp [h2]
   refine prog_least h3 (by decide) ?_
   simp
   exact RK.eq (by simp [Prg.newId,hs]) rfl
def editNames:List (List Nat):=[[97,100,100,102,117,110],[97,100,100,98,108,111,99,107],[100,101,108,98,108,111,99,107],[97,100,100,101,100,103,101],[100,101,108,101,100,103,101],[114,101,119,105,114,101],[105,110,115,101,114,116],[100,101,108,101,116,101]]
def editB:ByteArray:=bs [97,100,100,102,117,110,32,97,100,100,98,108,111,99,107,32,100,101,108,98,108,111,99,107,32,97,100,100,101,100,103,101,32,100,101,108,101,100,103,101,32,114,101,119,105,114,101,32,105,110,115,101,114,116,32,100,101,108,101,116,101]
theorem edit_fields:(Lib.fields editB.data.toList)=editNames.map fun l=>l.map UInt8.ofNat:=by decide
theorem edit_ascii:∀(j:Nat) b,editB.data.toList[j]?=some b→b.toNat < 128:=by
 have h:editB.data.toList.all (fun b=>decide (b.toNat < 128))=true:=by decide
 intro j b hj
 have:=List.all_eq_true.1 h b (List.mem_of_getElem? hj)
 simpa using this
theorem strings_Fields_edits:Ret P (gl N) false 143 [.str editB] (.fsl 1 (els strc editNames)):=by
 refine ⟨c143.call,?_⟩
 intro w av vs xs hG hvs hz
 subst hz
 cases hvs with
 | cons v x vs xs hv hvs =>
 cases hvs
 have:=hv.str_inv;subst this
 refine Calls.mono (Tryz.strings_Fields editB w (by decide) edit_ascii hG.1.2.here) ?_
 rintro e w' ⟨rfl,rfl⟩
 rw [edit_fields]
 have hval:∀L:List (List Nat),VRs ⟨w.alloc (.cells ((L.map fun l=>l.map UInt8.ofNat).map fun l=>Value.string ⟨l.toArray⟩).toArray 9),w.heap.size,av,fun _=>none,St.empty⟩ ((L.map fun l=>l.map UInt8.ofNat).map fun l=>Value.string ⟨l.toArray⟩) (els strc L).flatten:=by
  intro L
  generalize (⟨_,_,_,_,_⟩:Ctx)=C
  induction L with
  | nil=>exact .nil
  | cons l L ih=>exact .cons _ _ _ _ (.str _) ih
 refine ⟨_,.fsl 1 (els strc editNames),St.empty,fun _=>none,rfl,⟨⟨1,rfl⟩,fun h=>by cases h⟩,(Below.refl _ _).alloc (Nat.le_refl _) _,?_,?_⟩
 ·refine ⟨?_,?_,?_,?_,?_,by simp⟩
  ·intro o x h;cases h
  ·intro o o' l l' x x' h;cases h
  ·intro o x h;cases h
  ·intro o l h;cases h
  ·intro o x l h;cases h
 ·have hl:((editNames.map fun l=>l.map UInt8.ofNat)).length=(els strc editNames).length:=by simp
  rw [hl]
  refine .fsl w.heap.size 0 _ 1 _ (els strc editNames) ?_ ?_ (hval editNames) ?_ ?_ (by simp) (Nat.le_refl _)
  ·intro j v hj
   have:=World.alloc_heap_new w (.cells ((editNames.map fun l=>l.map UInt8.ofNat).map fun l=>Value.string ⟨l.toArray⟩).toArray 9)
   simp only [World.cell?,this,Nat.zero_add]
   simpa using hj
  ·intro e he;simp only [els,List.mem_map] at he;obtain ⟨l,_,rfl⟩:=he;rfl
  ·intro x hx
   simp only [els,List.mem_flatten,List.mem_map] at hx
   obtain ⟨m,⟨l,_,rfl⟩,hx⟩:=hx
   simp only [strc,List.mem_singleton] at hx
   subst hx;rfl
  ·rintro (⟨h,_⟩ | ⟨o,l,x,h,_⟩)
   ·exact Nat.lt_irrefl _ h
   ·cases h
theorem edit_Name3:Ret P (gl N) false 110 [.int .i64 3] (.str (bs [97,100,100,101,100,103,101])):=by
 refine Ret.in c110 (by simp) ?_
 simp [k110]
 have e0:bs [97,100,100,102,117,110,32,97,100,100,98,108,111,99,107,32,100,101,108,98,108,111,99,107,32,97,100,100,101,100,103,101,32,100,101,108,101,100,103,101,32,114,101,119,105,114,101,32,105,110,115,101,114,116,32,100,101,108,101,116,101]=editB:=rfl
 rw [e0]
 refine strings_Fields_edits.use (n:=9) ?_ rfl ?_ <;> simp
 have h:(els strc editNames)[3]?=some (strc [97,100,100,101,100,103,101]):=rfl
 simp [pk_indexAddr1,editNames,els,strc]
 exact RK.eq rfl rfl
@[simp] def edc (i b t:Int):List AV:=[.int .i64 3,.int .i64 i,.int .i64 b,.int .i64 t,.int .i64 0,.int .i64 0,.int .i64 0,.int .i64 0,.int .i64 0,.int .i64 0,.int .i64 0,.int .i64 0,.int .i64 0,.int .i64 0,.int .i64 0,.int .i64 0,.int .i64 0]
@[simp] def encE3 (i b t:Int):AV:=.agg (edc i b t)
@[simp] def askc (p:Prg) (i b t:Int):List AV:=p.funsV :: edc i b t
noncomputable def Prg.isEdge (p:Prg) (i b t:Int):Bool:=decide (t ∈ ((p.blk i b).getD Blk.none).out)
theorem asked_edge (p:Prg) (i b t u:Int) (hp:p.Fit):Ret P (gl N) false 166 [.agg (askc p i b t),.int .i64 u] (.bool (p.isEdge i b u)):=by
 refine Ret.in c166 (by simp) ?_
 simp [k166]
 refine (prog_Block p i b hp).use (n:=9) (by simp [mapOpt,pict_stab p.funsS.stab]) (by simp [solids,AV.solid,p.funsS.solid]) ?_
 simp
 have hsm:((p.blk i b).getD Blk.none).out.length < 2 ^ 38:=by
  cases hb:p.blk i b with
  | none=>simp [Blk.none]
  | some y =>
   unfold Prg.blk at hb
   cases hf:p.fn i with
   | none=>rw [hf] at hb;cases hb
   | some f =>
    rw [hf] at hb
    have hb2:f.blk b=some y:=hb
    unfold Fun.blk at hb2
    split at hb2
    ·exact (fn_fit hp hf).out y (List.mem_of_getElem? hb2)
    ·cases hb2
 refine (slices_Contains (g:=gl N) _ u _ ((p.blk i b).getD Blk.none).outS (by omega)).use (n:=9) (by simp [mapOpt]) (by rfl) ?_
 simp
 exact RK.eq rfl rfl
theorem asked_block11 {p:Prg} {i b t j:Int} {S:St} {o:Nat} {K:AV→St→Prop} (hp:p.Fit) (ho:S.obj o=some (.row 18 [askc p i b t])) (hol:o < S.next) (hk:∀S',Up S S'→K (.bool (p.blk i j).isNone) S'):Cal P (gl N) 215 [.int .i64 j,.ptr o 0 0] S K:=by
 refine c215.in (by simp) ?_
 simp [k215,ho]
 refine (prog_Block p i j hp).use (n:=9) (by simp [mapOpt,pict_stab p.funsS.stab]) (by simp [solids,AV.solid,p.funsS.solid]) ?_
 simp
 exact hk _ ((Up.new _ _).put (Nat.le_refl _) _)
theorem ContainsFunc_own {fv:AV} {l:List Int} {o:Nat} {S:St} {K:AV→St→Prop} (ho:S.obj o=some (.row 1 (els intc l))) (hol:o < S.next) (hl:l.length < 2 ^ 40) (q:Int→Bool)
  (hq:∀x ∈ l,∀S',Up S S'→∀K':AV→St→Prop,(∀S'',Up S S''→K' (.bool (q x)) S'')→CalV P g fv [.int .i64 x] S' K') (hk:∀S',Up S S'→K (.bool (l.any q)) S'):Cal P g 137 [.sl 1 o 0 l.length,fv] S K:=by
 refine c137.in (by simp) ?_
 simp [k137]
 refine IndexFunc_own ho hol hl q hq fun S' hup=>?_
 simp
 rw [indexF_any]
 exact hk S' hup
theorem asked_block1 {p:Prg} {i b t:Int} {l:List Int} {v:AV} {S:St} {o q:Nat} {K:AV→St→Prop} (hp:p.Fit) (ho:S.obj o=some (.row 18 [askc p i b t])) (hol:o < S.next) (hq:S.obj q=some (.row 1 [[v]])) (hr:∃ r,v=.sl 1 r 0 l.length∧r < S.next∧S.obj r=some (.row 1 (els intc l))) (hl:l.length < 2 ^ 30)
  (hk:∀S',Up S S'→K (.bool (l.any fun j=>(p.blk i j).isNone)) S'):Cal P (gl N) 214 [.ptr q 0 0,.ptr o 0 0] S K:=by
 refine c214.in (by simp) ?_
 simp [k214,hq]
 obtain ⟨r,rfl,hrl,hr⟩:=hr
 refine ContainsFunc_own hr hrl (by omega) (fun j=>(p.blk i j).isNone) ?_ ?_
 ·intro j hj S' hup K' hk'
  exact asked_block11 hp (by rw [hup.2 o hol];exact ho) (by have:=hup.1;omega) fun S'' h2=>hk' S'' (hup.trans h2)
 ·intro S' hup
  simp
  have:=hk S' hup
  simpa using this
end Go.Proofs.YtbhkamemheaajaaGreatDoor.Vm
namespace Go.Proofs.YtbhkamemheaajaaGreatDoor.Vm
open Go Go.RowKit
set_option maxRecDepth 100000
variable {N:Nat} {g:Glob}
theorem edit_first2 {r f1 f2:Nat} {c1 c2:List AV} {e1 e2:Int} {q1 q2:Bool} {S:St} {K:AV→St→Prop} (hr:S.obj r=some (.row 2 [[.int .i64 e1,.func (.func f1) [] c1],[.int .i64 e2,.func (.func f2) [] c2]])) (hrl:r < S.next)
  (h1:∀S',Up S S'→∀K':AV→St→Prop,(∀S'',Up S' S''→K' (.bool q1) S'')→Cal P g f1 c1 S' K') (h2:∀S',Up S S'→∀K':AV→St→Prop,(∀S'',Up S' S''→K' (.bool q2) S'')→Cal P g f2 c2 S' K')
  (hk:∀S',Up S S'→K (.int .i64 (if q1 then e1 else if q2 then e2 else 0)) S'):Cal P g 159 [.sl 2 r 0 2] S K:=by
 refine c159.in (by simp) ?_
 have w1:IntKind.i64.wrap 1=1:=rfl
 have w2:IntKind.i64.wrap 2=2:=rfl
 simp [k159]
 refine W.whileI (fun (k:Nat) F S'=>k≤2∧F 5=.sl 2 r 0 2∧F 6=.int .i64 2∧F 7=.int .i64 k∧(0 < k→q1=false)∧(1 < k→q2=false)∧Up S S') (fun k=>2 - k) ?_ 0 _ _ ?_
 ·rintro k F S' ⟨hk',f5,f6,f7,hq1,hq2,hup⟩
  have hr':S'.obj r=some (.row 2 [[.int .i64 e1,.func (.func f1) [] c1],[.int .i64 e2,.func (.func f2) [] c2]]):=by rw [hup.2 r hrl];exact hr
  have hrn:r < S'.next:=by have:=hup.1;omega
  match k,hk' with
  | 0,_ =>
   have ix:pk (.indexAddr 2) [.sl 2 r 0 2,.int .i64 0]=some (.ptr r 0 0):=ix_sl (k:=0) (by omega)
   simp [f5,f6,f7,ix,hr',show ¬ r=S'.next by omega]
   refine h1 _ (hup.trans ((Up.new _ _).put (Nat.le_refl _) _)) _ fun S'' hup2=>?_
   simp
   have hup3:Up S S'':=hup.trans (((Up.new _ _).put (Nat.le_refl _) _).trans hup2)
   have hb:=hup2.2 S'.next (by simp)
   simp at hb
   cases q1 with
   | true=>simp [hb];simpa using hk S'' hup3
   | false =>
    simp [f5,f6,f7,w1]
    exact ⟨1,by omega,by omega,by omega,fun h=>absurd h (by omega),hup3⟩
  | 1,_ =>
   have hq:=hq1 (by omega)
   subst hq
   have ix:pk (.indexAddr 2) [.sl 2 r 0 2,.int .i64 1]=some (.ptr r 1 0):=ix_sl (k:=1) (by omega)
   have f7':F 7=.int .i64 1:=f7
   simp [f5,f6,f7',ix,hr',show ¬ r=S'.next by omega]
   refine h2 _ (hup.trans ((Up.new _ _).put (Nat.le_refl _) _)) _ fun S'' hup2=>?_
   simp
   have hup3:Up S S'':=hup.trans (((Up.new _ _).put (Nat.le_refl _) _).trans hup2)
   have hb:=hup2.2 S'.next (by simp)
   simp at hb
   cases q2 with
   | true=>simp [hb];simpa using hk S'' hup3
   | false =>
    have e2:IntKind.i64.wrap (1 + 1)=2:=rfl
    simp [f5,f6,f7',e2,w2]
    exact ⟨2,by omega,by omega,by omega,hup3⟩
  | 2,_ =>
   have hqa:=hq1 (by omega)
   have hqb:=hq2 (by omega)
   subst hqa hqb
   have f7':F 7=.int .i64 2:=f7
   simp [f6,f7']
   simpa using hk S' hup
 ·simp
  exact Up.refl S
theorem asked_block {p:Prg} {i b t:Int} {r:Nat} {S:St} {K:AV→St→Prop}
  (hk:∀S' q o,Up S S'→q < S'.next→o < S'.next→S'.obj q=some (.row 1 [[.sl 1 r 0 2]])→S'.obj o=some (.row 18 [askc p i b t])→K (.agg [.int .i64 2,.func (.func 214) [] [.ptr q 0 0,.ptr o 0 0]]) S'):Cal P g 163 [.agg (askc p i b t),.sl 1 r 0 2] S K:=by
 refine c163.in (by simp) ?_
 simp [k163]
 have e1:¬ S.next=S.next + 1 + 1:=by omega
 have e2:¬ S.next + 1=S.next + 1 + 1:=by omega
 refine hk _ (S.next + 1) S.next ((((Up.new _ _).more _).more _).put (by first | omega | (simp;omega)) _) ?_ ?_ ?_ ?_
 ·simp only [set_next,new_next];omega
 ·simp only [set_next,new_next];omega
 ·simp [e1,e2]
 ·simp [e1,e2]
theorem other3 {p:Prg} {i b t:Int} {o e:Nat} {S:St} {K:AV→St→Prop} (hp:p.Fit) (ho:S.obj o=some (.row 18 [askc p i b t])) (he:S.obj e=some (.row 17 [edc i b t])) (hk:∀S',Up S S'→K (.bool (p.isEdge i b t)) S'):Cal P (gl N) 165 [.ptr o 0 0,.ptr e 0 0] S K:=by
 refine c165.in (by simp) ?_
 simp [k165,ho,he]
 refine (asked_edge p i b t t hp).use (n:=9) (by simp [mapOpt,pict_stab p.funsS.stab]) (by simp [solids,AV.solid,p.funsS.solid]) ?_
 simp
 exact hk S (Up.refl S)
noncomputable def Prg.chkE (p:Prg) (i b t:Int):Int:=if ((p.blk i b).isNone || (p.blk i t).isNone)=true then 2 else if p.isEdge i b t=true then 5 else 0
theorem asked_other (p:Prg) (i b t:Int) (hp:p.Fit):Ret P (gl N) false 112 [.agg (askc p i b t)] (.int .i64 (p.chkE i b t)):=by
 refine Ret.in c112 (by simp) ?_
 simp [k112]
 refine asked_block (p:=p) (i:=i) (b:=b) (t:=t) fun S1 q o hup hq ho h1 h2=>?_
 have n1:=hup.1
 simp at n1
 have s0:=hup.2 0 (by simp)
 have s1:=hup.2 1 (by simp)
 have s2:=hup.2 2 (by simp)
 simp at s0 s1 s2
 simp
 refine edit_first2 (r:=S1.next) (f1:=214) (f2:=165) (c1:=[.ptr q 0 0,.ptr o 0 0]) (c2:=[.ptr 0 0 0,.ptr 1 0 0]) (e1:=2) (e2:=5) (q1:=[b,t].any fun j=>(p.blk i j).isNone) (q2:=p.isEdge i b t) (by simp) (by simp) ?_ ?_ ?_
 ·intro S' hup2 K' hK'
  have n2:=hup2.1
  simp at n2
  have g0:=hup2.2 o (by simp;omega)
  have g1:=hup2.2 q (by simp;omega)
  have g2:=hup2.2 2 (by simp;omega)
  simp [show ¬ o=S1.next by omega,show ¬ q=S1.next by omega,show ¬ 2=S1.next by omega,h1,h2,s2] at g0 g1 g2
  exact asked_block1 (l:=[b,t]) hp g0 (by omega) g1 ⟨2,rfl,by omega,by rw [g2];simp [els,intc]⟩ (by simp) fun S'' hup3=>hK' S'' hup3
 ·intro S' hup2 K' hK'
  have n2:=hup2.1
  simp at n2
  have g0:=hup2.2 0 (by first | (simp;done) | (simp;omega))
  have g1:=hup2.2 1 (by first | (simp;done) | (simp;omega))
  simp [show ¬ 0=S1.next by omega,show ¬ 1=S1.next by omega,s0,s1] at g0 g1
  exact other3 (p:=p) (i:=i) (b:=b) (t:=t) hp g0 g1 fun S'' hup3=>hK' S'' hup3
 ·intro S' hup2
  simp
  exact RK.eq (by simp [Prg.chkE]) rfl
noncomputable def Prg.chk (p:Prg) (i b t:Int):Int:=if p.sane=true then (if 0≤i∧i < p.funs.length then p.chkE i b t else 1) else 11
theorem edit_Check (p:Prg) (i b t:Int) (hp:p.Fit):Ret P (gl N) false 73 [encP p,encE3 i b t] (.int .i64 (p.chk i b t)):=by
 refine Ret.in c73 (by simp) ?_
 simp [k73]
 refine (prog_Sane p hp).use (n:=9) (by simp [mapOpt,pict_stab p.funsS.stab]) (by simp [solids,AV.solid,p.funsS.solid]) ?_
 cases hs:p.sane with
 | false =>
  simp
  exact RK.eq (by simp [Prg.chk,hs]) rfl
 | true =>
  simp
  refine edit_Name3.use (n:=9) (by simp [mapOpt]) (by rfl) ?_
  have hne:sEq (bs [97,100,100,101,100,103,101]) (bs [])=false:=by rw [sEq_bs];decide
  simp [hne]
  by_cases h0:i < 0
  ·simp [h0]
   exact RK.eq (by simp [Prg.chk,hs];omega) rfl
  ·by_cases h1:i < p.funs.length
   ·simp [h0,show ¬ (p.funs.length:Int)≤i by omega]
    refine (asked_other p i b t hp).use (n:=9) (by simp [mapOpt,pict_stab p.funsS.stab]) (by simp [solids,AV.solid,p.funsS.solid]) ?_
    simp
    exact RK.eq (by simp [Prg.chk,hs,show 0≤i by omega,h1]) rfl
   ·simp [h0,show (p.funs.length:Int)≤i by omega]
    exact RK.eq (by simp [Prg.chk,hs];omega) rfl
end Go.Proofs.YtbhkamemheaajaaGreatDoor.Vm
namespace Go.Proofs.YtbhkamemheaajaaGreatDoor.Vm
open Go Go.RowKit
variable {N:Nat} {g:Glob}
def lessL (l:List Int) (n:Int):Nat:=(l.takeWhile fun x=>decide (x < n)).length
theorem lessL_of:∀{l:List Int} {n:Int} {k:Nat},k≤l.length→(∀j x,j < k→l[j]?=some x→x < n)→(∀x,l[k]?=some x→n≤x)→lessL l n=k
 | [],n,k,hk,_,_=>by simp at hk;subst hk;rfl
 | y :: l,n,0,hk,h1,h2=>by
  have:=h2 y (by simp)
  simp [lessL,List.takeWhile_cons,show ¬ y < n by omega]
 | y :: l,n,k + 1,hk,h1,h2=>by
  have h3:=h1 0 y (by omega) (by simp)
  have ih:=lessL_of (l:=l) (n:=n) (k:=k) (by simpa using hk) (fun j x hj hx=>h1 (j + 1) x (by omega) (by simpa using hx)) (fun x hx=>h2 x (by simpa using hx))
  unfold lessL at ih ⊢
  rw [List.takeWhile_cons,if_pos (by simpa using h3),List.length_cons,ih]
theorem lessL_le (l:List Int) (n:Int):lessL l n≤l.length:=(List.takeWhile_sublist _).length_le
def oneMore (l:List Int) (n:Int):List Int:=l.take (lessL l n) ++ n :: l.drop (lessL l n)
theorem oneMore_cons (y:Int) (l:List Int) (n:Int):oneMore (y :: l) n=if y < n then y :: oneMore l n else n :: y :: l:=by
 unfold oneMore lessL
 by_cases h:y < n
 ·simp [List.takeWhile_cons,h]
 ·simp [List.takeWhile_cons,h]
theorem oneMore_mem {l:List Int} {n x:Int}:x ∈ oneMore l n ↔ x=n ∨ x ∈ l:=by
 induction l with
 | nil=>simp [oneMore]
 | cons y l ih =>
  rw [oneMore_cons]
  split
  ·simp only [List.mem_cons,ih]
   constructor
   ·rintro (h | h | h)
    ·exact .inr (.inl h)
    ·exact .inl h
    ·exact .inr (.inr h)
   ·rintro (h | h | h)
    ·exact .inr (.inl h)
    ·exact .inl h
    ·exact .inr (.inr h)
  ·simp
theorem oneMore_len (l:List Int) (n:Int):(oneMore l n).length=l.length + 1:=by
 have:=lessL_le l n
 simp [oneMore];omega
theorem rises_pw {l:List Int}:rises l=true ↔ l.Pairwise (· < ·):=by
 unfold rises
 rw [decide_eq_true_eq]
 constructor
 ·intro h
  rw [List.pairwise_iff_getElem]
  intro i j hi hj hij
  induction j with
  | zero=>omega
  | succ j ih =>
   have h1:=h j l[j] l[j + 1] (by omega) (List.getElem?_eq_getElem (by omega)) (List.getElem?_eq_getElem (by omega))
   by_cases he:i=j
   ·subst he;exact h1
   ·have:=ih (by omega) (by omega)
    omega
 ·intro h j x y hj hx hy
  rw [List.pairwise_iff_getElem] at h
  obtain ⟨hx1,hx2⟩:=List.getElem?_eq_some_iff.1 hx
  obtain ⟨hy1,hy2⟩:=List.getElem?_eq_some_iff.1 hy
  rw [← hx2,← hy2]
  exact h j (j + 1) hx1 hy1 (by omega)
theorem oneMore_pw {n:Int}:∀{l:List Int},l.Pairwise (· < ·)→n ∉ l→(oneMore l n).Pairwise (· < ·)
 | [],_,_=>by simp [oneMore]
 | y :: l,h,hn=>by
  rw [List.pairwise_cons] at h
  rw [oneMore_cons]
  have hyn:y ≠ n:=fun e=>hn (by simp [e])
  split
  ·rename_i hlt
   rw [List.pairwise_cons]
   refine ⟨fun x hx=>?_,oneMore_pw h.2 fun h'=>hn (by simp [h'])⟩
   rcases oneMore_mem.1 hx with rfl | hx
   ·exact hlt
   ·exact h.1 x hx
  ·rename_i hlt
   rw [List.pairwise_cons,List.pairwise_cons]
   refine ⟨fun x hx=>?_,h⟩
   rcases List.mem_cons.1 hx with rfl | hx
   ·omega
   ·have:=h.1 x hx;omega
theorem rises_ins {l:List Int} {n:Int} (h:rises l=true) (hn:n ∉ l):rises (oneMore l n)=true:=rises_pw.2 (oneMore_pw (rises_pw.1 h) hn)
def Blk.nrm (y:Blk):Blk:={ y with insZ:=true,outZ:=true }
def Blk.wide (y:Blk) (t:Int):Blk:={ y with insZ:=true,out:=oneMore y.out t,outZ:=true }
def Fun.edge (f:Fun) (b:Nat) (t:Int):Fun:=⟨f.par,f.vars,match f.blks[b]? with | some y=>(f.blks.map Blk.nrm).set b (y.wide t) | none=>f.blks.map Blk.nrm,false⟩
def Prg.edge (p:Prg) (i b:Nat) (t:Int):Prg:=⟨match p.funs[i]? with | some f=>p.funs.set i (f.edge b t) | none=>p.funs,false⟩
section
variable {p:Prg} {f:Fun} {i b:Nat} {t:Int} {y:Blk}
theorem edge_blks (hy:f.blks[b]?=some y):(f.edge b t).blks=(f.blks.map Blk.nrm).set b (y.wide t):=by unfold Fun.edge;rw [hy]
theorem edge_len (hy:f.blks[b]?=some y):(f.edge b t).blks.length=f.blks.length:=by rw [edge_blks hy];simp
theorem edge_at (hy:f.blks[b]?=some y) (k:Nat):(f.edge b t).blks[k]?=if k=b then some (y.wide t) else f.blks[k]?.map Blk.nrm:=by
 have hb:=(List.getElem?_eq_some_iff.1 hy).1
 rw [edge_blks hy]
 by_cases h:k=b
 ·subst h
  rw [if_pos rfl,List.getElem?_set_self (by simpa using hb)]
 ·rw [if_neg h,List.getElem?_set_ne (Ne.symm h),List.getElem?_map]
theorem edge_code (hy:f.blks[b]?=some y) (k:Nat):(f.edge b t).code k=f.code k:=by
 unfold Fun.code
 rw [edge_at hy]
 by_cases h:k=b
 ·subst h;rw [if_pos rfl,hy];rfl
 ·rw [if_neg h]
  cases f.blks[k]? <;> rfl
theorem edge_outs (hy:f.blks[b]?=some y) (k:Nat):(f.edge b t).outs k=if k=b then oneMore y.out t else f.outs k:=by
 unfold Fun.outs
 rw [edge_at hy]
 by_cases h:k=b
 ·subst h;rw [if_pos rfl,if_pos rfl];rfl
 ·rw [if_neg h,if_neg h]
  cases f.blks[k]? <;> rfl
theorem edge_on (hy:f.blks[b]?=some y) (k:Nat):((f.edge b t).blks[k]?).map Blk.on=(f.blks[k]?).map Blk.on:=by
 rw [edge_at hy]
 by_cases h:k=b
 ·subst h;rw [if_pos rfl,hy];rfl
 ·rw [if_neg h]
  cases f.blks[k]? <;> rfl
theorem edge_live (hy:f.blks[b]?=some y) (j:Int):(f.edge b t).live j=f.live j:=by
 have h:=edge_on (t:=t) hy j.toNat
 unfold Fun.live
 cases h1:f.blks[j.toNat]? with
 | none =>
  rw [h1] at h
  cases h2:(f.edge b t).blks[j.toNat]? with
  | none=>rfl
  | some z=>rw [h2] at h;cases h
 | some x =>
  rw [h1] at h
  cases h2:(f.edge b t).blks[j.toNat]? with
  | none=>rw [h2] at h;cases h
  | some z =>
   rw [h2] at h
   have:z.on=x.on:=Option.some.inj h
   simp only [this]
theorem edge_onAt (hy:f.blks[b]?=some y) (k:Nat):(f.edge b t).onAt k=f.onAt k:=by
 have h:=edge_on (t:=t) hy k
 unfold Fun.onAt
 cases h1:f.blks[k]? with
 | none =>
  rw [h1] at h
  cases h2:(f.edge b t).blks[k]? with
  | none=>rfl
  | some z=>rw [h2] at h;cases h
 | some x =>
  rw [h1] at h
  cases h2:(f.edge b t).blks[k]? with
  | none=>rw [h2] at h;cases h
  | some z =>
   rw [h2] at h
   have:z.on=x.on:=Option.some.inj h
   simp only [this]
theorem pedge_funs (hf:p.funs[i]?=some f):(p.edge i b t).funs=p.funs.set i (f.edge b t):=by unfold Prg.edge;rw [hf]
theorem pedge_at (hf:p.funs[i]?=some f) (k:Nat):(p.edge i b t).funs[k]?=if k=i then some (f.edge b t) else p.funs[k]?:=by
 have hi:=(List.getElem?_eq_some_iff.1 hf).1
 rw [pedge_funs hf]
 by_cases h:k=i
 ·subst h;rw [if_pos rfl,List.getElem?_set_self hi]
 ·rw [if_neg h,List.getElem?_set_ne (Ne.symm h)]
theorem pedge_insOK (hf:p.funs[i]?=some f) {h h':Fun} (hv:h'.vars=h.vars) (x:Ins):(p.edge i b t).insOK h' x=p.insOK h x:=by
 unfold Prg.insOK
 rw [pedge_at hf,hv]
 by_cases hk:x.f.toNat=i
 ·rw [if_pos hk,hk,hf];rfl
 ·rw [if_neg hk]
theorem pedge_blkMsg (hf:p.funs[i]?=some f) {h h':Fun} (hv:h'.vars=h.vars) (hlv:∀j,h'.live j=h.live j) {x x':Blk} (h1:x'.on=x.on) (h2:x'.ins=x.ins) (h3:x'.out=x.out):(p.edge i b t).blkMsg h' x'=p.blkMsg h x:=by
 unfold Prg.blkMsg
 have e1:(x'.out.any fun z=>!h'.live z)=x.out.any fun z=>!h.live z:=by
  rw [h3];congr 1;funext z;rw [hlv]
 have e2:(x'.ins.any fun z=>!(p.edge i b t).insOK h' z)=x.ins.any fun z=>!p.insOK h z:=by
  rw [h2];congr 1;funext z;rw [pedge_insOK hf hv]
 rw [e1,e2,h1,h2,h3]
theorem firstMsg_nil {p:Prg} {f:Fun}:∀{l:List Blk},(∀b ∈ l,p.blkMsg f b=[])→firstMsg p f l=[]
 | [],_=>rfl
 | c :: l,h=>by
  rw [firstMsg,if_pos (h c (by simp))]
  exact firstMsg_nil fun b hb=>h b (by simp [hb])
theorem FunOK.funMsg {p:Prg} {f:Fun} (h:FunOK p f):p.funMsg f=[]:=by
 unfold Prg.funMsg
 rw [if_neg (by simpa using h.vars),if_neg (by simpa using h.blks)]
 exact firstMsg_nil h.msg
theorem pedge_ok (hf:p.funs[i]?=some f) (hok:FunOK p f) (hy:f.blks[b]?=some y) (hon:y.on=true) (hl:f.live t=true) (hn:t ∉ y.out):FunOK (p.edge i b t) (f.edge b t):=by
 refine ⟨hok.vars,⟨by rw [edge_len hy];exact hok.blks.1,by rw [edge_len hy];exact hok.blks.2.1,by rw [edge_onAt hy];exact hok.blks.2.2.1,by rw [edge_len hy,edge_onAt hy];exact hok.blks.2.2.2⟩,fun z hz=>?_⟩
 obtain ⟨k,hk⟩:=List.getElem?_of_mem hz
 rw [edge_at hy] at hk
 by_cases h:k=b
 ·rw [if_pos h] at hk
  cases hk
  have h1:=hok.blk (List.mem_of_getElem? hy)
  unfold Prg.blkMsg
  have r1:rises (oneMore y.out t)=true:=rises_ins h1.2.1 hn
  have r2:((oneMore y.out t).any fun x=>!(f.edge b t).live x)=false:=by
   rw [List.any_eq_false]
   intro x hx
   rw [edge_live hy]
   rcases oneMore_mem.1 hx with rfl | hx
   ·simp [hl]
   ·simp [h1.2.2.1 x hx]
  have r3:(y.ins.any fun z=>!(p.edge i b t).insOK (f.edge b t) z)=false:=by
   rw [List.any_eq_false]
   intro x hx
   rw [pedge_insOK (h:=f) (h':=f.edge b t) hf rfl]
   simp [h1.2.2.2.2 x hx]
  have o1:(y.wide t).on=true:=hon
  have o2:(y.wide t).ins=y.ins:=rfl
  have o3:(y.wide t).out=oneMore y.out t:=rfl
  have:=h1.2.2.2.1
  simp [o1,o2,o3,r1,r2,r3]
  omega
 ·rw [if_neg h] at hk
  cases hx:f.blks[k]? with
  | none=>rw [hx] at hk;cases hk
  | some x =>
   rw [hx] at hk
   have hk:x.nrm=z:=Option.some.inj hk
   subst hk
   rw [pedge_blkMsg (h:=f) (h':=f.edge b t) (x:=x) (x':=x.nrm) hf rfl (fun j=>edge_live hy j) rfl rfl rfl]
   exact hok.msg x (List.mem_of_getElem? hx)
theorem edge_ids (hy:f.blks[b]?=some y):(f.edge b t).ids=f.ids:=by
 unfold Fun.ids
 congr 1
 refine List.ext_getElem? fun k=>?_
 rw [List.getElem?_map,List.getElem?_map,edge_at hy]
 by_cases h:k=b
 ·subst h;rw [if_pos rfl,hy];rfl
 ·rw [if_neg h]
  cases f.blks[k]? <;> rfl
theorem pedge_sane (hs:p.sane=true) (hf:p.funs[i]?=some f) (hy:f.blks[b]?=some y) (hon:y.on=true) (hl:f.live t=true) (hn:t ∉ y.out):(p.edge i b t).sane=true:=by
 obtain ⟨h1,h2,h3⟩:=Prg.sane_iff.1 hs
 have hok:=sane_ok hs (List.mem_of_getElem? hf)
 refine Prg.sane_iff.2 ⟨by rw [pedge_funs hf];simpa using h1,fun z hz=>?_,?_⟩
 ·obtain ⟨k,hk⟩:=List.getElem?_of_mem hz
  rw [pedge_at hf] at hk
  by_cases h:k=i
  ·rw [if_pos h] at hk
   cases hk
   exact (pedge_ok hf hok hy hon hl hn).funMsg
  ·rw [if_neg h] at hk
   have hzk:=sane_ok hs (List.mem_of_getElem? hk)
   refine FunOK.funMsg ⟨hzk.vars,hzk.blks,fun x hx=>?_⟩
   rw [pedge_blkMsg (h:=z) (x:=x) hf rfl (fun j=>rfl) rfl rfl rfl]
   exact hzk.msg x hx
 ·have:(p.edge i b t).ids=p.ids:=by
   unfold Prg.ids
   congr 1
   refine List.ext_getElem? fun k=>?_
   rw [List.getElem?_map,List.getElem?_map,pedge_at hf]
   by_cases h:k=i
   ·subst h;rw [if_pos rfl,hf]
    show some (f.edge b t).ids=some f.ids
    rw [edge_ids hy]
   ·rw [if_neg h]
  rw [this];exact h3
theorem pedge_fn (hs:p.sane=true) (hf:p.funs[i]?=some f) (hy:f.blks[b]?=some y) (hon:y.on=true) (hl:f.live t=true) (hn:t ∉ y.out):(p.edge i b t).fn (i:Int)=some (f.edge b t):=by
 unfold Prg.fn
 rw [if_pos ⟨by omega,pedge_sane hs hf hy hon hl hn⟩,Int.toNat_natCast,pedge_at hf,if_pos rfl]
theorem edge_preds (hy:f.blks[b]?=some y) (k:Int):(f.preds k).Sublist ((f.edge b t).preds k):=by
 unfold Fun.preds Fun.predsTo
 rw [edge_len hy]
 refine List.Sublist.map _ ?_
 have:∀l:List Nat,(l.filter fun j=>decide (k ∈ f.outs j)).Sublist (l.filter fun j=>decide (k ∈ (f.edge b t).outs j)):=by
  intro l
  induction l with
  | nil=>exact .slnil
  | cons a l ih =>
   have himp:k ∈ f.outs a→k ∈ (f.edge b t).outs a:=by
    intro h
    rw [edge_outs hy]
    split
    ·rename_i e
     subst e
     have:f.outs a=y.out:=by simp [Fun.outs,hy]
     rw [this] at h
     exact oneMore_mem.2 (.inr h)
    ·exact h
   simp only [List.filter_cons]
   by_cases h1:k ∈ f.outs a
   ·simp only [h1,himp h1,decide_true,if_true]
    exact ih.cons_cons a
   ·by_cases h2:k ∈ (f.edge b t).outs a
    ·simp only [h1,h2,decide_true,decide_false,if_true]
     exact ih.cons a
    ·simp only [h1,h2,decide_false]
     exact ih
 exact this _
theorem fold_sub {n:Nat} {h:Int→Env} (hh:∀j,(h j).fit n) {m m':List Int} (hs:m.Sublist m'):∀{e e':Env},e.fit n→e'.fit n→e.le e'→(m.foldl (fun e j=>e.join (h j)) e).le (m'.foldl (fun e j=>e.join (h j)) e'):=by
 induction hs with
 | slnil=>intro e e' _ _ hee;exact hee
 | cons a _ ih =>
  intro e e' he he' hee
  rw [List.foldl_cons]
  have hj:=Env.join_fit he' (hh a)
  exact ih he hj (Env.le_trans he' hj hee (Env.le_join_l he' (hh a)) he)
 | cons_cons a _ ih =>
  intro e e' he he' hee
  rw [List.foldl_cons,List.foldl_cons]
  exact ih (Env.join_fit he (hh a)) (Env.join_fit he' (hh a)) (Env.join_mono he (hh a) he' (hh a) hee (Env.le_refl _))
theorem edge_cev (hy:f.blks[b]?=some y) {x:List Env} (hx:∀e ∈ x,Env.fit f.wid e) (k:Nat):(f.cev x k).le ((f.edge b t).cev x k):=by
 unfold Fun.cev Fun.cevTo
 have e1:(fun (e:Env) (j:Int)=>e.join (pastL (x.getD j.toNat Option.none) ((f.edge b t).code j.toNat)))=fun e j=>e.join (pastL (x.getD j.toNat Option.none) (f.code j.toNat)):=by
  funext e j;rw [edge_code hy]
 rw [e1]
 exact fold_sub (fun j=>pastL_fit (at_fit hx _)) (edge_preds hy _) (f.cev_first k) (f.cev_first k) (Env.le_refl _)
theorem edge_cin (hy:f.blks[b]?=some y) (k:Nat) {a c:Env} (ha:f.cin[k]?=some a) (hc:(f.edge b t).cin[k]?=some c):a.le c:=by
 have hl:=(f.edge b t).cin_least
 have hfit:=hl.fit
 have hpost:f.csys.Post (f.edge b t).cin:=by
  refine ⟨⟨?_,fun e he=>hfit.ok e he⟩,fun j e he=>?_⟩
  ·show (f.edge b t).cin.length=f.blks.length
   rw [Fun.cin_len,edge_len hy]
  ·have h1:e=(f.edge b t).cev (f.edge b t).cin j:=hl.fix j e he
   have h2:=edge_cev (f:=f) (t:=t) hy (x:=(f.edge b t).cin) (fun e he=>hfit.ok e he) j
   show (f.cev (f.edge b t).cin j).le e
   rw [h1]
   exact h2
 exact f.cin_least.low _ hpost k a c ha hc
end
end Go.Proofs.YtbhkamemheaajaaGreatDoor.Vm
namespace Go.Proofs.YtbhkamemheaajaaGreatDoor.Vm
open Go Go.RowKit
set_option maxRecDepth 100000
variable {N:Nat} {g:Glob}
theorem cmp_Less (a b:Int):Ret P g false 151 [.int .i64 a,.int .i64 b] (.bool (decide (a < b))):=by
 refine Ret.in c151 (by simp) ?_
 simp [k151]
 refine (show Ret P g false 207 [.int .i64 a] (.bool false) from ?_).use (n:=9) (by simp [mapOpt]) rfl ?_
 ·refine Ret.in c207 (by simp) ?_
  simp [k207]
  exact RK.eq rfl rfl
 ·simp
  exact RK.eq rfl rfl
theorem rises_lt {l:List Int} (h:rises l=true):∀{i j:Nat} {x y:Int},i < j→l[i]?=some x→l[j]?=some y→x < y:=by
 have hr:risesTo l l.length:=by simpa [rises] using h
 intro i j x y hij hx hy
 induction j generalizing y with
 | zero=>omega
 | succ j ih =>
  have hj:=(List.getElem?_eq_some_iff.1 hy).1
  have h1:=hr j l[j] y (by omega) (List.getElem?_eq_getElem (by omega)) hy
  by_cases he:i=j
  ·subst he
   rw [List.getElem?_eq_getElem (by omega)] at hx
   cases hx;exact h1
  ·have:=ih (y:=l[j]) (by omega) (List.getElem?_eq_getElem (by omega))
   omega
theorem slices_BinarySearch {l:List Int} {v:AV} (hv:FSl intc 1 v l) (n:Int) (hr:rises l=true) (hl:l.length < 2 ^ 40):Ret P g false 174 [v,.int .i64 n] (.tuple [.int .i64 (lessL l n:Nat),.bool (decide (l[lessL l n]?=some n))]):=by
 refine Ret.in c174 (by simp) ?_
 simp [k174,hv.len]
 refine W.whileI (fun (z:Nat × Nat) F S=>z.1≤z.2∧z.2≤l.length∧F 0=v∧F 1=.int .i64 n∧F 6=.int .i64 l.length∧F 7=.int .i64 z.1∧F 8=.int .i64 z.2∧(∀j x,j < z.1→l[j]?=some x→x < n)∧(∀j x,z.2≤j→l[j]?=some x→n≤x)) (fun z=>z.2 - z.1) ?_ (0,l.length) _ _ ?_
 ·rintro ⟨a,b⟩ F S ⟨hab,hbl,f0,f1,f6,f7,f8,hlo,hhi⟩
  simp only at hab hbl f7 f8 hlo hhi
  by_cases hlt:a < b
  ·have hm:(a + b) / 2 < l.length:=by omega
   obtain ⟨x,hx⟩:∃ x,l[(a + b) / 2]?=some x:=⟨_,List.getElem?_eq_getElem hm⟩
   have e1:IntKind.i64.wrap ((a:Int) + b)=((a + b:Nat):Int):=by rw [wrap_in (by omega)];omega
   have e2:IntKind.u64.wrap ((a + b:Nat):Int)=((a + b:Nat):Int):=u64_in (by omega)
   have e3:ishift .shr .u64 ((a + b:Nat):Int) 1=some (.int .u64 (((a + b) / 2:Nat):Int)):=by
    have:=u64shift (a + b) 1 (by omega) (by omega)
    rw [Nat.shiftRight_eq_div_pow] at this
    simpa using this
   have e4:IntKind.i64.wrap (((a + b) / 2:Nat):Int)=(((a + b) / 2:Nat):Int):=by rw [wrap_in (by omega)]
   have e5:IntKind.i64.wrap ((((a + b) / 2:Nat):Int) + 1)=(((a + b) / 2 + 1:Nat):Int):=by rw [wrap_in (by omega)];omega
   have hix:=hv.idx hx
   generalize hmid:(a + b) / 2=m at *
   simp only [Int.natCast_add] at e1 e2 e3
   simp [f7,f8,hlt]
   simp [f7,f8,e1,e2,e3,e4,f0,f1,hix,intc]
   refine (cmp_Less x n).use (n:=9) (by simp [mapOpt]) rfl ?_
   simp
   by_cases h:x < n <;> simp [h,e5,f0,f1,f6,f7,f8]
   ·refine ⟨m + 1,b,by omega,⟨by omega,by omega,rfl,rfl,?_,hhi⟩⟩
    intro j y hj hy
    by_cases hjm:j=m
    ·subst hjm;rw [hx] at hy;cases hy;exact h
    ·have:=rises_lt hr (show j < m by omega) hy hx
     omega
   ·refine ⟨a,m,by omega,⟨by omega,by omega,rfl,rfl,hlo,?_⟩⟩
    intro j y hj hy
    by_cases hjm:j=m
    ·subst hjm;rw [hx] at hy;cases hy;omega
    ·have:=rises_lt hr (show m < j by omega) hx hy
     omega
  ·have hab':a=b:=by omega
   subst hab'
   have hles:lessL l n=a:=lessL_of hbl hlo fun x hx=>hhi a x (Nat.le_refl _) hx
   rw [hles]
   simp [f7,f8]
   by_cases hal:a < l.length
   ·obtain ⟨x,hx⟩:∃ x,l[a]?=some x:=⟨_,List.getElem?_eq_getElem hal⟩
    have hget:l[a]=x:=by rw [List.getElem?_eq_getElem hal] at hx;exact Option.some.inj hx
    have hn:=(show Ret P g false 224 [.int .i64 x] (.bool false) from by
     refine Ret.in c224 (by simp) ?_
     simp [k224]
     exact RK.eq rfl rfl)
    by_cases hxn:x=n
    ·subst hxn
     simp [f6,f7,f0,f1,hal,hv.idx hx,intc,hx,hget]
     exact ⟨9,by simp [mapOpt]⟩
    ·simp [f6,f7,f0,f1,hal,hv.idx hx,intc,hx,hget,hxn]
     refine hn.use (n:=9) (by simp [mapOpt]) rfl ?_
     simp
     exact ⟨9,by simp [mapOpt]⟩
   ·simp [f6,f7,f0,f1,hal,show ¬ (a:Int) < l.length by omega,List.getElem?_eq_none (show l.length≤a by omega)]
    exact ⟨9,by simp [mapOpt]⟩
 ·simp
  refine fun j x h=>?_
  have:=List.getElem?_eq_none (l:=l) h
  simp [this]
end Go.Proofs.YtbhkamemheaajaaGreatDoor.Vm
namespace Go.Proofs.YtbhkamemheaajaaGreatDoor.Vm
open Go Go.RowKit Go.Lib
set_option maxRecDepth 100000
variable {N:Nat} {g:Glob}
theorem i3_size:(P.info? 3).map (fun i=>(i.size,i.bytes))=some (1,8):=by kernel_rfl
theorem i3_zero:(P.info? 3).bind (fun i=>i.zero)=some (.int .i64 0):=by kernel_rfl
theorem rel_none {w:World} {av:Nat→Prop}:Rel ⟨w,w.heap.size,av,fun _=>none,St.empty⟩:=by
 refine ⟨?_,?_,?_,?_,?_,Nat.le_refl _⟩
 ·intro o x h;cases h
 ·intro o o' l l' x x' h;cases h
 ·intro o x h;cases h
 ·intro o l h;cases h
 ·intro o x l h;cases h
theorem slices_Grow_nil (n:Nat) (hn:0 < n) (hb:n < 2 ^ 30):Own P g 225 [.nilsl,.int .i64 (n:Int)] (.sl 1 0 0 0) (St.ofL [.row 1 []]):=by
 refine ⟨c225.call,?_⟩
 intro w av vs xs hG hvs hz
 subst hz
 cases hvs with
 | cons v x vs xs hv hvs =>
 cases hvs with
 | cons v2 x2 vs xs hv2 hvs =>
 cases hvs
 have:=hv2.int_inv;subst this
 obtain ⟨a,rfl⟩:∃ a,v=.slice a 0 0:=by cases hv;exact ⟨_,rfl⟩
 obtain ⟨i0,hi0,hs,hby⟩:∃ i0,P.info? 3=some i0∧i0.size=1∧i0.bytes=8:=by
  have h:=i3_size
  cases h2:P.info? 3 with
  | none=>rw [h2] at h;cases h
  | some i0 =>
   rw [h2] at h
   have h:=Option.some.inj h
   exact ⟨i0,rfl,congrArg Prod.fst h,congrArg Prod.snd h⟩
 have hz0:i0.zero=some (.int .i64 0):=by have h:=i3_zero;rw [hi0] at h;exact h
 refine Calls.mono (Any8.slices_Grow_grow Tryz.lays8_4 i0 (.int .i64 0) hi0 hz0 (by omega) a 0 0 n [] w (Nat.le_refl _) (by omega) (by rw [hby];omega) (by omega) (by simp) (fun _=>rfl) (fun b _ j u h=>by simp at h)) ?_
 rintro e w' ⟨rfl,rfl⟩
 have hge:=grownCap_ge w (0 + n) 0 3
 obtain ⟨arr,harr⟩:∃ arr,arr=([]:List Value).toArray ++ Builtin.zeroCells (Value.int .i64 0).cells (0 + n - 0) ++ Builtin.zeroCells (Value.int .i64 0).cells (grownCap w (0 + n) 0 3 - (0 + n)):=⟨_,rfl⟩
 have hsz:arr.size=grownCap w (0 + n) 0 3:=by
  rw [harr]
  simp only [Array.size_append,size_zeroCells]
  have:(Value.int .i64 0).cells.size=1:=rfl
  rw [this]
  simp only [Nat.zero_add] at hge ⊢
  simp;omega
 have hR:Rel ⟨w,w.heap.size,av,fun _=>none,St.empty⟩:=rel_none
 have hRd:=rel_drew hR
 have hM:=rel_made hRd (.cells arr 3 (0,0)) (.row 1 []) 1 (obj_made hRd arr 3 1 [] (by omega) (by simp) (by simp) (vs:=[]) (by simp) .nil)
 have hS:((Ctx.drew ⟨w,w.heap.size,av,fun _=>none,St.empty⟩).made (.cells arr 3 (0,0)) (.row 1 []) 1).S=St.ofL [.row 1 []]:=by
  refine congrArg (St.mk 1) (funext fun q=>?_)
  cases q with
  | zero=>rfl
  | succ q=>rfl
 have hE:(Ctx.drew ⟨w,w.heap.size,av,fun _=>none,St.empty⟩).made (.cells arr 3 (0,0)) (.row 1 []) 1=⟨w.drew.alloc (.cells arr 3 (0,0)),w.heap.size,av,fun q=>if q=0 then some ⟨w.heap.size,0,1⟩ else none,St.ofL [.row 1 []]⟩:=by
  rw [← hS];rfl
 rw [hE] at hM
 have hG3:Tryz.lays8_4_ren.t 25=3:=rfl
 rw [hG3,← harr]
 refine ⟨_,.sl 1 0 0 0,St.ofL [.row 1 []],fun q=>if q=0 then some ⟨w.heap.size,0,1⟩ else none,rfl,⟨⟨rfl,rfl⟩,rfl,?_⟩,?_,hM,?_⟩
 ·intro o x h
  cases o with
  | zero=>cases h;rfl
  | succ o=>cases h
 ·exact ((⟨rfl,rfl,rfl,Nat.le_refl _,fun _ _=>rfl⟩:Below w.heap.size w w.drew)).alloc (Nat.le_refl _) _
 ·have:=VR.sl (C:=⟨w.drew.alloc (.cells arr 3 (0,0)),w.heap.size,av,fun q=>if q=0 then some ⟨w.heap.size,0,1⟩ else none,St.ofL [.row 1 []]⟩) 1 0 0 0 (grownCap w (0 + n) 0 3) ⟨w.heap.size,0,1⟩ arr 3 (0,0) rfl rfl (World.alloc_heap_new w.drew _) (by simp [hsz]) (Nat.zero_le _)
  simpa using this
end Go.Proofs.YtbhkamemheaajaaGreatDoor.Vm
namespace Go.Proofs.YtbhkamemheaajaaGreatDoor.Vm
open Go Go.RowKit
set_option maxRecDepth 100000
variable {N:Nat} {g:Glob}
def catN (G:List (List Int)) (k:Nat):List Int:=(G.take k).flatten
theorem catN_succ {G:List (List Int)} {k:Nat} {m:List Int} (hm:G[k]?=some m):catN G (k + 1)=catN G k ++ m:=by
 unfold catN
 rw [take_succ_get hm,List.flatten_append];simp
theorem catN_all {G:List (List Int)} {k:Nat} (h:k=G.length):catN G k=G.flatten:=by
 subst h
 unfold catN
 rw [List.take_length]
theorem catN_le (G:List (List Int)) (k:Nat):(catN G k).length≤G.flatten.length:=(flat_sub k).length_le
theorem catN_zero (G:List (List Int)):catN G 0=[]:=rfl
theorem slices_Concat {v:AV} {G:List (List Int)} (hv:GrV v G) (hne:G.flatten ≠ []) (hl:G.flatten.length < 2 ^ 20) (hg:G.length < 2 ^ 20):Ret P g true 175 [v] (.fsl 1 (els intc G.flatten)):=by
 refine Ret.inP c175 (by simp) ?_
 rcases hv with ⟨rfl,rfl⟩ | ⟨ws,rfl,hwl,hw⟩
 ·exact absurd rfl hne
 have hf:FSl aw 1 (.fsl 1 (els aw ws)) ws:=FSl.mk
 have hfe:els aw ws=ws.map fun w=>[w]:=rfl
 rw [← hfe]
 have hpre:=catN_le G
 have hall:catN G ws.length=G.flatten:=catN_all hwl
 have hpos:0 < G.flatten.length:=List.length_pos_iff.2 hne
 clear hne
 generalize hL:G.flatten=L at *
 simp [k175,hf.len]
 refine W.whileI (fun (k:Nat) F S=>k≤ws.length∧F 0=.fsl 1 (els aw ws)∧F 3=.int .i64 ((catN G k).length:Nat)∧F 9=.fsl 1 (els aw ws)∧F 10=.int .i64 ws.length∧F 11=.int .i64 k∧S=St.empty) (fun k=>ws.length - k) ?_ 0 _ _ ?_
 ·rintro k F S ⟨hk,f0,f3,f9,f10,f11,rfl⟩
  by_cases hlt:k < ws.length
  ·have e4:=wrapS k (by omega)
   obtain ⟨w,hwk⟩:∃ w,ws[k]?=some w:=⟨_,List.getElem?_eq_getElem hlt⟩
   obtain ⟨m,hm⟩:∃ m,G[k]?=some m:=⟨_,List.getElem?_eq_getElem (by omega)⟩
   have hwm:=hw k w m hwk hm
   have hs:=catN_succ hm
   have h1:=hpre (k + 1)
   rw [hs,List.length_append] at h1
   have e5:IntKind.i64.wrap (((catN G k).length:Int) + m.length)=(((catN G (k + 1)).length:Nat):Int):=by
    rw [hs,List.length_append,wrap_in (by omega)];omega
   have hneg:¬ (((catN G (k + 1)).length:Nat):Int) < 0:=by omega
   simp [f10,f11,hlt]
   simp [f9,f11,hf.idx hwk,aw,fsl_one hwm,f3,hwm.len,e5,hneg]
   simp [f0,f9,f10,f11,e4]
   exact ⟨k + 1,by omega,by omega,rfl,by omega⟩
  ·have:k=ws.length:=by omega
   subst this
   rw [hall] at f3
   simp [f10,f11,f3]
   refine (slices_Grow_nil (g:=g) L.length hpos (by omega)).use' (n:=9) ?_ ?_ ?_ <;> simp
   simp [f0,hf.len]
   refine W.whileI (fun (k:Nat) F S=>k≤ws.length∧F 25=.fsl 1 (els aw ws)∧F 26=.int .i64 ws.length∧F 27=.int .i64 k∧∃ o,F 6=.sl 1 o 0 (catN G k).length∧S.obj o=some (.row 1 (els intc (catN G k)))∧o < S.next) (fun k=>ws.length - k) ?_ 0 _ _ ?_
   ·rintro k F S ⟨hk,f25,f26,f27,o,f6,ho,hol⟩
    by_cases hlt:k < ws.length
    ·have e4:=wrapS k (by omega)
     obtain ⟨w,hwk⟩:∃ w,ws[k]?=some w:=⟨_,List.getElem?_eq_getElem hlt⟩
     obtain ⟨m,hm⟩:∃ m,G[k]?=some m:=⟨_,List.getElem?_eq_getElem (by omega)⟩
     have hwm:=hw k w m hwk hm
     have hs:=catN_succ hm
     have h1:=hpre (k + 1)
     rw [hs,List.length_append] at h1
     have hroom:¬ room < m.length:=by simp [room];omega
     have hroom2:(catN G k).length + m.length≤room:=by simp [room];omega
     have hok:okAll 1 (els intc m):=by
      simp [okAll,els,okEl,intc]
     have hcat:els intc (catN G k) ++ els intc m=els intc (catN G (k + 1)):=by rw [hs,els_append]
     have hlen2:(catN G k).length + m.length=(catN G (k + 1)).length:=by rw [hs,List.length_append]
     simp [f26,f27,hlt]
     simp [f25,f27,hf.idx hwk,aw,fsl_one hwm,f6,hwm.elems]
     by_cases hm0:m=[]
     ·subst hm0
      have hAB:catN G k=catN G (k + 1):=by simpa using hs.symm
      simp [f25,f26,f27,f6,e4]
      exact ⟨k + 1,by omega,by omega,by omega,o,by rw [hAB];exact ⟨rfl,rfl⟩,by rw [← hAB];exact ho,hol⟩
     ·have htk:List.take (catN G k).length (els intc (catN G k))=els intc (catN G k):=List.take_of_length_le (by simp)
      have hroom3:(catN G (k + 1)).length≤room:=by rw [← hlen2];exact hroom2
      simp [hm0,hroom,hroom3,hok,ho,htk,hcat,hlen2,f25,f26,f27,e4]
      exact ⟨k + 1,by omega,by omega,by omega,S.next,⟨rfl,rfl⟩,by simp,by simp⟩
    ·have:k=ws.length:=by omega
     subst this
     rw [hall] at f6 ho
     simp [f26,f27,f6]
     refine ⟨rfl,9,pict_row (ints_news ho) (by simp) (by simp) fun k e he=>?_⟩
     rw [he]
     simp only [els,List.getElem?_map] at he
     cases hx:L[k]? with
     | none=>rw [hx] at he;cases he
     | some x=>rw [hx] at he;cases he;simp [intc]
   ·simp [catN_zero,els]
 ·simp [catN_zero]
theorem apply_with {l:List Int} {v:AV} (hv:FSl intc 1 v l) (n:Int) (hr:rises l=true) (hl:l.length < 2 ^ 18):Ret P g false 116 [v,.int .i64 n] (.fsl 1 (els intc (oneMore l n))):=by
 refine Ret.in c116 (by simp) ?_
 simp [k116]
 refine (slices_BinarySearch hv n hr (by omega)).use (n:=9) (by simp [mapOpt,pict_stab hv.stab]) (by simp [solids,AV.solid,hv.solid]) ?_
 simp
 have hle:=lessL_le l n
 obtain ⟨v1,p1,h1⟩:=hv.upto hle
 obtain ⟨v2,p2,h2⟩:=hv.from hle
 refine Dra.auto [9] mix ?_ ?_
 ·kernel_rfl
 simp [classes,p1,p2,h1.cells,h2.cells,over]
 have hgr:GrV (.fsl 1 [[v1],[.fsl 1 [[.int .i64 n]]],[v2]]) [l.take (lessL l n),[n],l.drop (lessL l n)]:=by
  refine .inr ⟨[v1,.fsl 1 [[.int .i64 n]],v2],rfl,rfl,fun k w m hw hm=>?_⟩
  match k with
  | 0=>simp at hw hm;subst hw hm;exact h1
  | 1=>simp at hw hm;subst hw hm;exact .inl rfl
  | 2=>simp at hw hm;subst hw hm;exact h2
  | k + 3=>simp at hw
 have hfl:[l.take (lessL l n),[n],l.drop (lessL l n)].flatten=oneMore l n:=by simp [oneMore]
 have hc:=slices_Concat (g:=g) hgr (by simp) (by rw [hfl];simp [oneMore];omega) (by simp)
 rw [hfl] at hc
 refine ⟨.fsl 1 (els intc (oneMore l n)),_,hc.use (n:=9) ?_ (by simp) ⟨rfl,rfl⟩,?_⟩
 ·simp [mapOpt,pict_stab h1.stab,pict_stab h2.stab,fsl_one h1,fsl_one h2]
 ·simp
  exact RK.stab (FSl.mk (e:=intc) (sz:=1) (l:=oneMore l n)).stab
end Go.Proofs.YtbhkamemheaajaaGreatDoor.Vm
