/- A part of the proof: Fo. -/
import Derived.Test.YtnhfofmhkfdpgaaGreatDoorQ18
set_option linter.unusedVariables false
set_option linter.unusedSimpArgs false
set_option linter.constructorNameAsVariable false
namespace Go.Proofs.YtnhfofmhkfdpgaaGreatDoor.Vm
open Go Go.RowKit
variable {N:Nat} {g:Glob}
def ents (l:List Int):List (AV × AV):=l.map fun x=>(.int .i64 x,.bool true)
theorem xEP (l:List Int) (x:Int):findV (.int .i64 x) (ents l)=some (if x ∈ l then some (.bool true) else none):=by
 induction l with
 | nil=>simp [ents,findV]
 | cons y l ih =>
  have ih:findV (.int .i64 x) (List.map (fun x=>(AV.int .i64 x,AV.bool true)) l)=_:=ih
  simp only [ents,List.map_cons,findV,keyEq,scalarEq,List.mem_cons]
  by_cases h:x=y
  ·subst h;simp
  ·have:(x == y)=false:=by simpa using h
   simp [h,ih,this]
theorem xJp (l:List Int) (x:Int) (hx:x ∉ l):putV (.int .i64 x) (.bool true) (ents l)=some (ents (l ++ [x])):=by
 induction l with
 | nil=>simp [ents,putV]
 | cons y l ih =>
  have hy:¬ x=y:=fun h=>hx (by simp [h])
  have ih:putV (.int .i64 x) (.bool true) (List.map (fun x=>(AV.int .i64 x,AV.bool true)) l)=_:=ih fun h=>hx (by simp [h])
  simp only [ents,List.map_cons,putV,keyEq,scalarEq,List.cons_append]
  have:(x == y)=false:=by simpa using hy
  simp [ih,ents,this]
def Blk.ids (b:Blk):List Int:=b.ins.map Ins.id
def Fun.idsTo (f:Fun) (j:Nat):List Int:=((f.blks.take j).map Blk.ids).flatten
def Fun.ids (f:Fun):List Int:=(f.blks.map Blk.ids).flatten
def Prg.idsTo (p:Prg) (k:Nat):List Int:=((p.funs.take k).map Fun.ids).flatten
def Prg.ids (p:Prg):List Int:=(p.funs.map Fun.ids).flatten
def Blk.idsTo (b:Blk) (i:Nat):List Int:=(b.ins.take i).map Ins.id
theorem Blk.idsTo_succ {b:Blk} {i:Nat} {x:Ins} (h:b.ins[i]?=some x):b.idsTo (i + 1)=b.idsTo i ++ [x.id]:=by
 rw [Blk.idsTo,xAe h];simp [Blk.idsTo]
theorem Fun.idsTo_succ {f:Fun} {j:Nat} {b:Blk} (h:f.blks[j]?=some b):f.idsTo (j + 1)=f.idsTo j ++ b.ids:=by
 rw [Fun.idsTo,xAe h];simp [Fun.idsTo]
theorem Prg.idsTo_succ {p:Prg} {k:Nat} {f:Fun} (h:p.funs[k]?=some f):p.idsTo (k + 1)=p.idsTo k ++ f.ids:=by
 rw [Prg.idsTo,xAe h];simp [Prg.idsTo]
theorem Blk.idsTo_all (b:Blk):b.idsTo b.ins.length=b.ids:=by rw [Blk.idsTo,List.take_length];rfl
theorem Fun.idsTo_all (f:Fun):f.idsTo f.blks.length=f.ids:=by rw [Fun.idsTo,List.take_length];rfl
theorem Prg.idsTo_all (p:Prg):p.idsTo p.funs.length=p.ids:=by rw [Prg.idsTo,List.take_length];rfl
theorem xIh {l:List (List Int)} (k:Nat):(l.take k).flatten.Sublist l.flatten:=by
 have h:l.flatten=(l.take k).flatten ++ (l.drop k).flatten:=by rw [<- List.flatten_append,List.take_append_drop]
 rw [h];exact List.sublist_append_left _ _
theorem Blk.idsTo_sub (b:Blk) (i:Nat):(b.idsTo i).Sublist b.ids:=(List.take_sublist _ _).map _
theorem Fun.idsTo_sub (f:Fun) (j:Nat):(f.idsTo j).Sublist f.ids:=by rw [Fun.idsTo,List.map_take];exact xIh j
theorem Prg.idsTo_sub (p:Prg) (k:Nat):(p.idsTo k).Sublist p.ids:=by rw [Prg.idsTo,List.map_take];exact xIh k
theorem xLS {p:Prg} {f:Fun} {b:Blk} {k j:Nat} (hf:p.funs[k]?=some f) (hb:f.blks[j]?=some b) (i:Nat):(p.idsTo k ++ (f.idsTo j ++ b.idsTo i)).Sublist p.ids:=by
 refine List.Sublist.trans ?_ (p.idsTo_sub (k + 1))
 rw [Prg.idsTo_succ hf]
 refine List.Sublist.append (List.Sublist.refl _) (List.Sublist.trans ?_ (f.idsTo_sub (j + 1)))
 rw [Fun.idsTo_succ hb]
 exact List.Sublist.append (List.Sublist.refl _) (b.idsTo_sub i)
noncomputable def Prg.sane (p:Prg):Bool:=decide (p.funs.length<=6) && p.funs.all (fun f=>decide (p.funMsg f=[])) && decide p.ids.Nodup
structure Prg.Fit (p:Prg):Prop where
 funs:p.funs.length < 2 ^ 38
 each:∀f ∈ p.funs,f.Small
theorem Up.more {S S':St} (h:Up S S') (x:AObj):Up S (S'.new x):=h.trans (Up.new _ _)
theorem Up.put {S S':St} (h:Up S S') {o:Nat} (ho:S.next<=o) (x:AObj):Up S (S'.set o x):=⟨h.1,fun q hq=>by rw [xKK,if_neg (by omega)];exact h.2 q hq⟩
theorem Prg.sane_iff {p:Prg}:p.sane=true ↔ p.funs.length<=6/\(∀f ∈ p.funs,p.funMsg f=[])/\p.ids.Nodup:=by
 simp only [Prg.sane,Bool.and_eq_true,decide_eq_true_eq,List.all_eq_true,and_assoc]
def Wrong (v:AV) (S S':St):Prop:=∃ o s n,v=.iface 86 (.ptr o 0 0)/\S.next<=o/\o < S'.next/\S'.obj o=some (.row 2 [[.str s,.int .i64 n]])
theorem xJq (p:Prg) (f:Fun):p.funMsg f=[] \/ p.funMsg f=[118,97,114,105,97,98,108,101,115] \/ p.funMsg f=[98,108,111,99,107,115] \/ p.funMsg f=[97,32,98,108,111,99,107,32,116,104,97,116,32,105,115,32,110,111,110,101,32,104,97,115,32,112,97,114,116,115] \/ p.funMsg f=[101,100,103,101,115] \/ p.funMsg f=[105,110,115,116,114,117,99,116,105,111,110,115]:=by
 unfold Prg.funMsg
 split
 ·simp
 ·split
  ·simp
  ·generalize f.blks=l
   induction l with
   | nil=>exact .inl rfl
   | cons b l ih =>
    rw [firstMsg]
    split
    ·exact ih
    ·rcases xFr p f b with h | h | h | h <;> simp [h]
theorem xOK (p:Prg) (f:Fun):sEq (bs (p.funMsg f)) (bs [])=decide (p.funMsg f=[]):=by
 rw [xDF,decide_eq_decide]
 rcases xJq p f with h | h | h | h | h | h <;> rw [h] <;> simp
theorem xMY (p:Prg) (hp:p.Fit) (S:St) (K:AV->St->Prop) (hk:∀v S',Up S S'->(p.sane=true->v=.niliface)->(p.sane=false->Wrong v S S')->K v S'):Cal P (gl N) 40 [encP p] S K:=by
 refine c40.in (by simp) ?_
 have hfl:=hp.funs
 have good:∀S',Up S S'->p.sane=true->K .niliface S':=fun S' h hs=>hk _ _ h (fun _=>rfl) fun h'=>by rw [hs] at h';cases h'
 have bad:∀v S',Up S S'->p.sane=false->Wrong v S S'->K v S':=fun v S' h hs hw=>hk _ _ h (fun h'=>by rw [hs] at h';cases h') fun _=>hw
 simp [k40]
 by_cases h6:6 < p.funs.length
 ·have h6':(6:Int) < (p.funs.length:Int):=by omega
  simp [h6']
  have hs:p.sane=false:=by simp only [Prg.sane];rw [decide_eq_false (by omega)];rfl
  refine bad _ _ ((Up.new _ _).trans (Up.new _ _)) hs ⟨S.next + 1,_,_,rfl,by omega,by simp,by simp;exact ⟨rfl,rfl⟩⟩
 ·have h6':¬ (6:Int) < (p.funs.length:Int):=by omega
  simp [h6']
  refine W.whileI (fun (k:Nat) F S'=>k<=p.funs.length/\(∀(j:Nat) (f:Fun),j < k->p.funs[j]?=some f->p.funMsg f=[])/\F 1=.ptr S.next 0 0/\F 3=.map (S.next + 1)/\F 23=p.funsV/\F 24=.int .i64 p.funs.length/\F 25=.int .i64 k /\
   S'.obj S.next=some (.row 1 [[p.funsV]])/\S'.obj (S.next + 1)=some (.map (ents (p.idsTo k)))/\(p.idsTo k).Nodup/\Up S S'/\S.next + 2<=S'.next) (fun k=>p.funs.length - k) ?_ 0 _ _ ?_
  ·rintro k F S' ⟨hk',hno,f1,f3,f23,f24,f25,s0,s1,hnd,hup,hn⟩
   by_cases hlt:k < p.funs.length
   ·obtain ⟨f,hf⟩:∃ x,p.funs[k]?=some x:=⟨_,xgG hlt⟩
    have hsm:=hp.each f (xmG hf)
    have e4:=wrapS k (by omega)
    have n0:S.next ≠ S'.next:=by omega
    have n1:S.next + 1 ≠ S'.next:=by omega
    simp [f24,f25,hlt]
    simp [f23,f25,f1,f3,p.funsS.idx hf,s0,s1,n0,n1,n0.symm,n1.symm]
    refine (xQP p f hp.funs hsm).use (n:=9) ?_ rfl ?_ <;> simp
    rw [xOK]
    refine xFH (fun hne=>?_) (fun he=>?_)
    ·simp [hne]
     have hs:p.sane=false:=by
      cases h:p.sane
      ·rfl
      ·exact absurd ((Prg.sane_iff.1 h).2.1 f (xmG hf)) hne
     exact bad _ _ (((hup.more _).put (by omega) _).more _) hs ⟨S'.next + 1,_,_,rfl,by omega,by simp,by simp;exact ⟨rfl,rfl⟩⟩
    ·simp [he]
     refine W.whileI (fun (j:Nat) F S'=>j<=f.blks.length/\F 1=.ptr S.next 0 0/\F 3=.map (S.next + 1)/\F 4=.int .i64 k/\F 23=p.funsV/\F 24=.int .i64 p.funs.length/\F 25=.int .i64 k /\
      F 41=f.blksV/\F 42=.int .i64 f.blks.length/\F 43=.int .i64 j /\
      S'.obj S.next=some (.row 1 [[p.funsV]])/\S'.obj (S.next + 1)=some (.map (ents (p.idsTo k ++ f.idsTo j)))/\(p.idsTo k ++ f.idsTo j).Nodup/\Up S S'/\S.next + 2<=S'.next) (fun j=>f.blks.length - j) ?_ 0 _ _ ?_
     ·clear f1 f3 f23 f24 f25 s0 s1 hnd hup hn n0 n1
      clear S' F
      rintro j F S' ⟨hj',f1,f3,f4,f23,f24,f25,f41,f42,f43,s0,s1,hnd,hup,hn⟩
      by_cases hlj:j < f.blks.length
      ·obtain ⟨b,hb⟩:∃ x,f.blks[j]?=some x:=⟨_,xgG hlj⟩
       have e5:IntKind.i64.wrap ((j:Int) + 1)=((j + 1:Nat):Int):=by have:=hsm.blks;rw [xAa (by omega)];omega
       have n0:S.next ≠ S'.next:=by omega
       have n1:S.next + 1 ≠ S'.next:=by omega
       simp [f42,f43,hlj]
       simp [f41,f43,f1,f3,f.blksS.idx hb,s0,s1,n0,n1,n0.symm,n1.symm]
       refine W.whileI (fun (i:Nat) F S'=>i<=b.ins.length/\F 1=.ptr S.next 0 0/\F 3=.map (S.next + 1)/\F 4=.int .i64 k/\F 23=p.funsV/\F 24=.int .i64 p.funs.length/\F 25=.int .i64 k /\
        F 41=f.blksV/\F 42=.int .i64 f.blks.length/\F 43=.int .i64 j/\F 48=b.insV/\F 49=.int .i64 b.ins.length/\F 50=.int .i64 i /\
        S'.obj S.next=some (.row 1 [[p.funsV]])/\S'.obj (S.next + 1)=some (.map (ents (p.idsTo k ++ (f.idsTo j ++ b.idsTo i))))/\(p.idsTo k ++ (f.idsTo j ++ b.idsTo i)).Nodup/\Up S S'/\S.next + 2<=S'.next) (fun i=>b.ins.length - i) ?_ 0 _ _ ?_
       ·clear f1 f3 f4 f23 f24 f25 f41 f42 f43 s0 s1 hnd hup hn n0 n1
        clear S' F
        rintro i F S' ⟨hi',f1,f3,f4,f23,f24,f25,f41,f42,f43,f48,f49,f50,s0,s1,hnd,hup,hn⟩
        have hil:=hsm.ins b (xmG hb)
        by_cases hli:i < b.ins.length
        ·obtain ⟨x,hx⟩:∃ x,b.ins[i]?=some x:=⟨_,xgG hli⟩
         have e6:=wrapS i (by omega)
         have n0:S.next ≠ S'.next:=by omega
         have n1:S.next + 1 ≠ S'.next:=by omega
         have hpart:=xLS hf hb (i + 1)
         rw [Blk.idsTo_succ hx] at hpart
         have hp1:p.idsTo k ++ (f.idsTo j ++ (b.idsTo i ++ [x.id]))=(p.idsTo k ++ (f.idsTo j ++ b.idsTo i)) ++ [x.id]:=by simp
         rw [hp1] at hpart
         simp [f49,f50,hli]
         simp [f48,f50,f1,f3,f4,b.insS.idx hx,s0,s1,n0,n1,n0.symm,n1.symm,xEP]
         by_cases hm:x.id ∈ p.idsTo k \/ x.id ∈ f.idsTo j \/ x.id ∈ b.idsTo i
         ·have hs:p.sane=false:=by
           cases h:p.sane
           ·rfl
           ·have:=(Prg.sane_iff.1 h).2.2.sublist hpart
            rw [List.nodup_append] at this
            exact absurd rfl (this.2.2 x.id (by simpa using hm) x.id (by simp))
          simp [hm,f4]
          exact bad _ _ (((hup.more _).put (by omega) _).more _) hs ⟨S'.next + 1,_,_,rfl,by omega,by simp,by simp;exact ⟨rfl,rfl⟩⟩
         ·have hput:=xJp (p.idsTo k ++ (f.idsTo j ++ b.idsTo i)) x.id (by simpa using hm)
          rw [<- hp1,<- Blk.idsTo_succ hx] at hput
          have hnd':(p.idsTo k ++ (f.idsTo j ++ b.idsTo (i + 1))).Nodup:=by
           rw [Blk.idsTo_succ hx,hp1,List.nodup_append]
           refine ⟨hnd,by simp,?_⟩
           intro a ha c hc
           simp at hc
           subst hc
           rintro rfl
           exact hm (by simpa using ha)
          simp [hm,f3,s1,n0,n1,n0.symm,n1.symm,hput,f50,e6]
          exact ⟨i + 1,by omega,by omega,f1,f4,f23,f24,f25,f41,f42,f43,f48,f49,by omega,s0,rfl,hnd',(((hup.more _).put (by omega) _).put (by omega) _),by omega⟩
        ·have:i=b.ins.length:=by omega
         subst this
         have hall:f.idsTo j ++ b.idsTo b.ins.length=f.idsTo (j + 1):=by rw [Blk.idsTo_all,<- Fun.idsTo_succ hb]
         rw [hall] at s1 hnd
         simp [f49,f50,f1,f3,f4,f23,f24,f25,f41,f42,f43,e5,s0,s1]
         exact ⟨j + 1,by omega,by omega,by omega,rfl,hnd,hup,hn⟩
       ·simp [f1,f3,f4,f23,f24,f25,f41,f42,f43,s0,s1,n0,n1,n0.symm,n1.symm]
        have hz:b.idsTo 0=[]:=rfl
        rw [hz,List.append_nil]
        exact ⟨rfl,hnd,(hup.more _).put (by omega) _,by omega⟩
      ·have:j=f.blks.length:=by omega
       subst this
       rw [Fun.idsTo_all,<- Prg.idsTo_succ hf] at s1 hnd
       simp [f42,f43,f1,f3,f23,f24,f25,e4,s0,s1]
       refine ⟨k + 1,by omega,by omega,?_,by omega,rfl,hnd,hup,hn⟩
       intro q h hq hh
       by_cases hqk:q=k
       ·subst hqk;rw [hf] at hh;cases hh;exact he
       ·exact hno q h (by omega) hh
     ·simp [f1,f3,f23,f24,f25,s0,s1,n0,n1,n0.symm,n1.symm]
      have hz:f.idsTo 0=[]:=rfl
      rw [hz,List.append_nil]
      exact ⟨rfl,hnd,(hup.more _).put (by omega) _,by omega⟩
   ·have:k=p.funs.length:=by omega
    subst this
    simp [f24,f25]
    refine good _ hup (Prg.sane_iff.2 ⟨by omega,?_,by rw [<- Prg.idsTo_all];exact hnd⟩)
    intro f hf
    obtain ⟨j,hj,rfl⟩:=List.mem_iff_getElem.1 hf
    exact hno j _ hj (xgG hj)
  ·simp
   refine ⟨by simp [Prg.idsTo,ents],by simp [Prg.idsTo],(Up.refl S).more _ |>.more _⟩
end Go.Proofs.YtnhfofmhkfdpgaaGreatDoor.Vm
