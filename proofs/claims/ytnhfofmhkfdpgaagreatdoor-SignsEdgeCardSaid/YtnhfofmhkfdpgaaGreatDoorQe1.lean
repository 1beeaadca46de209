/- A part of the proof: Ta Ao Ai Aj Ak Am Al An. -/
import Derived.KernelRfl
import Derived.Shelf.Spec.SlicesGrow
import Derived.Test.YtnhfofmhkfdpgaaGreatDoorQe0
set_option linter.unusedVariables false
set_option linter.unusedSimpArgs false
set_option linter.constructorNameAsVariable false
namespace Go.Proofs.YtnhfofmhkfdpgaaGreatDoor.Vm
open Go Go.RowKit
variable {N:Nat} {g:Glob}
def aw (w:AV):List AV:=[w]
def lessL (l:List Int) (n:Int):Nat:=(l.takeWhile fun x=>decide (x < n)).length
theorem xL4:∀{l:List Int} {n:Int} {k:Nat},k<=l.length->(∀j x,j < k->l[j]?=some x->x < n)->(∀x,l[k]?=some x->n<=x)->lessL l n=k
 | [],n,k,hk,_,_=>by simp at hk;subst hk;rfl
 | y :: l,n,0,hk,h1,h2=>by
  have:=h2 y (by simp);simp [lessL,List.takeWhile_cons,show ¬ y < n by omega]
 | y :: l,n,k + 1,hk,h1,h2=>by
  have h3:=h1 0 y (by omega) (by simp);have ih:=xL4 (l:=l) (n:=n) (k:=k) (by simpa using hk) (fun j x hj hx=>h1 (j + 1) x (by omega) (by simpa using hx)) (fun x hx=>h2 x (by simpa using hx));unfold lessL at ih ⊢;rw [List.takeWhile_cons,if_pos (by simpa using h3),List.length_cons,ih]
theorem xL5 (l:List Int) (n:Int):lessL l n<=l.length:=(List.takeWhile_sublist _).length_le
def oneMore (l:List Int) (n:Int):List Int:=l.take (lessL l n) ++ n :: l.drop (lessL l n)
theorem xFw (y:Int) (l:List Int) (n:Int):oneMore (y :: l) n=if y < n then y :: oneMore l n else n :: y :: l:=by
 unfold oneMore lessL;by_cases h:y < n
 .simp [List.takeWhile_cons,h]
 .simp [List.takeWhile_cons,h]
theorem xDV {l:List Int} {n x:Int}:x ∈ oneMore l n ↔ x=n \/ x ∈ l:=by
 induction l with
 | nil=>simp [oneMore]
 | cons y l ih =>
  rw [xFw];split
  .simp only [List.mem_cons,ih];constructor
   .rintro (h | h | h)
    .exact .inr (.inl h)
    .exact .inl h
    .exact .inr (.inr h)
   .rintro (h | h | h)
    .exact .inr (.inl h)
    .exact .inl h
    .exact .inr (.inr h)
  .simp
theorem xLd (l:List Int) (n:Int):(oneMore l n).length=l.length + 1:=by
 have:=xL5 l n
 simp [oneMore];omega
theorem xL6 {l:List Int}:rises l=true ↔ l.Pairwise (· < ·):=by
 unfold rises;rw [decide_eq_true_eq];constructor
 .intro h;rw [List.pairwise_iff_getElem];intro i j hi hj hij
  induction j with
  | zero=>omega
  | succ j ih =>
   have h1:=h j l[j] l[j + 1] (by omega) (xgG (by omega)) (xgG (by omega));by_cases he:i=j
   .subst he;exact h1
   .have:=ih (by omega) (by omega);omega
 .intro h j x y hj hx hy;rw [List.pairwise_iff_getElem] at h;obtain ⟨hx1,hx2⟩:=xgS hx;obtain ⟨hy1,hy2⟩:=xgS hy;rw [<- hx2,<- hy2];exact h j (j + 1) hx1 hy1 (by omega)
theorem xHF {n:Int}:∀{l:List Int},l.Pairwise (· < ·)->n ∉ l->(oneMore l n).Pairwise (· < ·)
 | [],_,_=>by simp [oneMore]
 | y :: l,h,hn=>by
  rw [List.pairwise_cons] at h;rw [xFw]
  have hyn:y ≠ n:=fun e=>hn (by simp [e])
  split
  .rename_i hlt;rw [List.pairwise_cons];refine ⟨fun x hx=>?_,xHF h.2 fun h'=>hn (by simp [h'])⟩;rcases xDV.1 hx with rfl | hx
   .exact hlt
   .exact h.1 x hx
  .rename_i hlt;rw [List.pairwise_cons,List.pairwise_cons];refine ⟨fun x hx=>?_,h⟩;rcases List.mem_cons.1 hx with rfl | hx
   .omega
   .have:=h.1 x hx;omega
theorem xPq {l:List Int} {n:Int} (h:rises l=true) (hn:n ∉ l):rises (oneMore l n)=true:=xL6.2 (xHF (xL6.1 h) hn)
def Blk.nrm (y:Blk):Blk:={ y with insZ:=true,outZ:=true }
def Blk.wide (y:Blk) (t:Int):Blk:={ y with insZ:=true,out:=oneMore y.out t,outZ:=true }
def Fun.edge (f:Fun) (b:Nat) (t:Int):Fun:=⟨f.par,f.vars,match f.blks[b]? with | some y=>(f.blks.map Blk.nrm).set b (y.wide t) | none=>f.blks.map Blk.nrm,false⟩
def Prg.edge (p:Prg) (i b:Nat) (t:Int):Prg:=⟨match p.funs[i]? with | some f=>p.funs.set i (f.edge b t) | none=>p.funs,false⟩
section
variable {p:Prg} {f:Fun} {i b:Nat} {t:Int} {y:Blk}
theorem xGD (hy:f.blks[b]?=some y):(f.edge b t).blks=(f.blks.map Blk.nrm).set b (y.wide t):=by unfold Fun.edge;rw [hy]
theorem xBT (hy:f.blks[b]?=some y):(f.edge b t).blks.length=f.blks.length:=by rw [xGD hy];simp
theorem xEZ (hy:f.blks[b]?=some y) (k:Nat):(f.edge b t).blks[k]?=if k=b then some (y.wide t) else f.blks[k]?.map Blk.nrm:=by
 have hb:=(xgS hy).1;rw [xGD hy];by_cases h:k=b
 .subst h;rw [if_pos rfl,List.getElem?_set_self (by simpa using hb)]
 .rw [if_neg h,List.getElem?_set_ne (Ne.symm h),List.getElem?_map]
theorem xJY (hy:f.blks[b]?=some y) (k:Nat):(f.edge b t).code k=f.code k:=by
 unfold Fun.code;rw [xEZ hy];by_cases h:k=b
 .subst h;rw [if_pos rfl,hy];rfl
 .rw [if_neg h]
  cases f.blks[k]? <;> rfl
theorem xPr (hy:f.blks[b]?=some y) (k:Nat):(f.edge b t).outs k=if k=b then oneMore y.out t else f.outs k:=by
 unfold Fun.outs;rw [xEZ hy];by_cases h:k=b
 .subst h;rw [if_pos rfl,if_pos rfl];rfl
 .rw [if_neg h,if_neg h]
  cases f.blks[k]? <;> rfl
theorem xPs (hy:f.blks[b]?=some y) (k:Nat):((f.edge b t).blks[k]?).map Blk.on=(f.blks[k]?).map Blk.on:=by
 rw [xEZ hy];by_cases h:k=b
 .subst h;rw [if_pos rfl,hy];rfl
 .rw [if_neg h]
  cases f.blks[k]? <;> rfl
theorem xJZ (hy:f.blks[b]?=some y) (j:Int):(f.edge b t).live j=f.live j:=by
 have h:=xPs (t:=t) hy j.toNat;unfold Fun.live
 cases h1:f.blks[j.toNat]? with
 | none =>
  rw [h1] at h
  cases h2:(f.edge b t).blks[j.toNat]? with
  | none=>rfl
  | some z=>rw [h2] at h;cases h
 | some x =>
  rw [h1] at h
  cases h2:(f.edge b t).blks[j.toNat]? with
  | none=>rw [h2] at h;cases h
  | some z =>
   rw [h2] at h;have:z.on=x.on:=Option.some.inj h;simp only [this]
theorem xJ0 (hy:f.blks[b]?=some y) (k:Nat):(f.edge b t).onAt k=f.onAt k:=by
 have h:=xPs (t:=t) hy k;unfold Fun.onAt
 cases h1:f.blks[k]? with
 | none =>
  rw [h1] at h
  cases h2:(f.edge b t).blks[k]? with
  | none=>rfl
  | some z=>rw [h2] at h;cases h
 | some x =>
  rw [h1] at h
  cases h2:(f.edge b t).blks[k]? with
  | none=>rw [h2] at h;cases h
  | some z =>
   rw [h2] at h;have:z.on=x.on:=Option.some.inj h;simp only [this]
theorem xCC (hf:p.funs[i]?=some f):(p.edge i b t).funs=p.funs.set i (f.edge b t):=by unfold Prg.edge;rw [hf]
theorem xCm (hf:p.funs[i]?=some f) (k:Nat):(p.edge i b t).funs[k]?=if k=i then some (f.edge b t) else p.funs[k]?:=by
 have hi:=(xgS hf).1;rw [xCC hf];by_cases h:k=i
 .subst h;rw [if_pos rfl,List.getElem?_set_self hi]
 .rw [if_neg h,List.getElem?_set_ne (Ne.symm h)]
theorem xGE (hf:p.funs[i]?=some f) {h h':Fun} (hv:h'.vars=h.vars) (x:Ins):(p.edge i b t).insOK h' x=p.insOK h x:=by
 unfold Prg.insOK;rw [xCm hf,hv];by_cases hk:x.f.toNat=i
 .rw [if_pos hk,hk,hf];rfl
 .rw [if_neg hk]
theorem xFx (hf:p.funs[i]?=some f) {h h':Fun} (hv:h'.vars=h.vars) (hlv:∀j,h'.live j=h.live j) {x x':Blk} (h1:x'.on=x.on) (h2:x'.ins=x.ins) (h3:x'.out=x.out):(p.edge i b t).blkMsg h' x'=p.blkMsg h x:=by
 unfold Prg.blkMsg
 have e1:(x'.out.any fun z=>!h'.live z)=x.out.any fun z=>!h.live z:=by
  rw [h3];congr 1;funext z;rw [hlv]
 have e2:(x'.ins.any fun z=>!(p.edge i b t).insOK h' z)=x.ins.any fun z=>!p.insOK h z:=by
  rw [h2];congr 1;funext z;rw [xGE hf hv]
 rw [e1,e2,h1,h2,h3]
theorem xFy {p:Prg} {f:Fun}:∀{l:List Blk},(∀b ∈ l,p.blkMsg f b=[])->firstMsg p f l=[]
 | [],_=>rfl
 | c :: l,h=>by
  rw [firstMsg,if_pos (h c (by simp))]
  exact xFy fun b hb=>h b (by simp [hb])
theorem FunOK.funMsg {p:Prg} {f:Fun} (h:FunOK p f):p.funMsg f=[]:=by
 unfold Prg.funMsg;rw [if_neg (by simpa using h.vars),if_neg (by simpa using h.blks)];exact xFy h.msg
theorem xL7 (hf:p.funs[i]?=some f) (hok:FunOK p f) (hy:f.blks[b]?=some y) (hon:y.on=true) (hl:f.live t=true) (hn:t ∉ y.out):FunOK (p.edge i b t) (f.edge b t):=by
 refine ⟨hok.vars,⟨by rw [xBT hy];exact hok.blks.1,by rw [xBT hy];exact hok.blks.2.1,by rw [xJ0 hy];exact hok.blks.2.2.1,by rw [xBT hy,xJ0 hy];exact hok.blks.2.2.2⟩,fun z hz=>?_⟩;obtain ⟨k,hk⟩:=List.getElem?_of_mem hz;rw [xEZ hy] at hk;by_cases h:k=b
 .rw [if_pos h] at hk;cases hk;have h1:=hok.blk (xmG hy);unfold Prg.blkMsg;have r1:rises (oneMore y.out t)=true:=xPq h1.2.1 hn
  have r2:((oneMore y.out t).any fun x=>!(f.edge b t).live x)=false:=by
   rw [List.any_eq_false];intro x hx;rw [xJZ hy];rcases xDV.1 hx with rfl | hx
   .simp [hl]
   .simp [h1.2.2.1 x hx]
  have r3:(y.ins.any fun z=>!(p.edge i b t).insOK (f.edge b t) z)=false:=by
   rw [List.any_eq_false];intro x hx;rw [xGE (h:=f) (h':=f.edge b t) hf rfl];simp [h1.2.2.2.2 x hx]
  have o1:(y.wide t).on=true:=hon;have o2:(y.wide t).ins=y.ins:=rfl;have o3:(y.wide t).out=oneMore y.out t:=rfl;have:=h1.2.2.2.1;simp [o1,o2,o3,r1,r2,r3];omega
 .rw [if_neg h] at hk
  cases hx:f.blks[k]? with
  | none=>rw [hx] at hk;cases hk
  | some x =>
   rw [hx] at hk;have hk:x.nrm=z:=Option.some.inj hk;subst hk;rw [xFx (h:=f) (h':=f.edge b t) (x:=x) (x':=x.nrm) hf rfl (fun j=>xJZ hy j) rfl rfl rfl];exact hok.msg x (xmG hx)
theorem xRg (hy:f.blks[b]?=some y):(f.edge b t).ids=f.ids:=by
 unfold Fun.ids;congr 1
 refine List.ext_getElem? fun k=>?_
 rw [List.getElem?_map,List.getElem?_map,xEZ hy];by_cases h:k=b
 .subst h;rw [if_pos rfl,hy];rfl
 .rw [if_neg h]
  cases f.blks[k]? <;> rfl
theorem xHG (hs:p.sane=true) (hf:p.funs[i]?=some f) (hy:f.blks[b]?=some y) (hon:y.on=true) (hl:f.live t=true) (hn:t ∉ y.out):(p.edge i b t).sane=true:=by
 obtain ⟨h1,h2,h3⟩:=Prg.sane_iff.1 hs;have hok:=sane_ok hs (xmG hf);refine Prg.sane_iff.2 ⟨by rw [xCC hf];simpa using h1,fun z hz=>?_,?_⟩
 .obtain ⟨k,hk⟩:=List.getElem?_of_mem hz;rw [xCm hf] at hk;by_cases h:k=i
  .rw [if_pos h] at hk;cases hk;exact (xL7 hf hok hy hon hl hn).funMsg
  .rw [if_neg h] at hk;have hzk:=sane_ok hs (xmG hk);refine FunOK.funMsg ⟨hzk.vars,hzk.blks,fun x hx=>?_⟩;rw [xFx (h:=z) (x:=x) hf rfl (fun j=>rfl) rfl rfl rfl];exact hzk.msg x hx
 .have:(p.edge i b t).ids=p.ids:=by
   unfold Prg.ids;congr 1
   refine List.ext_getElem? fun k=>?_
   rw [List.getElem?_map,List.getElem?_map,xCm hf];by_cases h:k=i
   .subst h;rw [if_pos rfl,hf]
    show some (f.edge b t).ids=some f.ids;rw [xRg hy]
   .rw [if_neg h]
  rw [this];exact h3
theorem xHH (hy:f.blks[b]?=some y) (k:Int):(f.preds k).Sublist ((f.edge b t).preds k):=by
 unfold Fun.preds Fun.predsTo;rw [xBT hy];refine List.Sublist.map _ ?_
 have:∀l:List Nat,(l.filter fun j=>decide (k ∈ f.outs j)).Sublist (l.filter fun j=>decide (k ∈ (f.edge b t).outs j)):=by
  intro l
  induction l with
  | nil=>exact .slnil
  | cons a l ih =>
   have himp:k ∈ f.outs a->k ∈ (f.edge b t).outs a:=by
    intro h;rw [xPr hy];split
    .rename_i e;subst e
     have:f.outs a=y.out:=by simp [Fun.outs,hy]
     rw [this] at h;exact xDV.2 (.inr h)
    .exact h
   simp only [List.filter_cons];by_cases h1:k ∈ f.outs a
   .simp only [h1,himp h1,decide_true,if_true];exact ih.cons_cons a
   .by_cases h2:k ∈ (f.edge b t).outs a
    .simp only [h1,h2,decide_true,decide_false,if_true];exact ih.cons a
    .simp only [h1,h2,decide_false];exact ih
 exact this _
end
theorem xPt {p:Prg} {f:Fun} {im bm:Nat} {t:Int} {y:Blk} (hp:p.Fit) (hf:p.funs[im]?=some f) (hok:FunOK p f) (hy:f.blks[bm]?=some y) (hon:y.on=true) (hl:f.live t=true) (hn:t ∉ y.out):(p.edge im bm t).Fit:=by
 have he:=xL7 (t:=t) hf hok hy hon hl hn;refine ⟨by rw [xCC hf];simpa using hp.funs,fun z hz=>?_⟩;obtain ⟨k,hk⟩:=List.getElem?_of_mem hz;rw [xCm hf] at hk;by_cases h:k=im
 .rw [if_pos h] at hk;cases hk;have h12:=he.len.2;refine ⟨by omega,fun b hb=>?_,fun b hb=>?_⟩
  .have:=(he.blk hb).2.2.2.1;omega
  .have:=(he.out b hb).1;omega
 .rw [if_neg h] at hk;exact hp.each z (xmG hk)
end Go.Proofs.YtnhfofmhkfdpgaaGreatDoor.Vm
namespace Go.Proofs.YtnhfofmhkfdpgaaGreatDoor.Vm
open Go Go.RowKit
set_option maxRecDepth 100000
variable {N:Nat} {g:Glob}
def leastN (l:List Int):Nat->Nat->Int
 | _,0=>-1
 | k,m + 1=>if (k:Int) ∈ l then leastN l (k + 1) m else (k:Int)
theorem xNm {l:List Int} {o m:Nat} {S:St} {K:AV->St->Prop} (ho:S.obj o=some (.map (ents l))) (hm:m < 2 ^ 30) (hk:K (.int .i64 (leastN l 0 m)) S):Cal P g 109 [.map o,.int .i64 (m:Int)] S K:=by
 refine Cal.inF (by kernel_rfl) ?_
 conv=>arg 3;reduce
 simp;refine W.whileI (fun (k:Nat) F S'=>k<=m/\F 0=.map o/\F 6=.int .i64 m/\F 7=.int .i64 k/\leastN l 0 m=leastN l k (m - k)/\S'=S) (fun k=>m - k) ?_ 0 _ _ ?_
 .rintro k F S' ⟨hk',h0,h6,h7,he,rfl⟩;by_cases hlt:k < m
  .have e4:=wrapS k (by omega);obtain ⟨d,hd⟩:∃ d,m - k=d + 1:=⟨m - k - 1,by omega⟩
   have hd2:m - (k + 1)=d:=by omega
   rw [hd,leastN] at he;simp [h6,h7,hlt];by_cases hin:(k:Int) ∈ l
   .rw [if_pos hin] at he;simp [h0,h6,h7,ho,xEP,hin,e4];exact ⟨k + 1,by omega,by omega,by omega,by rw [hd2];exact he⟩
   .rw [if_neg hin] at he;simp [h0,h6,h7,ho,xEP,hin];rw [he] at hk;exact hk
  .have:k=m:=by omega
   subst this;rw [Nat.sub_self,leastN] at he;rw [he] at hk;simp [h6,h7];exact hk
 .simp
theorem newId1 {L:List Int} {x:Ins} {a b c:AV} {S:St} {K:AV->St->Prop} (h2:S.obj 2=some (.row 1 [[.map 1]])) (h1:S.obj 1=some (.map (ents L))) (hx:x.id ∉ L) (hn:3<=S.next)
  (hk:∀S',S'.obj 1=some (.map (ents (L ++ [x.id])))->S'.obj 2=S.obj 2->S.next<=S'.next->K (.tuple []) S'):Cal P g 112 [a,b,c,encI x,.ptr 2 0 0] S K:=by
 refine Cal.inF (by kernel_rfl) ?_;have hput:=xJp L x.id hx
 conv=>arg 3;reduce
 simp [h2,h1,hput,show ¬ 2=S.next by omega,show ¬ 1=S.next by omega];exact hk _ (by simp) (by simp [show ¬ 2=S.next by omega]) (by simp)
noncomputable def Prg.newId (p:Prg):Int:=if p.sane=true then leastN p.ids 0 96 else -1
theorem xNn (p:Prg) (hp:p.Fit):Ret P (gl N) false 69 [encP p] (.int .i64 p.newId):=by
 refine Ret.inF (by kernel_rfl) ?_
 conv=>arg 3;reduce
 simp;refine (xB7 p hp).use (n:=9) (by simp [mapOpt,xAc p.funsS.stab]) (by simp [solids,AV.solid,p.funsS.solid]) ?_
 cases hs:p.sane with
 | false =>
  simp;exact RK.eq (by simp [Prg.newId,hs]) rfl
 | true =>
  simp;have hnd:=(Prg.sane_iff.1 hs).2.2;refine xPm hp (fun L S=>3<=S.next/\S.obj 2=some (.row 1 [[.map 1]])/\S.obj 1=some (.map (ents (L.map fun t=>t.2.id)))) ?_ ?_ ?_ ?_
  .rintro L S S' ⟨h1,h2,h3⟩ hup;exact ⟨by have:=hup.1;omega,by rw [hup.2 2 (by omega)];exact h2,by rw [hup.2 1 (by omega)];exact h3⟩
  .simp [ents]
  .rintro L a b c f y x S hf hy hx hsub ⟨h1,h2,h3⟩ K' hK';have hsub2:=hsub.map (fun t:Nat × Ins=>t.2.id);rw [p.steps_ids] at hsub2;have hnd2:=hnd.sublist hsub2;rw [List.map_append,List.nodup_append] at hnd2;simp
   refine newId1 h2 h3 (fun hin=>hnd2.2.2 x.id hin x.id (by simp) rfl) h1 fun S' k1 k2 k3=>?_
   exact hK' _ _ ⟨by omega,by rw [k2];exact h2,by rw [k1,List.map_append];rfl⟩
  .rintro S ⟨h1,h2,h3⟩;rw [p.steps_ids] at h3;simp [h2];refine xNm h3 (by decide) ?_;simp;exact RK.eq (by simp [Prg.newId,hs]) rfl
def editNames:List (List Nat):=[[97,100,100,102,117,110],[97,100,100,98,108,111,99,107],[100,101,108,98,108,111,99,107],[97,100,100,101,100,103,101],[100,101,108,101,100,103,101],[114,101,119,105,114,101],[105,110,115,101,114,116],[100,101,108,101,116,101]]
def editB:ByteArray:=bs [97,100,100,102,117,110,32,97,100,100,98,108,111,99,107,32,100,101,108,98,108,111,99,107,32,97,100,100,101,100,103,101,32,100,101,108,101,100,103,101,32,114,101,119,105,114,101,32,105,110,115,101,114,116,32,100,101,108,101,116,101]
theorem xLe:(Lib.fields editB.data.toList)=editNames.map fun l=>l.map UInt8.ofNat:=by decide
theorem xNo:∀(j:Nat) b,editB.data.toList[j]?=some b->b.toNat < 128:=by
 have h:editB.data.toList.all (fun b=>decide (b.toNat < 128))=true:=by decide
 intro j b hj;have:=List.all_eq_true.1 h b (xmG hj);simpa using this
theorem xDA:Ret P (gl N) false 148 [.str editB] (.fsl 1 (els strc editNames)):=by
 refine ⟨c148.call,?_⟩;intro w av vs xs hG hvs hz;subst hz
 cases hvs with
 | cons v x vs xs hv hvs =>
 cases hvs
 have:=hv.str_inv;subst this
 refine Calls.mono (Tryz.strings_Fields editB w (by decide) xNo hG.1.2.here) ?_;rintro e w' ⟨rfl,rfl⟩;rw [xLe]
 have hval:∀L:List (List Nat),VRs ⟨w.alloc (.cells ((L.map fun l=>l.map UInt8.ofNat).map fun l=>Value.string ⟨l.toArray⟩).toArray 9),w.heap.size,av,fun _=>none,St.empty⟩ ((L.map fun l=>l.map UInt8.ofNat).map fun l=>Value.string ⟨l.toArray⟩) (els strc L).flatten:=by
  intro L;generalize (⟨_,_,_,_,_⟩:Ctx)=C
  induction L with
  | nil=>exact .nil
  | cons l L ih=>exact .cons _ _ _ _ (.str _) ih
 refine ⟨_,.fsl 1 (els strc editNames),St.empty,fun _=>none,rfl,⟨⟨1,rfl⟩,fun h=>by cases h⟩,(Below.refl _ _).alloc (Nat.le_refl _) _,?_,?_⟩
 .refine ⟨?_,?_,?_,?_,?_,by simp⟩
  .intro o x h;cases h
  .intro o o' l l' x x' h;cases h
  .intro o x h;cases h
  .intro o l h;cases h
  .intro o x l h;cases h
 .have hl:((editNames.map fun l=>l.map UInt8.ofNat)).length=(els strc editNames).length:=by simp
  rw [hl];refine .fsl w.heap.size 0 _ 1 _ (els strc editNames) ?_ ?_ (hval editNames) ?_ ?_ (by simp) (Nat.le_refl _)
  .intro j v hj;have:=World.alloc_heap_new w (.cells ((editNames.map fun l=>l.map UInt8.ofNat).map fun l=>Value.string ⟨l.toArray⟩).toArray 9);simp only [World.cell?,this,Nat.zero_add];simpa using hj
  .intro e he;simp only [els,List.mem_map] at he;obtain ⟨l,_,rfl⟩:=he;rfl
  .intro x hx;simp only [els,List.mem_flatten,List.mem_map] at hx;obtain ⟨m,⟨l,_,rfl⟩,hx⟩:=hx;simp only [strc,List.mem_singleton] at hx
   subst hx;rfl
  .rintro (⟨h,_⟩ | ⟨o,l,x,h,_⟩)
   .exact Nat.lt_irrefl _ h
   .cases h
theorem xNp:Ret P (gl N) false 104 [.int .i64 3] (.str (bs [97,100,100,101,100,103,101])):=by
 refine Ret.in c104 (by simp) ?_;simp [k104];have e0:bs [97,100,100,102,117,110,32,97,100,100,98,108,111,99,107,32,100,101,108,98,108,111,99,107,32,97,100,100,101,100,103,101,32,100,101,108,101,100,103,101,32,114,101,119,105,114,101,32,105,110,115,101,114,116,32,100,101,108,101,116,101]=editB:=rfl;rw [e0]
 refine xDA.use (n:=9) ?_ rfl ?_ <;> simp
 have h:(els strc editNames)[3]?=some (strc [97,100,100,101,100,103,101]):=rfl;simp [xAL,editNames,els,strc];exact RK.eq rfl rfl
@[simp] def edc (i b t:Int):List AV:=[.int .i64 3,.int .i64 i,.int .i64 b,.int .i64 t,.int .i64 0,.int .i64 0,.int .i64 0,.int .i64 0,.int .i64 0,.int .i64 0,.int .i64 0,.int .i64 0,.int .i64 0,.int .i64 0,.int .i64 0,.int .i64 0,.int .i64 0]
@[simp] def encE3 (i b t:Int):AV:=.agg (edc i b t)
@[simp] def askc (p:Prg) (i b t:Int):List AV:=p.funsV :: edc i b t
noncomputable def Prg.isEdge (p:Prg) (i b t:Int):Bool:=decide (t ∈ ((p.blk i b).getD Blk.none).out)
theorem xNq (p:Prg) (i b t u:Int) (hp:p.Fit):Ret P (gl N) false 156 [.agg (askc p i b t),.int .i64 u] (.bool (p.isEdge i b u)):=by
 refine Ret.inF (by kernel_rfl) ?_
 conv=>arg 3;reduce
 simp;refine (xCx p i b hp).use (n:=9) (by simp [mapOpt,xAc p.funsS.stab]) (by simp [solids,AV.solid,p.funsS.solid]) ?_;simp
 have hsm:((p.blk i b).getD Blk.none).out.length < 2 ^ 38:=by
  cases hb:p.blk i b with
  | none=>simp [Blk.none]
  | some y =>
   unfold Prg.blk at hb
   cases hf:p.fn i with
   | none=>rw [hf] at hb;cases hb
   | some f =>
    rw [hf] at hb;have hb2:f.blk b=some y:=hb;unfold Fun.blk at hb2;split at hb2
    .exact (xJr hp hf).out y (xmG hb2)
    .cases hb2
 refine (xBl (g:=gl N) _ u _ ((p.blk i b).getD Blk.none).outS (by omega)).use (n:=9) (by simp [mapOpt]) (by rfl) ?_;simp;exact RK.eq rfl rfl
theorem xIC {p:Prg} {i b t j:Int} {S:St} {o:Nat} {K:AV->St->Prop} (hp:p.Fit) (ho:S.obj o=some (.row 18 [askc p i b t])) (hol:o < S.next) (hk:∀S',Up S S'->K (.bool (p.blk i j).isNone) S'):Cal P (gl N) 213 [.int .i64 j,.ptr o 0 0] S K:=by
 refine Cal.inF (by kernel_rfl) ?_
 conv=>arg 3;reduce
 simp [ho];refine (xCx p i j hp).use (n:=9) (by simp [mapOpt,xAc p.funsS.stab]) (by simp [solids,AV.solid,p.funsS.solid]) ?_;simp;exact hk _ ((Up.new _ _).put (Nat.le_refl _) _)
theorem xFE {fv:AV} {l:List Int} {o:Nat} {S:St} {K:AV->St->Prop} (ho:S.obj o=some (.row 1 (els intc l))) (hol:o < S.next) (hl:l.length < 2 ^ 40) (q:Int->Bool)
  (hq:∀x ∈ l,∀S',Up S S'->∀K':AV->St->Prop,(∀S'',Up S S''->K' (.bool (q x)) S'')->CalV P g fv [.int .i64 x] S' K') (hk:∀S',Up S S'->K (.bool (l.any q)) S'):Cal P g 167 [.sl 1 o 0 l.length,fv] S K:=by
 refine Cal.inF (by kernel_rfl) ?_
 conv=>arg 3;reduce
 simp
 refine xEi ho hol hl q hq fun S' hup=>?_
 simp;rw [xEO];exact hk S' hup
theorem xJ1 {p:Prg} {i b t:Int} {l:List Int} {v:AV} {S:St} {o q:Nat} {K:AV->St->Prop} (hp:p.Fit) (ho:S.obj o=some (.row 18 [askc p i b t])) (hol:o < S.next) (hq:S.obj q=some (.row 1 [[v]])) (hr:∃ r,v=.sl 1 r 0 l.length/\r < S.next/\S.obj r=some (.row 1 (els intc l))) (hl:l.length < 2 ^ 30)
  (hk:∀S',Up S S'->K (.bool (l.any fun j=>(p.blk i j).isNone)) S'):Cal P (gl N) 212 [.ptr q 0 0,.ptr o 0 0] S K:=by
 refine Cal.inF (by kernel_rfl) ?_
 conv=>arg 3;reduce
 simp [hq];obtain ⟨r,rfl,hrl,hr⟩:=hr;refine xFE hr hrl (by omega) (fun j=>(p.blk i j).isNone) ?_ ?_
 .intro j hj S' hup K' hk'
  exact xIC hp (by rw [hup.2 o hol];exact ho) (by have:=hup.1;omega) fun S'' h2=>hk' S'' (hup.trans h2)
 .intro S' hup;simp;have:=hk S' hup;simpa using this
theorem xLf {r f1 f2:Nat} {c1 c2:List AV} {e1 e2:Int} {q1 q2:Bool} {S:St} {K:AV->St->Prop} (hr:S.obj r=some (.row 2 [[.int .i64 e1,.func (.func f1) [] c1],[.int .i64 e2,.func (.func f2) [] c2]])) (hrl:r < S.next)
  (h1:∀S',Up S S'->∀K':AV->St->Prop,(∀S'',Up S' S''->K' (.bool q1) S'')->Cal P g f1 c1 S' K') (h2:∀S',Up S S'->∀K':AV->St->Prop,(∀S'',Up S' S''->K' (.bool q2) S'')->Cal P g f2 c2 S' K')
  (hk:∀S',Up S S'->K (.int .i64 (if q1 then e1 else if q2 then e2 else 0)) S'):Cal P g 149 [.sl 2 r 0 2] S K:=by
 refine Cal.inF (by kernel_rfl) ?_;have w1:IntKind.i64.wrap 1=1:=rfl;have w2:IntKind.i64.wrap 2=2:=rfl
 conv=>arg 3;reduce
 simp;refine W.whileI (fun (k:Nat) F S'=>k<=2/\F 5=.sl 2 r 0 2/\F 6=.int .i64 2/\F 7=.int .i64 k/\(0 < k->q1=false)/\(1 < k->q2=false)/\Up S S') (fun k=>2 - k) ?_ 0 _ _ ?_
 .rintro k F S' ⟨hk',f5,f6,f7,hq1,hq2,hup⟩
  have hr':S'.obj r=some (.row 2 [[.int .i64 e1,.func (.func f1) [] c1],[.int .i64 e2,.func (.func f2) [] c2]]):=by rw [hup.2 r hrl];exact hr
  have hrn:r < S'.next:=by have:=hup.1;omega
  match k,hk' with
  | 0,_ =>
   have ix:pk (.indexAddr 2) [.sl 2 r 0 2,.int .i64 0]=some (.ptr r 0 0):=xAd (k:=0) (by omega);simp [f5,f6,f7,ix,hr',show ¬ r=S'.next by omega]
   refine h1 _ (hup.trans ((Up.new _ _).put (Nat.le_refl _) _)) _ fun S'' hup2=>?_
   simp;have hup3:Up S S'':=hup.trans (((Up.new _ _).put (Nat.le_refl _) _).trans hup2);have hb:=hup2.2 S'.next (by simp);simp at hb
   cases q1 with
   | true=>simp [hb];simpa using hk S'' hup3
   | false =>
    simp [f5,f6,f7,w1];exact ⟨1,by omega,by omega,by omega,fun h=>absurd h (by omega),hup3⟩
  | 1,_ =>
   have hq:=hq1 (by omega);subst hq;have ix:pk (.indexAddr 2) [.sl 2 r 0 2,.int .i64 1]=some (.ptr r 1 0):=xAd (k:=1) (by omega);have f7':F 7=.int .i64 1:=f7;simp [f5,f6,f7',ix,hr',show ¬ r=S'.next by omega]
   refine h2 _ (hup.trans ((Up.new _ _).put (Nat.le_refl _) _)) _ fun S'' hup2=>?_
   simp;have hup3:Up S S'':=hup.trans (((Up.new _ _).put (Nat.le_refl _) _).trans hup2);have hb:=hup2.2 S'.next (by simp);simp at hb
   cases q2 with
   | true=>simp [hb];simpa using hk S'' hup3
   | false =>
    have e2:IntKind.i64.wrap (1 + 1)=2:=rfl;simp [f5,f6,f7',e2,w2];exact ⟨2,by omega,by omega,by omega,hup3⟩
  | 2,_ =>
   have hqa:=hq1 (by omega);have hqb:=hq2 (by omega);subst hqa hqb;have f7':F 7=.int .i64 2:=f7;simp [f6,f7'];simpa using hk S' hup
 .simp;exact Up.refl S
theorem xLg {p:Prg} {i b t:Int} {r:Nat} {S:St} {K:AV->St->Prop}
  (hk:∀S' q o,Up S S'->q < S'.next->o < S'.next->S'.obj q=some (.row 1 [[.sl 1 r 0 2]])->S'.obj o=some (.row 18 [askc p i b t])->K (.agg [.int .i64 2,.func (.func 212) [] [.ptr q 0 0,.ptr o 0 0]]) S'):Cal P g 153 [.agg (askc p i b t),.sl 1 r 0 2] S K:=by
 refine Cal.inF (by kernel_rfl) ?_
 conv=>arg 3;reduce
 simp
 have e1:¬ S.next=S.next + 1 + 1:=by omega
 have e2:¬ S.next + 1=S.next + 1 + 1:=by omega
 refine hk _ (S.next + 1) S.next ((((Up.new _ _).more _).more _).put (by first | omega | (simp;omega)) _) ?_ ?_ ?_ ?_
 .simp only [xLK,xCL];omega
 .simp only [xLK,xCL];omega
 .simp [e1,e2]
 .simp [e1,e2]
theorem other3 {p:Prg} {i b t:Int} {o e:Nat} {S:St} {K:AV->St->Prop} (hp:p.Fit) (ho:S.obj o=some (.row 18 [askc p i b t])) (he:S.obj e=some (.row 17 [edc i b t])) (hk:∀S',Up S S'->K (.bool (p.isEdge i b t)) S'):Cal P (gl N) 155 [.ptr o 0 0,.ptr e 0 0] S K:=by
 refine Cal.inF (by kernel_rfl) ?_
 conv=>arg 3;reduce
 simp [ho,he];refine (xNq p i b t t hp).use (n:=9) (by simp [mapOpt,xAc p.funsS.stab]) (by simp [solids,AV.solid,p.funsS.solid]) ?_;simp;exact hk S (Up.refl S)
noncomputable def Prg.chkE (p:Prg) (i b t:Int):Int:=if ((p.blk i b).isNone || (p.blk i t).isNone)=true then 2 else if p.isEdge i b t=true then 5 else 0
theorem xLh (p:Prg) (i b t:Int) (hp:p.Fit):Ret P (gl N) false 106 [.agg (askc p i b t)] (.int .i64 (p.chkE i b t)):=by
 refine Ret.inF (by kernel_rfl) ?_
 conv=>arg 3;reduce
 simp
 refine xLg (p:=p) (i:=i) (b:=b) (t:=t) fun S1 q o hup hq ho h1 h2=>?_
 have n1:=hup.1;simp at n1;have s0:=hup.2 0 (by simp);have s1:=hup.2 1 (by simp);have s2:=hup.2 2 (by simp);simp at s0 s1 s2;simp;refine xLf (r:=S1.next) (f1:=212) (f2:=155) (c1:=[.ptr q 0 0,.ptr o 0 0]) (c2:=[.ptr 0 0 0,.ptr 1 0 0]) (e1:=2) (e2:=5) (q1:=[b,t].any fun j=>(p.blk i j).isNone) (q2:=p.isEdge i b t) (by simp) (by simp) ?_ ?_ ?_
 .intro S' hup2 K' hK';have n2:=hup2.1;simp at n2;have g0:=hup2.2 o (by simp;omega);have g1:=hup2.2 q (by simp;omega);have g2:=hup2.2 2 (by simp;omega);simp [show ¬ o=S1.next by omega,show ¬ q=S1.next by omega,show ¬ 2=S1.next by omega,h1,h2,s2] at g0 g1 g2
  exact xJ1 (l:=[b,t]) hp g0 (by omega) g1 ⟨2,rfl,by omega,by rw [g2];simp [els,intc]⟩ (by simp) fun S'' hup3=>hK' S'' hup3
 .intro S' hup2 K' hK';have n2:=hup2.1;simp at n2;have g0:=hup2.2 0 (by first | (simp;done) | (simp;omega));have g1:=hup2.2 1 (by first | (simp;done) | (simp;omega));simp [show ¬ 0=S1.next by omega,show ¬ 1=S1.next by omega,s0,s1] at g0 g1
  exact other3 (p:=p) (i:=i) (b:=b) (t:=t) hp g0 g1 fun S'' hup3=>hK' S'' hup3
 .intro S' hup2;simp;exact RK.eq (by simp [Prg.chkE]) rfl
noncomputable def Prg.chk (p:Prg) (i b t:Int):Int:=if p.sane=true then (if 0<=i/\i < p.funs.length then p.chkE i b t else 1) else 11
theorem xNr (p:Prg) (i b t:Int) (hp:p.Fit):Ret P (gl N) false 64 [encP p,encE3 i b t] (.int .i64 (p.chk i b t)):=by
 refine Ret.in c64 (by simp) ?_;simp [k64];refine (xB7 p hp).use (n:=9) (by simp [mapOpt,xAc p.funsS.stab]) (by simp [solids,AV.solid,p.funsS.solid]) ?_
 cases hs:p.sane with
 | false =>
  simp;exact RK.eq (by simp [Prg.chk,hs]) rfl
 | true =>
  simp;refine xNp.use (n:=9) (by simp [mapOpt]) (by rfl) ?_
  have hne:sEq (bs [97,100,100,101,100,103,101]) (bs [])=false:=by rw [xDF];decide
  simp [hne];by_cases h0:i < 0
  .simp [h0];exact RK.eq (by simp [Prg.chk,hs];omega) rfl
  .by_cases h1:i < p.funs.length
   .simp [h0,show ¬ (p.funs.length:Int)<=i by omega];refine (xLh p i b t hp).use (n:=9) (by simp [mapOpt,xAc p.funsS.stab]) (by simp [solids,AV.solid,p.funsS.solid]) ?_;simp;exact RK.eq (by simp [Prg.chk,hs,show 0<=i by omega,h1]) rfl
   .simp [h0,show (p.funs.length:Int)<=i by omega];exact RK.eq (by simp [Prg.chk,hs];omega) rfl
theorem xRj (a b:Int):Ret P g false 196 [.int .i64 a,.int .i64 b] (.bool (decide (a < b))):=by
 refine Ret.in c196 (by simp) ?_;simp [k196];refine (show Ret P g false 242 [.int .i64 a] (.bool false) from ?_).use (n:=9) (by simp [mapOpt]) rfl ?_
 .refine Ret.in c242 (by simp) ?_;simp [k242];exact RK.eq rfl rfl
 .simp;exact RK.eq rfl rfl
theorem xL8 {l:List Int} (h:rises l=true):∀{i j:Nat} {x y:Int},i < j->l[i]?=some x->l[j]?=some y->x < y:=by
 have hr:risesTo l l.length:=by simpa [rises] using h
 intro i j x y hij hx hy
 induction j generalizing y with
 | zero=>omega
 | succ j ih =>
  have hj:=(xgS hy).1;have h1:=hr j l[j] y (by omega) (xgG (by omega)) hy;by_cases he:i=j
  .subst he;rw [xgG (by omega)] at hx
   cases hx;exact h1
  .have:=ih (y:=l[j]) (by omega) (xgG (by omega));omega
theorem xDW {l:List Int} {v:AV} (hv:FSl intc 1 v l) (n:Int) (hr:rises l=true) (hl:l.length < 2 ^ 40):Ret P g false 163 [v,.int .i64 n] (.tuple [.int .i64 (lessL l n:Nat),.bool (decide (l[lessL l n]?=some n))]):=by
 refine Ret.in c163 (by simp) ?_;simp [k163,hv.len];refine W.whileI (fun (z:Nat × Nat) F S=>z.1<=z.2/\z.2<=l.length/\F 0=v/\F 1=.int .i64 n/\F 6=.int .i64 l.length/\F 7=.int .i64 z.1/\F 8=.int .i64 z.2/\(∀j x,j < z.1->l[j]?=some x->x < n)/\(∀j x,z.2<=j->l[j]?=some x->n<=x)) (fun z=>z.2 - z.1) ?_ (0,l.length) _ _ ?_
 .rintro ⟨a,b⟩ F S ⟨hab,hbl,f0,f1,f6,f7,f8,hlo,hhi⟩;simp only at hab hbl f7 f8 hlo hhi;by_cases hlt:a < b
  .have hm:(a + b) / 2 < l.length:=by omega
   obtain ⟨x,hx⟩:∃ x,l[(a + b) / 2]?=some x:=⟨_,xgG hm⟩
   have e1:IntKind.i64.wrap ((a:Int) + b)=((a + b:Nat):Int):=by rw [xAa (by omega)];omega
   have e2:IntKind.u64.wrap ((a + b:Nat):Int)=((a + b:Nat):Int):=xB6 (by omega)
   have e3:ishift .shr .u64 ((a + b:Nat):Int) 1=some (.int .u64 (((a + b) / 2:Nat):Int)):=by
    have:=u64shift (a + b) 1 (by omega) (by omega);rw [Nat.shiftRight_eq_div_pow] at this;simpa using this
   have e4:IntKind.i64.wrap (((a + b) / 2:Nat):Int)=(((a + b) / 2:Nat):Int):=by rw [xAa (by omega)]
   have e5:IntKind.i64.wrap ((((a + b) / 2:Nat):Int) + 1)=(((a + b) / 2 + 1:Nat):Int):=by rw [xAa (by omega)];omega
   have hix:=hv.idx hx;generalize hmid:(a + b) / 2=m at *;simp only [Int.natCast_add] at e1 e2 e3;simp [f7,f8,hlt];simp [f7,f8,e1,e2,e3,e4,f0,f1,hix,intc];refine (xRj x n).use (n:=9) (by simp [mapOpt]) rfl ?_;simp
   by_cases h:x < n <;> simp [h,e5,f0,f1,f6,f7,f8]
   .refine ⟨m + 1,b,by omega,⟨by omega,by omega,rfl,rfl,?_,hhi⟩⟩;intro j y hj hy;by_cases hjm:j=m
    .subst hjm;rw [hx] at hy;cases hy;exact h
    .have:=xL8 hr (show j < m by omega) hy hx;omega
   .refine ⟨a,m,by omega,⟨by omega,by omega,rfl,rfl,hlo,?_⟩⟩;intro j y hj hy;by_cases hjm:j=m
    .subst hjm;rw [hx] at hy;cases hy;omega
    .have:=xL8 hr (show m < j by omega) hx hy;omega
  .have hab':a=b:=by omega
   subst hab'
   have hles:lessL l n=a:=xL4 hbl hlo fun x hx=>hhi a x (Nat.le_refl _) hx
   rw [hles];simp [f7,f8];by_cases hal:a < l.length
   .obtain ⟨x,hx⟩:∃ x,l[a]?=some x:=⟨_,xgG hal⟩
    have hget:l[a]=x:=by rw [xgG hal] at hx;exact Option.some.inj hx
    have hn:=(show Ret P g false 222 [.int .i64 x] (.bool false) from by
     refine Ret.in c222 (by simp) ?_;simp [k222]
     exact RK.eq rfl rfl)
    by_cases hxn:x=n
    .subst hxn;simp [f6,f7,f0,f1,hal,hv.idx hx,intc,hx,hget];exact ⟨9,by simp [mapOpt]⟩
    .simp [f6,f7,f0,f1,hal,hv.idx hx,intc,hx,hget,hxn];refine hn.use (n:=9) (by simp [mapOpt]) rfl ?_;simp;exact ⟨9,by simp [mapOpt]⟩
   .simp [f6,f7,f0,f1,hal,show ¬ (a:Int) < l.length by omega,List.getElem?_eq_none (show l.length<=a by omega)];exact ⟨9,by simp [mapOpt]⟩
 .simp
  refine fun j x h=>?_
  have:=List.getElem?_eq_none (l:=l) h;simp [this]
end Go.Proofs.YtnhfofmhkfdpgaaGreatDoor.Vm
namespace Go.Proofs.YtnhfofmhkfdpgaaGreatDoor.Vm
open Go Go.RowKit Go.Lib
set_option maxRecDepth 100000
variable {N:Nat} {g:Glob}
theorem xTf:(P.info? 3).map (fun i=>(i.size,i.bytes))=some (1,8):=by kernel_rfl
theorem xTg:(P.info? 3).bind (fun i=>i.zero)=some (.int .i64 0):=by kernel_rfl
theorem xRk {w:World} {av:Nat->Prop}:Rel ⟨w,w.heap.size,av,fun _=>none,St.empty⟩:=by
 refine ⟨?_,?_,?_,?_,?_,Nat.le_refl _⟩
 .intro o x h;cases h
 .intro o o' l l' x x' h;cases h
 .intro o x h;cases h
 .intro o l h;cases h
 .intro o x l h;cases h
theorem xGF (n:Nat) (hn:0 < n) (hb:n < 2 ^ 30):Own P g 223 [.nilsl,.int .i64 (n:Int)] (.sl 1 0 0 0) (St.ofL [.row 1 []]):=by
 refine ⟨c223.call,?_⟩;intro w av vs xs hG hvs hz;subst hz
 cases hvs with
 | cons v x vs xs hv hvs =>
 cases hvs with
 | cons v2 x2 vs xs hv2 hvs =>
 cases hvs
 have:=hv2.int_inv;subst this
 obtain ⟨a,rfl⟩:∃ a,v=.slice a 0 0:=by cases hv;exact ⟨_,rfl⟩
 obtain ⟨i0,hi0,hs,hby⟩:∃ i0,P.info? 3=some i0/\i0.size=1/\i0.bytes=8:=by
  have h:=xTf
  cases h2:P.info? 3 with
  | none=>rw [h2] at h;cases h
  | some i0 =>
   rw [h2] at h;have h:=Option.some.inj h;exact ⟨i0,rfl,congrArg Prod.fst h,congrArg Prod.snd h⟩
 have hz0:i0.zero=some (.int .i64 0):=by have h:=xTg;rw [hi0] at h;exact h
 refine Calls.mono (Any8.slices_Grow_grow Tryz.lays8_4 i0 (.int .i64 0) hi0 hz0 (by omega) a 0 0 n [] w (Nat.le_refl _) (by omega) (by rw [hby];omega) (by omega) (by simp) (fun _=>rfl) (fun b _ j u h=>by simp at h)) ?_;rintro e w' ⟨rfl,rfl⟩;have hge:=grownCap_ge w (0 + n) 0 3;obtain ⟨arr,harr⟩:∃ arr,arr=([]:List Value).toArray ++ Builtin.zeroCells (Value.int .i64 0).cells (0 + n - 0) ++ Builtin.zeroCells (Value.int .i64 0).cells (grownCap w (0 + n) 0 3 - (0 + n)):=⟨_,rfl⟩
 have hsz:arr.size=grownCap w (0 + n) 0 3:=by
  rw [harr];simp only [Array.size_append,size_zeroCells];have:(Value.int .i64 0).cells.size=1:=rfl;rw [this];simp only [Nat.zero_add] at hge ⊢
  simp;omega
 have hR:Rel ⟨w,w.heap.size,av,fun _=>none,St.empty⟩:=xRk;have hRd:=xLA hR;have hM:=xFF hRd (.cells arr 3 (0,0)) (.row 1 []) 1 (xHQ hRd arr 3 1 [] (by omega) (by simp) (by simp) (vs:=[]) (by simp) .nil)
 have hS:((Ctx.drew ⟨w,w.heap.size,av,fun _=>none,St.empty⟩).made (.cells arr 3 (0,0)) (.row 1 []) 1).S=St.ofL [.row 1 []]:=by
  refine congrArg (St.mk 1) (funext fun q=>?_)
  cases q with
  | zero=>rfl
  | succ q=>rfl
 have hE:(Ctx.drew ⟨w,w.heap.size,av,fun _=>none,St.empty⟩).made (.cells arr 3 (0,0)) (.row 1 []) 1=⟨w.drew.alloc (.cells arr 3 (0,0)),w.heap.size,av,fun q=>if q=0 then some ⟨w.heap.size,0,1⟩ else none,St.ofL [.row 1 []]⟩:=by
  rw [<- hS];rfl
 rw [hE] at hM;have hG3:Tryz.lays8_4_ren.t 25=3:=rfl;rw [hG3,<- harr];refine ⟨_,.sl 1 0 0 0,St.ofL [.row 1 []],fun q=>if q=0 then some ⟨w.heap.size,0,1⟩ else none,rfl,⟨⟨rfl,rfl⟩,rfl,?_⟩,?_,hM,?_⟩
 .intro o x h
  cases o with
  | zero=>cases h;rfl
  | succ o=>cases h
 .exact ((⟨rfl,rfl,rfl,Nat.le_refl _,fun _ _=>rfl⟩:Below w.heap.size w w.drew)).alloc (Nat.le_refl _) _
 .have:=VR.sl (C:=⟨w.drew.alloc (.cells arr 3 (0,0)),w.heap.size,av,fun q=>if q=0 then some ⟨w.heap.size,0,1⟩ else none,St.ofL [.row 1 []]⟩) 1 0 0 0 (grownCap w (0 + n) 0 3) ⟨w.heap.size,0,1⟩ arr 3 (0,0) rfl rfl (World.alloc_heap_new w.drew _) (by simp [hsz]) (Nat.zero_le _);simpa using this
end Go.Proofs.YtnhfofmhkfdpgaaGreatDoor.Vm
namespace Go.Proofs.YtnhfofmhkfdpgaaGreatDoor.Vm
open Go Go.RowKit
set_option maxRecDepth 100000
variable {N:Nat} {g:Glob}
def catN (G:List (List Int)) (k:Nat):List Int:=(G.take k).flatten
theorem xJ2 {G:List (List Int)} {k:Nat} {m:List Int} (hm:G[k]?=some m):catN G (k + 1)=catN G k ++ m:=by
 unfold catN
 rw [xAe hm,List.flatten_append];simp
theorem xRl {G:List (List Int)} {k:Nat} (h:k=G.length):catN G k=G.flatten:=by
 subst h;unfold catN;rw [List.take_length]
theorem xTh (G:List (List Int)) (k:Nat):(catN G k).length<=G.flatten.length:=(xIh k).length_le
theorem xJ3 (G:List (List Int)):catN G 0=[]:=rfl
theorem xID {v:AV} {G:List (List Int)} (hv:GrV v G) (hne:G.flatten ≠ []) (hl:G.flatten.length < 2 ^ 20) (hg:G.length < 2 ^ 20):Ret P g true 164 [v] (.fsl 1 (els intc G.flatten)):=by
 refine Ret.inP c164 (by simp) ?_;rcases hv with ⟨rfl,rfl⟩ | ⟨ws,rfl,hwl,hw⟩
 .exact absurd rfl hne
 have hf:FSl aw 1 (.fsl 1 (els aw ws)) ws:=FSl.mk
 have hfe:els aw ws=ws.map fun w=>[w]:=rfl
 rw [<- hfe];have hpre:=xTh G;have hall:catN G ws.length=G.flatten:=xRl hwl;have hpos:0 < G.flatten.length:=List.length_pos_iff.2 hne;clear hne;generalize hL:G.flatten=L at *;simp [k164,hf.len];refine W.whileI (fun (k:Nat) F S=>k<=ws.length/\F 0=.fsl 1 (els aw ws)/\F 3=.int .i64 ((catN G k).length:Nat)/\F 9=.fsl 1 (els aw ws)/\F 10=.int .i64 ws.length/\F 11=.int .i64 k/\S=St.empty) (fun k=>ws.length - k) ?_ 0 _ _ ?_
 .rintro k F S ⟨hk,f0,f3,f9,f10,f11,rfl⟩;by_cases hlt:k < ws.length
  .have e4:=wrapS k (by omega);obtain ⟨w,hwk⟩:∃ w,ws[k]?=some w:=⟨_,xgG hlt⟩;obtain ⟨m,hm⟩:∃ m,G[k]?=some m:=⟨_,xgG (by omega)⟩;have hwm:=hw k w m hwk hm;have hs:=xJ2 hm;have h1:=hpre (k + 1);rw [hs,List.length_append] at h1
   have e5:IntKind.i64.wrap (((catN G k).length:Int) + m.length)=(((catN G (k + 1)).length:Nat):Int):=by
    rw [hs,List.length_append,xAa (by omega)];omega
   have hneg:¬ (((catN G (k + 1)).length:Nat):Int) < 0:=by omega
   simp [f10,f11,hlt];simp [f9,f11,hf.idx hwk,aw,xAN hwm,f3,hwm.len,e5,hneg];simp [f0,f9,f10,f11,e4];exact ⟨k + 1,by omega,by omega,rfl,by omega⟩
  .have:k=ws.length:=by omega
   subst this;rw [hall] at f3;simp [f10,f11,f3]
   refine (xGF (g:=g) L.length hpos (by omega)).use' (n:=9) ?_ ?_ ?_ <;> simp
   simp [f0,hf.len];refine W.whileI (fun (k:Nat) F S=>k<=ws.length/\F 25=.fsl 1 (els aw ws)/\F 26=.int .i64 ws.length/\F 27=.int .i64 k/\∃ o,F 6=.sl 1 o 0 (catN G k).length/\S.obj o=some (.row 1 (els intc (catN G k)))/\o < S.next) (fun k=>ws.length - k) ?_ 0 _ _ ?_
   .rintro k F S ⟨hk,f25,f26,f27,o,f6,ho,hol⟩;by_cases hlt:k < ws.length
    .have e4:=wrapS k (by omega);obtain ⟨w,hwk⟩:∃ w,ws[k]?=some w:=⟨_,xgG hlt⟩;obtain ⟨m,hm⟩:∃ m,G[k]?=some m:=⟨_,xgG (by omega)⟩;have hwm:=hw k w m hwk hm;have hs:=xJ2 hm;have h1:=hpre (k + 1);rw [hs,List.length_append] at h1
     have hroom:¬ room < m.length:=by simp [room];omega
     have hroom2:(catN G k).length + m.length<=room:=by simp [room];omega
     have hok:okAll 1 (els intc m):=by
      simp [okAll,els,okEl,intc]
     have hcat:els intc (catN G k) ++ els intc m=els intc (catN G (k + 1)):=by rw [hs,xA2]
     have hlen2:(catN G k).length + m.length=(catN G (k + 1)).length:=by rw [hs,List.length_append]
     simp [f26,f27,hlt];simp [f25,f27,hf.idx hwk,aw,xAN hwm,f6,hwm.elems];by_cases hm0:m=[]
     .subst hm0
      have hAB:catN G k=catN G (k + 1):=by simpa using hs.symm
      simp [f25,f26,f27,f6,e4];exact ⟨k + 1,by omega,by omega,by omega,o,by rw [hAB];exact ⟨rfl,rfl⟩,by rw [<- hAB];exact ho,hol⟩
     .have htk:List.take (catN G k).length (els intc (catN G k))=els intc (catN G k):=List.take_of_length_le (by simp)
      have hroom3:(catN G (k + 1)).length<=room:=by rw [<- hlen2];exact hroom2
      simp [hm0,hroom,hroom3,hok,ho,htk,hcat,hlen2,f25,f26,f27,e4];exact ⟨k + 1,by omega,by omega,by omega,S.next,⟨rfl,rfl⟩,by simp,by simp⟩
    .have:k=ws.length:=by omega
     subst this;rw [hall] at f6 ho;simp [f26,f27,f6];refine ⟨rfl,9,xAr (xCz ho) (by simp) (by simp) fun k e he=>?_⟩;rw [he];simp only [els,List.getElem?_map] at he
     cases hx:L[k]? with
     | none=>rw [hx] at he;cases he
     | some x=>rw [hx] at he;cases he;simp [intc]
   .simp [xJ3,els]
 .simp [xJ3]
theorem xNs {l:List Int} {v:AV} (hv:FSl intc 1 v l) (n:Int) (hr:rises l=true) (hl:l.length < 2 ^ 18):Ret P g false 110 [v,.int .i64 n] (.fsl 1 (els intc (oneMore l n))):=by
 refine Ret.inF (by kernel_rfl) ?_
 conv=>arg 3;reduce
 simp;refine (xDW hv n hr (by omega)).use (n:=9) (by simp [mapOpt,xAc hv.stab]) (by simp [solids,AV.solid,hv.solid]) ?_;simp;have hle:=xL5 l n;obtain ⟨v1,p1,h1⟩:=hv.upto hle
 obtain ⟨v2,p2,h2⟩:=hv.from hle
 refine Dra.auto [9] mix ?_ ?_
 .kernel_rfl
 simp [classes,p1,p2,h1.cells,h2.cells,over]
 have hgr:GrV (.fsl 1 [[v1],[.fsl 1 [[.int .i64 n]]],[v2]]) [l.take (lessL l n),[n],l.drop (lessL l n)]:=by
  refine .inr ⟨[v1,.fsl 1 [[.int .i64 n]],v2],rfl,rfl,fun k w m hw hm=>?_⟩
  match k with
  | 0=>simp at hw hm;subst hw hm;exact h1
  | 1=>simp at hw hm;subst hw hm;exact .inl rfl
  | 2=>simp at hw hm;subst hw hm;exact h2
  | k + 3=>simp at hw
 have hfl:[l.take (lessL l n),[n],l.drop (lessL l n)].flatten=oneMore l n:=by simp [oneMore]
 have hc:=xID (g:=g) hgr (by simp) (by rw [hfl];simp [oneMore];omega) (by simp);rw [hfl] at hc;refine ⟨.fsl 1 (els intc (oneMore l n)),_,hc.use (n:=9) ?_ (by simp) ⟨rfl,rfl⟩,?_⟩
 .simp [mapOpt,xAc h1.stab,xAc h2.stab,xAN h1,xAN h2]
 .simp;exact RK.stab (FSl.mk (e:=intc) (sz:=1) (l:=oneMore l n)).stab
theorem xGG {α:Type} {e:α->List AV} {sz:Nat} {l:List α}:encN true e sz l=encF e sz l:=by simp [encN,encF]
theorem FSl.cut3 {α:Type} {e:α->List AV} {sz:Nat} {v:AV} {l:List α} (h:FSl e sz v l):pk (.slice sz false true true) [v,.int .i64 (l.length:Int),.int .i64 (l.length:Int)]=some (encF e sz l):=by
 rcases h with rfl | ⟨rfl,rfl⟩
 .cases l with
  | nil=>simp [pk,bnds,els,encF]
  | cons a l =>
   have h1:¬ ((l.length:Int) + 1 < 0):=by omega
   have h2:(0:Int)<=(l.length:Int) + 1:=by omega
   have h3:List.take (l.length + 1) (e a :: List.map e l)=e a :: List.map e l:=List.take_of_length_le (by simp);simp [pk,bnds,els,encF,h1,h2,h3]
 .simp [pk,bnds,encF]
theorem xTi {sz o n:Nat} (hn:¬ n=0):pk (.slice sz false true true) [.sl sz o 0 n,.int .i64 (n:Int),.int .i64 (n:Int)]=some (.sl sz o 0 n):=by
 have h:¬ ((n:Int) < 0):=by omega
 have h2:(0:Int)<=(n:Int):=by omega
 simp [pk,bnds,h,h2,hn]
theorem Blk.nrm_ins (y:Blk):y.nrm.insV=encF insc 11 y.ins:=xGG
theorem Blk.nrm_out (y:Blk):y.nrm.outV=encF intc 1 y.out:=xGG
def nrmTo (l:List Blk) (k:Nat):List Blk:=(l.take k).map Blk.nrm ++ l.drop k
theorem xPu (l:List Blk) (k:Nat):(nrmTo l k).length=l.length:=by simp [nrmTo];omega
theorem xRm {l:List Blk} {k:Nat} {y:Blk} (h:l[k]?=some y):(nrmTo l k)[k]?=some y:=by
 have hk:=(xgS h).1;unfold nrmTo;rw [List.getElem?_append_right (by rw [List.length_map,List.length_take];omega),List.length_map,List.length_take,Nat.min_eq_left (by omega),Nat.sub_self,List.getElem?_drop];exact h
theorem xPv {l:List Blk} {k:Nat} {y:Blk} (h:l[k]?=some y):(nrmTo l k).set k y.nrm=nrmTo l (k + 1):=by
 have hk:=(xgS h).1;unfold nrmTo;rw [List.set_append_right _ _ (by rw [List.length_map,List.length_take];omega),List.length_map,List.length_take,Nat.min_eq_left (by omega),Nat.sub_self,xAe h,List.map_append,List.append_assoc];congr 1
 have:l.drop k=y :: l.drop (k + 1):=by
  rw [List.drop_eq_getElem_cons hk];rw [xgG hk] at h;rw [Option.some.inj h]
 rw [this];rfl
theorem xNt (l:List Blk):nrmTo l 0=l:=by simp [nrmTo]
theorem xPw (l:List Blk):nrmTo l l.length=l.map Blk.nrm:=by simp [nrmTo]
theorem xPx {p:Prg} {i:Nat} {f:Fun} (hpl:p.funs.length < 2 ^ 20) (hf:p.funs[i]?=some f) (h0:0 < f.blks.length) (hbl:f.blks.length<=12) {S:St} {K:AV->St->Prop}
  (hk:∀S' A B,Up S S'->A < S'.next->B < S'.next->S.next<=A->S.next<=B->A ≠ B->S'.obj A=some (.row 3 ((els func p.funs).set i [.int .i64 f.par,.int .i64 f.vars,.sl 3 B 0 f.blks.length]))->S'.obj B=some (.row 3 (els blkc (f.blks.map Blk.nrm)))->K (.agg [.sl 3 A 0 p.funs.length]) S') :
  Cal P g 65 [encP p,.int .i64 (i:Int)] S K:=by
 refine Cal.inF (by kernel_rfl) ?_;have hi:=(xgS hf).1
 have hroom:p.funs.length<=room:=by simp [room];omega
 have hroom2:f.blks.length<=room:=by simp [room];omega
 have hpn:¬ p.funs.length=0:=by omega
 have hfn:¬ f.blks.length=0:=by omega
 have hfe:(els func p.funs)[i]?=some (func f):=by simp [els,hf]
 have hget:p.funs[i]=f:=by rw [xgG hi] at hf;exact Option.some.inj hf
 obtain ⟨fs,hfs⟩:∃ fs,fs=els func p.funs:=⟨_,rfl⟩;obtain ⟨bs,hbs⟩:∃ bs,bs=els blkc f.blks:=⟨_,rfl⟩
 have hokA:okAll 3 fs:=by
  rw [hfs]
  refine List.all_eq_true.2 fun e he=>?_
  simp only [els,List.mem_map] at he;obtain ⟨h,_,rfl⟩:=he;simp [okEl,func,xAN h.blksS]
 have hokB:okAll 3 bs:=by
  rw [hbs]
  refine List.all_eq_true.2 fun e he=>?_
  simp only [els,List.mem_map] at he;obtain ⟨h,_,rfl⟩:=he;simp [okEl,blkc,xAN h.insS,xAN h.outS]
 have hfl:fs.length=p.funs.length:=by rw [hfs];simp
 have hbl2:bs.length=f.blks.length:=by rw [hbs];simp
 have htA:List.take p.funs.length fs=fs:=List.take_of_length_le (by omega);have htB:List.take f.blks.length bs=bs:=List.take_of_length_le (by omega)
 have heA:elems S p.funsV=some fs:=by rw [hfs];exact p.funsS.elems
 have hsA:∀S:St,elems S p.funsV=some fs:=fun S=>by rw [hfs];exact p.funsS.elems
 have hsB:∀S:St,elems S f.blksV=some bs:=fun S=>by rw [hbs];exact f.blksS.elems
 rw [<- hfs] at hfe
 have hget2:fs[i]'(by omega)=func f:=by rw [xgG (by omega)] at hfe;exact Option.some.inj hfe
 have q1:¬ S.next=S.next + 1:=by omega
 have q2:¬ S.next=S.next + 1 + 1:=by omega
 have q3:¬ S.next=S.next + 1 + 1 + 1:=by omega
 have q4:¬ S.next + 1 + 1=S.next + 1 + 1 + 1:=by omega
 have hmin:∀k:Nat,k=min k k:=fun k=>(Nat.min_self k).symm
 conv=>arg 3;reduce
 simp [hroom,hsA,p.funsS.len,hpn,hi,xAd hi,hfe,hget2,hroom2,hsB,f.blksS.len,hfn,hokA,hokB,hfl,hbl2,htA,htB,q1,q2,q3,q4];generalize hA:S.next + 1 + 1=A at *
 have q5:¬ S.next + 1=A:=by omega
 have hcA:pk (.slice 3 false true true) [.sl 3 A 0 p.funs.length,.int .i64 (p.funs.length:Int),.int .i64 (p.funs.length:Int)]=some (.sl 3 A 0 p.funs.length):=xTi hpn
 refine W.whileI (fun (k:Nat) F S'=>k<=f.blks.length/\F 1=.int .i64 i/\F 2=.ptr S.next 0 0/\F 4=.ptr (S.next + 1) 0 0/\F 5=.sl 3 A 0 p.funs.length/\F 6=.sl 3 (A + 1) 0 f.blks.length/\F 38=.int .i64 f.blks.length/\F 39=.int .i64 k /\
  Up S S'/\S'.next=A + 2/\S'.obj A=some (.row 3 fs)/\S'.obj (A + 1)=some (.row 3 (els blkc (nrmTo f.blks k)))/\S'.obj (S.next + 1)=some (.row 1 [[.nilsl]])) (fun k=>f.blks.length - k) ?_ 0 _ _ ?_
 .rintro k F S' ⟨hk',f1,f2,f4,f5,f6,f38,f39,up,nx,oA,oB,oR⟩;simp [f38,f39];by_cases hlt:k < f.blks.length
  .have e4:=wrapS k (by omega);obtain ⟨y,hy⟩:∃ y,f.blks[k]?=some y:=⟨_,xgG hlt⟩
   have hey:(els blkc (nrmTo f.blks k))[k]?=some (blkc y):=by simp [els,xRm hy]
   have hel:(els blkc (nrmTo f.blks k)).length=f.blks.length:=by simp [xPu]
   have hset:(els blkc (nrmTo f.blks k)).set k [.bool y.on,encF insc 11 y.ins,encF intc 1 y.out]=els blkc (nrmTo f.blks (k + 1)):=by
    rw [<- xPv hy,<- xAg];show _=(els blkc (nrmTo f.blks k)).set k [.bool y.on,y.nrm.insV,y.nrm.outV];rw [Blk.nrm_ins,Blk.nrm_out]
   have hc1:=y.insS.cut3;have hc2:=y.outS.cut3;have ho1:=xAN (xAl (e:=insc) (sz:=11) (l:=y.ins));have ho2:=xAN (xAl (e:=intc) (sz:=1) (l:=y.out));have hk1:(encF insc 11 y.ins).cells=[encF insc 11 y.ins]:=FSl.cells xAl;have hk2:(encF intc 1 y.out).cells=[encF intc 1 y.out]:=FSl.cells xAl;generalize els blkc (nrmTo f.blks k)=es at *
   have hge:∀v,(es.set k v)[k]?=some v:=fun v=>List.getElem?_set_self (by omega)
   simp [hlt,f6,f39,xAd hlt];refine Dra.auto [] mix ?_ ?_
   .kernel_rfl
   simp [classes,oB,hey,blkc,y.insS.len,y.outS.len,hc1,hc2,ho1,ho2,hk1,hk2,hge,xAk,hset,f1,f2,f4,f5,f6,f38,f39,e4,q2];exact ⟨k + 1,by omega,by omega,by omega,up.put (by omega) _,nx,oA,rfl,oR⟩
  .have:k=f.blks.length:=by omega
   subst this;rw [xPw] at oB;simp [f1,f5,f6,xAd hi,oA,hfe,hget2,hcA,f4,oR,q5];refine hk _ A (A + 1) ((up.put (by omega) _).put (by omega) _) (by simp [nx]) (by simp [nx]) (by omega) (by omega) (by omega) ?_ ?_
   .simp [show ¬ A=S.next + 1 by omega,show ¬ A=S.next by omega,hfs]
   .simp [show ¬ A + 1=S.next + 1 by omega,show ¬ A=S.next by omega,oB,q2]
 .simp [xNt,<- hbs,q2,q5];refine ⟨?_,hA,fun h=>by omega⟩
  refine Up.put (Up.more (Up.put (Up.more (Up.more (Up.new _ _) _) _) ?_ _) _) ?_ _ <;> omega
end Go.Proofs.YtnhfofmhkfdpgaaGreatDoor.Vm
