/- A part of the proof: Ri Rj Rk Rl Ro Rp. -/
import Derived.Test.YtchkknkjhiaooaaGreatDoorQ26
set_option linter.unusedVariables false
set_option linter.unusedSimpArgs false
set_option linter.constructorNameAsVariable false
namespace Go.Proofs.YtchkknkjhiaooaaGreatDoor.Vm
open Go Go.RowKit
variable {N:Nat} {g:Glob}
theorem consts_In_none (p:Prg) (i:Int) (hp:p.Fit) (hf:p.fn i=Option.none):Ret P (gl N) false 33 [encP p,.int .i64 i] .nilsl:=by
 refine Ret.in c33 (by simp) ?_
 simp [k33]
 refine (prog_Fun p i hp).use (n:=9) (by simp [mapOpt,pict_stab p.funsS.stab]) (by simp [solids,AV.solid,p.funsS.solid]) ?_
 simp [hf]
 exact RK.stab rfl
noncomputable def Prg.cin (p:Prg) (i:Int):List Env:=match p.fn i with
 | none=>[]
 | some f=>f.cin
noncomputable def Prg.cinV (p:Prg) (i:Int):AV:=match p.fn i with
 | none=>.nilsl
 | some f=>.fsl 2 (els envc f.cin)
theorem Prg.cinS (p:Prg) (i:Int):FSl envc 2 (p.cinV i) (p.cin i):=by
 unfold Prg.cinV Prg.cin
 split
 ·exact .nil
 ·exact .mk
theorem consts_In (p:Prg) (i:Int) (hp:p.Fit):Ret P (gl N) false 33 [encP p,.int .i64 i] (p.cinV i):=by
 unfold Prg.cinV
 split
 ·rename_i hf;exact consts_In_none p i hp hf
 ·rename_i f hf;exact consts_In_some p i hp hf
noncomputable def Fun.cat (f:Fun) (j:Nat) (k:Nat):Env:=pastL (f.cin.getD j Option.none) ((f.code j).take k)
noncomputable def Prg.cat (p:Prg) (i j k:Int):Env:=match p.fn i with
 | none=>Option.none
 | some f=>match f.blk j with
  | none=>Option.none
  | some b=>if 0≤k∧k≤b.ins.length then f.cat j.toNat k.toNat else Option.none
theorem FSl.upto {α:Type} {e:α→List AV} {sz:Nat} {v:AV} {l:List α} (h:FSl e sz v l) {k:Nat} (hk:k≤l.length):∃ v',pk (.slice sz false true false) [v,.int .i64 (k:Int)]=some v'∧FSl e sz v' (l.take k):=by
 rcases h with rfl | ⟨rfl,rfl⟩
 ·refine ⟨.fsl sz (els e (l.take k)),?_,.inl rfl⟩
  simp [pk,bnds,hk,els]
 ·refine ⟨.nilsl,?_,.inr ⟨rfl,by simp⟩⟩
  have:k=0:=by simpa using hk
  subst this
  simp [pk,bnds]
theorem Fun.cat_fit (f:Fun) (j k:Nat):(f.cat j k).fit f.wid:=pastL_fit (f.cin_fit j)
theorem Prg.cat_small (p:Prg) (i j k:Int):(p.cat i j k).small:=by
 unfold Prg.cat
 split
 ·exact fun l h=>by cases h
 ·split
  ·exact fun l h=>by cases h
  ·split
   ·exact Env.fit.small (Fun.cat_fit _ _ _) (Fun.wid_lt _)
   ·exact fun l h=>by cases h
theorem consts_At (p:Prg) (i j k:Int) (hp:p.Fit):Ret P (gl N) false 37 [encP p,.int .i64 i,.int .i64 j,.int .i64 k] (encE (p.cat i j k)):=by
 refine Ret.in c37 (by simp) ?_
 simp [k37]
 refine (prog_Block p i j hp).use (n:=9) (by simp [mapOpt,pict_stab p.funsS.stab]) (by simp [solids,AV.solid,p.funsS.solid]) ?_
 simp
 cases hb:p.blk i j with
 | none =>
  have hat:p.cat i j k=Option.none:=by
   unfold Prg.cat
   split
   ·rfl
   ·rename_i f hf
    have:f.blk j=Option.none:=by simpa [Prg.blk,hf] using hb
    rw [this]
  simp
  rw [hat]
  exact RK.agg (by simp [AV.stab])
 | some b =>
  obtain ⟨f,hf,hfb⟩:∃ f,p.fn i=some f∧f.blk j=some b:=by
   unfold Prg.blk at hb
   cases hf:p.fn i with
   | none=>rw [hf] at hb;cases hb
   | some f=>rw [hf] at hb;exact ⟨f,rfl,hb⟩
  have hbj:f.live j=true∧f.blks[j.toNat]?=some b:=by
   unfold Fun.blk at hfb
   split at hfb
   ·rename_i h;exact ⟨h,hfb⟩
   ·cases hfb
  have hat:p.cat i j k=if 0≤k∧k≤b.ins.length then f.cat j.toNat k.toNat else Option.none:=by
   unfold Prg.cat
   rw [hf];simp only [hfb]
  simp
  refine gua_decF (fun h1=>?_) (fun h1=>?_) <;> simp [h1,b.insS.len]
  ·refine bra_dec (fun h2=>?_) (fun h2=>?_) <;> simp [h2]
   ·rw [hat,if_neg (by omega)]
    exact RK.agg (by simp [AV.stab])
   ·obtain ⟨kn,rfl⟩:∃ n:Nat,k=(n:Int):=⟨k.toNat,by omega⟩
    obtain ⟨jn,rfl⟩:∃ n:Nat,j=(n:Int):=⟨j.toNat,by have:=(live_lt hbj.1).1;omega⟩
    obtain ⟨v',hv',hvf⟩:=b.insS.upto (k:=kn) (by omega)
    have hbl:=(fn_fit hp hf).ins b (List.mem_of_getElem? hbj.2)
    have hjl:=(live_lt hbj.1).2.1
    have hci:f.cin[jn]?=some (f.cin.getD jn Option.none):=by
     have:jn < f.cin.length:=by rw [f.cin_len];omega
     simp [List.getD_eq_getElem?_getD,List.getElem?_eq_getElem this]
    have hcf:FSl envc 2 (.fsl 2 (els envc f.cin)) f.cin:=FSl.mk
    have hco:f.code jn=b.ins:=by have:=hbj.2;simp only [Int.toNat_natCast] at this;simp [Fun.code,this]
    refine Dra.auto [] mix ?_ ?_
    ·kernel_rfl
    simp [classes]
    refine (consts_In_some p i hp hf).b (n:=9) (by simp [mapOpt,pict_stab p.funsS.stab]) (by simp [solids,AV.solid,p.funsS.solid]) ?_
    simp [hcf.idx hci,hv']
    refine (consts_past (f.cin.getD jn Option.none) (b.ins.take kn) v' hvf (by simp;omega) ((f.cin_fit jn).small f.wid_lt)).b (n:=9) (by simp [mapOpt,pict_stab hvf.stab]) (by simp [solids,AV.solid,hvf.solid]) ?_
    simp
    rw [hat,if_pos (by omega)]
    exact RK.env (by simp [Fun.cat,hco])
  ·rw [hat,if_neg (by omega)]
   exact RK.agg (by simp [AV.stab])
theorem consts_Value (p:Prg) (i j k v:Int) (hp:p.Fit):Ret P (gl N) false 30 [encP p,.int .i64 i,.int .i64 j,.int .i64 k,.int .i64 v] (encV ((p.cat i j k).get v)):=by
 refine Ret.in c30 (by simp) ?_
 simp [k30]
 refine (consts_At p i j k hp).use (n:=9) (by simp [mapOpt,pict_stab p.funsS.stab]) (by simp [solids,AV.solid,p.funsS.solid]) ?_
 simp
 refine (env_GetFlat (p.cat i j k) v).use (n:=9) (by simp [mapOpt]) rfl ?_
 simp
 exact RK.agg (by simp [AV.stab])
def knownK (e:Env) (l:List Ins):Nat→List Int
 | 0=>[]
 | k + 1=>knownK e l k ++ (match l[k]? with
  | some x=>if 0≤x.def∧((pastL e (l.take (k + 1))).get x.def).k=1 then [x.id] else []
  | none=>[])
theorem knownK_len (e:Env) (l:List Ins):∀k,(knownK e l k).length≤k
 | 0=>Nat.le_refl _
 | k + 1=>by
  have:=knownK_len e l k
  rw [knownK]
  split
  ·split <;> simp <;> omega
  ·simp;omega
noncomputable def Fun.knownB (f:Fun) (j:Nat):List Int:=knownK (f.cin.getD j Option.none) (f.code j) (f.code j).length
noncomputable def Fun.knownTo (f:Fun) (j:Nat):List Int:=((List.range j).map f.knownB).flatten
theorem Fun.knownTo_succ (f:Fun) (j:Nat):f.knownTo (j + 1)=f.knownTo j ++ f.knownB j:=by simp [Fun.knownTo,List.range_succ]
noncomputable def Fun.known (f:Fun):List Int:=f.knownTo f.blks.length
noncomputable def Prg.known (p:Prg) (i:Int):List Int:=match p.fn i with
 | none=>[]
 | some f=>sorted f.known
theorem Fun.knownB_len {p:Prg} {f:Fun} (h:FunOK p f) (j:Nat):(f.knownB j).length≤16:=by
 refine Nat.le_trans (knownK_len _ _ _) ?_
 unfold Fun.code
 cases hb:f.blks[j]? with
 | none=>simp
 | some b=>simp;exact (h.blk (List.mem_of_getElem? hb)).2.2.2.1
theorem Fun.knownTo_len {p:Prg} {f:Fun} (h:FunOK p f) (j:Nat):(f.knownTo j).length≤j * 16:=by
 induction j with
 | zero=>simp [Fun.knownTo]
 | succ j ih =>
  have:=f.knownB_len h j
  rw [f.knownTo_succ,List.length_append];omega
theorem consts_Known_none (p:Prg) (i:Int) (hp:p.Fit) (hf:p.fn i=Option.none):OwnL P (gl N) intc 1 41 [encP p,.int .i64 i] []:=by
 refine OwnL.in c41 (by simp) ?_
 simp [k41]
 refine (prog_Fun p i hp).use (n:=9) (by simp [mapOpt,pict_stab p.funsS.stab]) (by simp [solids,AV.solid,p.funsS.solid]) ?_
 simp [hf]
 refine (consts_In_none p i hp hf).use (n:=9) (by simp [mapOpt,pict_stab p.funsS.stab]) (by simp [solids,AV.solid,p.funsS.solid]) ?_
 simp
 refine W.whileI (fun (k:Nat) F S=>F 7=.nilsl∧F 22=.int .i64 0∧F 23=.int .i64 0) (fun k=>k) ?_ 0 _ _ ?_
 ·rintro k F S ⟨f7,f22,f23⟩
  simp [f22,f23,f7]
  refine slices_Sort_nil ?_
  simp [f7]
  exact Has.nil
 ·simp
theorem consts_Known_some (p:Prg) (i:Int) (hp:p.Fit) {f:Fun} (hf:p.fn i=some f):OwnL P (gl N) intc 1 41 [encP p,.int .i64 i] (sorted f.known):=by
 have hok:=fn_ok hf
 have hl:=hok.len
 have hsm:=fn_fit hp hf
 refine OwnL.in c41 (by simp) ?_
 simp [k41]
 refine (prog_Fun p i hp).use (n:=9) (by simp [mapOpt,pict_stab p.funsS.stab]) (by simp [solids,AV.solid,p.funsS.solid]) ?_
 simp [hf]
 refine (consts_In_some p i hp hf).use (n:=9) (by simp [mapOpt,pict_stab p.funsS.stab]) (by simp [solids,AV.solid,p.funsS.solid]) ?_
 have hcf:FSl envc 2 (.fsl 2 (els envc f.cin)) f.cin:=FSl.mk
 have hcl:=f.cin_len
 simp [hcl]
 refine W.whileI (fun (a:Nat) F S=>a≤f.blks.length∧F 5=.ptr 1 0 0∧F 21=.fsl 2 (els envc f.cin)∧F 22=.int .i64 f.blks.length∧F 23=.int .i64 a∧1 < S.next∧S.obj 1=some (.row 3 [func f])∧Has intc 1 S (F 7) (f.knownTo a)∧Bel S (F 7)∧(∀q c sz,F 7=.sl sz q 0 c→2≤q)) (fun a=>f.blks.length - a) ?_ 0 _ _ ?_
 ·rintro a F S ⟨ha,f5,f21,f22,f23,hn,s1,h7,b7,n7⟩
  by_cases hlt:a < f.blks.length
  ·have e4:=wrapS a (by omega)
   obtain ⟨b,hb⟩:∃ b,f.blks[a]?=some b:=⟨_,List.getElem?_eq_getElem hlt⟩
   have hci:f.cin[a]?=some (f.cin.getD a Option.none):=by
    have:a < f.cin.length:=by rw [f.cin_len];omega
    simp [List.getD_eq_getElem?_getD,List.getElem?_eq_getElem this]
   have hco:f.code a=b.ins:=by simp [Fun.code,hb]
   have hkl:=f.knownTo_len hok a
   have hbl:=(hok.blk (List.mem_of_getElem? hb)).2.2.2.1
   have hl12:=hl.2
   have hkb:f.knownB a=knownK (f.cin.getD a Option.none) b.ins b.ins.length:=by simp [Fun.knownB,hco]
   have hcfit:=f.cin_fit a
   generalize f.cin.getD a Option.none=e0 at *
   simp [f22,f23,hlt]
   simp [f21,f23,hcf.idx hci,f5,s1,show ¬ 1=S.next by omega,f.blksS.idx hb,b.insS.len]
   refine W.whileI (fun (k:Nat) F' S'=>k≤b.ins.length∧F' 5=.ptr 1 0 0∧F' 21=.fsl 2 (els envc f.cin)∧F' 22=.int .i64 f.blks.length∧F' 23=.int .i64 a∧F' 9=.ptr S.next 0 0∧F' 33=b.insV∧F' 34=.int .i64 b.ins.length∧F' 35=.int .i64 k∧S.next < S'.next∧S'.obj 1=some (.row 3 [func f])∧S'.obj S.next=some (.row 2 [envc (pastL e0 (b.ins.take k))]) ∧
    Has intc 1 S' (F' 7) (f.knownTo a ++ knownK e0 b.ins k)∧Bel S' (F' 7)∧(∀q c sz,F' 7=.sl sz q 0 c→2≤q∧q ≠ S.next)) (fun k=>b.ins.length - k) ?_ 0 _ _ ?_
   ·rintro k F' S' ⟨hk,f5,f21,f22,f23,f9,f33,f34,f35,hn',s1',s9,h7,b7,n7⟩
    by_cases hltk:k < b.ins.length
    ·have e5:=wrapS k (by omega)
     obtain ⟨x,hx⟩:∃ x,b.ins[k]?=some x:=⟨_,List.getElem?_eq_getElem hltk⟩
     have hst:pastL e0 (b.ins.take (k + 1))=x.flat (pastL e0 (b.ins.take k)):=by unfold pastL;rw [foldl_take_succ _ _ _ _ _ hx]
     have hkk:knownK e0 b.ins (k + 1)=knownK e0 b.ins k ++ if 0≤x.def∧((x.flat (pastL e0 (b.ins.take k))).get x.def).k=1 then [x.id] else []:=by rw [knownK,hx,hst]
     have hkn:=knownK_len e0 b.ins k
     simp [f34,f35,hltk]
     simp [f33,f35,b.insS.idx hx,f9,s9,show ¬ S.next=S'.next by omega]
     refine (instr_Flat (pastL e0 (b.ins.take k)) x ((pastL_fit hcfit).small f.wid_lt)).use (n:=9) (by simp [mapOpt]) (by simp [solids,AV.solid]) ?_
     simp [f9,s9,show ¬ S.next=S'.next by omega,show ¬ S'.next=S.next by omega]
     refine (instr_Def x).use (n:=9) (by rfl) rfl ?_
     simp
     generalize hS1:((S'.new (AObj.row 11 [[AV.int IntKind.i64 0,AV.int IntKind.i64 0,AV.int IntKind.i64 0,AV.int IntKind.i64 0,AV.int IntKind.i64 0,AV.int IntKind.i64 0,AV.int IntKind.i64 0,AV.int IntKind.i64 0,AV.int IntKind.i64 0,AV.int IntKind.i64 0,AV.int IntKind.i64 0]])).set S'.next
      (AObj.row 11 [[AV.int IntKind.i64 x.id,AV.int IntKind.i64 x.kind,AV.int IntKind.i64 x.dst,AV.int IntKind.i64 x.a,AV.int IntKind.i64 x.b,AV.int IntKind.i64 x.c,AV.int IntKind.i64 x.f,AV.int IntKind.i64 x.n,AV.int IntKind.i64 x.x0,AV.int IntKind.i64 x.x1,AV.int IntKind.i64 x.x2]])).set S.next (AObj.row 2 [envc (x.flat (pastL e0 (b.ins.take k)))])=S1
     have n1:S1.next=S'.next + 1:=by rw [← hS1];simp
     have o9:S1.obj S.next=some (.row 2 [envc (x.flat (pastL e0 (b.ins.take k)))]):=by rw [← hS1];simp
     have oi:S1.obj S'.next=some (.row 11 [insc x]):=by rw [← hS1];simp [show ¬ S'.next=S.next by omega]
     have oq:∀q,q < S'.next→q ≠ S.next→S1.obj q=S'.obj q:=fun q h1 h2=>by rw [← hS1];simp [h2,show ¬ q=S'.next by omega]
     clear hS1
     have h71:Has intc 1 S1 (F' 7) (f.knownTo a ++ knownK e0 b.ins k):=h7.keep fun q ⟨len,hq⟩=>oq q (b7 _ _ _ hq) (n7 _ _ _ hq).2
     have b71:Bel S1 (F' 7):=b7.mono (by omega)
     have no:¬ (0≤x.def∧((x.flat (pastL e0 (b.ins.take k))).get x.def).k=1)→knownK e0 b.ins (k + 1)=knownK e0 b.ins k:=fun h=>by rw [hkk,if_neg h];simp
     refine gua_dec (fun h1=>?_) (fun h1=>?_) <;> simp [h1]
     ·simp [f9,o9]
      refine (env_GetFlat (x.flat (pastL e0 (b.ins.take k))) x.def).use (n:=9) (by simp [mapOpt]) rfl ?_
      simp
      refine bra_dec (fun h2=>?_) (fun h2=>?_) <;> simp [oi]
      ·refine appV_own (e:=intc) (x:=x.id) (h71.new b71) rfl (by simp [room];omega) fun S2 m1 m2 m3=>?_
       simp at m2 m3
       simp [f5,f9,f21,f22,f23,f33,f34,f35,e5]
       have q7:∀q len,F' 7=.sl 1 q 0 len→q ≠ 1∧q ≠ S.next:=fun q len h=>⟨by have:=(n7 _ _ _ h).1;omega,(n7 _ _ _ h).2⟩
       refine ⟨k + 1,by omega,by omega,by omega,by omega,?_,?_,?_,Bel.sl (by omega),by omega,by omega⟩
       ·rw [m3 1 (by omega) (fun len h=>(q7 _ _ h).1 rfl),if_neg (by omega),oq 1 (by omega) (by omega)];exact s1'
       ·rw [m3 S.next (by omega) (fun len h=>(q7 _ _ h).2 rfl),if_neg (by omega),o9,hst]
       ·rw [hkk,if_pos ⟨h1,h2⟩,← List.append_assoc]
        simpa using m1
      ·simp [f5,f9,f21,f22,f23,f33,f34,f35,e5]
       refine ⟨k + 1,by omega,by omega,by omega,by omega,?_,by rw [o9,hst],?_,b71,n7⟩
       ·rw [oq 1 (by omega) (by omega)];exact s1'
       ·rw [no fun h=>h2 h.2];exact h71
     ·simp [f5,f9,f21,f22,f23,f33,f34,f35,e5]
      refine ⟨k + 1,by omega,by omega,by omega,by omega,?_,by rw [o9,hst],?_,b71,n7⟩
      ·rw [oq 1 (by omega) (by omega)];exact s1'
      ·rw [no fun h=>h1 h.1];exact h71
    ·have:k=b.ins.length:=by omega
     subst this
     simp [f34,f35,f5,f21,f22,f23,e4]
     refine ⟨a + 1,by omega,by omega,by omega,by omega,s1',?_,b7,fun q c sz h=>(n7 q c sz h).1⟩
     rw [f.knownTo_succ,hkb];exact h7
   ·simp [f5,f21,f22,f23,show ¬ 1=S.next by omega]
    refine ⟨s1,rfl,?_,b7.mono (by simp),fun q c sz h=>⟨n7 q c sz h,by have:=b7 sz q c h;omega⟩⟩
    have:f.knownTo a ++ knownK e0 b.ins 0=f.knownTo a:=by simp [knownK]
    rw [this]
    exact h7.keep fun q ⟨len,hq⟩=>by simp [show ¬ q=S.next from by have:=b7 _ _ _ hq;omega]
  ·have:a=f.blks.length:=by omega
   subst this
   simp [f22,f23]
   have hkl:=f.knownTo_len hok f.blks.length
   refine slices_Sort h7 (by omega) fun S1 h1 _ _=>?_
   simp
   exact h1
 ·simp
  exact ⟨Has.nil,Bel.nil⟩
theorem consts_Known (p:Prg) (i:Int) (hp:p.Fit):OwnL P (gl N) intc 1 41 [encP p,.int .i64 i] (p.known i):=by
 unfold Prg.known
 split
 ·rename_i hf;exact consts_Known_none p i hp hf
 ·rename_i f hf;exact consts_Known_some p i hp hf
end Go.Proofs.YtchkknkjhiaooaaGreatDoor.Vm
namespace Go.Proofs.YtchkknkjhiaooaaGreatDoor.Vm
open Go Go.RowKit
variable {N:Nat} {g:Glob}
theorem ref01_Ints (xs ys:List Int) (v w:AV) (hv:FSl intc 1 v xs) (hw:FSl intc 1 w ys) (hl:xs.length < 2 ^ 40):Ret P g false 40 [v,w] (.bool (decide (xs=ys))):=by
 refine Ret.in c40 (by simp) ?_
 simp [k40,hv.len,hw.len]
 by_cases hlen:xs.length=ys.length
 ·simp [hlen,hv.len]
  refine W.whileI (fun (k:Nat) F S=>k≤ys.length∧xs.take k=ys.take k∧F 0=v∧F 1=w∧F 5=.int .i64 k) (fun k=>ys.length - k) ?_ 0 _ _ ?_
  ·rintro k F S ⟨hk,hp,h0,h1,h5⟩
   by_cases hlt:k < ys.length
   ·simp [h0,h5,hv.len,hlen,hlt]
    refine Dra.auto [] mix ?_ ?_
    ·kernel_rfl
    obtain ⟨y,hy⟩:∃ y,ys[k]?=some y:=⟨_,List.getElem?_eq_getElem (by omega)⟩
    obtain ⟨x,hx⟩:∃ x,xs[k]?=some x:=⟨_,List.getElem?_eq_getElem (by omega)⟩
    have e4:=wrapS k (by omega)
    simp [classes,h0,h1,h5,hv.idx hx,hw.idx hy,intc]
    refine bra_ndec (fun hxy=>?_) (fun hxy=>?_)
    ·simp [hxy]
     refine RK.eq ?_ rfl
     have:xs ≠ ys:=by rintro rfl;rw [hx] at hy;simp at hy;exact hxy hy
     simp [this]
    ·simp [hxy,e4,h5,h0,h1]
     refine ⟨k + 1,by omega,by omega,?_,by omega⟩
     rw [List.take_add_one,List.take_add_one,hp,hx,hy]
     have:x=y:=hxy
     subst this;rfl
   ·have:k=ys.length:=by omega
    subst this
    simp [h0,h5,hv.len,hlen]
    refine RK.eq ?_ rfl
    rw [List.take_length,← hlen,List.take_length] at hp
    simp [hp]
  ·simp
 ·have hne:xs ≠ ys:=fun h=>hlen (by rw [h])
  have hlen':¬ ((xs.length:Int)=ys.length):=by omega
  simp [hlen,hlen']
  exact RK.eq (by simp [hne]) rfl
def Env.vals (e:Env):List Val:=e.getD []
def Env.vV:Env→AV
 | none=>.nilsl
 | some l=>.fsl 2 (els valc l)
theorem Env.vS (e:Env):FSl valc 2 e.vV e.vals:=by
 cases e with
 | none=>exact .nil
 | some l=>exact .mk
theorem envc_is (e:Env):envc e=[.bool e.isSome,e.vV]:=by cases e <;> rfl
@[simp] theorem Env.vV_none:Env.vV Option.none=.nilsl:=_root_.id rfl
@[simp] theorem Env.vV_some {l:List Val}:Env.vV (some l)=.fsl 2 (els valc l):=_root_.id rfl
@[simp] theorem Env.vV_one (e:Env):e.vV.one=true:=fsl_one e.vS
def envT (e:Env):List AV:=[.bool e.isSome,encF valc 2 e.vals]
theorem theirFlat_ret (e:Env) (he:e.small):Ret P g false 36 [encE e] (.agg (envT e)):=by
 refine Ret.in c36 (by simp) ?_
 have hvl:e.vals.length < 2 ^ 20:=by
  cases e with
  | none=>simp [Env.vals]
  | some l=>exact he l rfl
 have hv:=e.vS
 rw [encE,envc_is]
 simp [k36]
 refine W.whileI (fun (a:Nat) F S=>a≤e.vals.length∧F 1=.ptr 0 0 0∧F 2=.ptr 1 0 0∧F 3=.ptr 2 0 0∧F 4=.int .i64 a∧2 < S.next∧S.obj 0=some (.row 2 [[.bool e.isSome,e.vV]])∧S.obj 1=some (.row 2 [[.bool false,.nilsl]])∧∃ w,S.obj 2=some (.row 2 [[.bool e.isSome,w]])∧w.one=true∧Has valc 2 S w (e.vals.take a)∧Bel S w∧(∀q c,w=.sl 2 q 0 c→3≤q)) (fun a=>e.vals.length - a) ?_ 0 _ _ ?_
 ·rintro a F S ⟨ha,f1,f2,f3,f4,hn,s0,s1,w,s2,ow,hw,bw,nw⟩
  simp [f1,f4,s0,hv.len]
  by_cases hlt:a < e.vals.length
  ·have e4:=wrapS a (by omega)
   obtain ⟨x,hx⟩:∃ x,e.vals[a]?=some x:=⟨_,List.getElem?_eq_getElem hlt⟩
   simp [hlt]
   refine Dra.auto [] mix ?_ ?_
   ·kernel_rfl
   simp [classes,f1,f3,f4,s0,s2,hv.idx hx]
   refine appV_own (e:=valc) (x:=x) (hw.new bw) rfl (by simp [room];omega) fun S1 m1 m2 m3=>?_
   simp at m2 m3
   have o1:∀q,q < 3→S1.obj q=S.obj q:=fun q hq=>by
    rw [m3 q (by omega) fun len h=>by have:=nw _ _ h;omega,if_neg (by omega)]
   simp [f1,f2,f3,f4,e4,o1 2 (by omega),s2]
   refine ⟨a + 1,by omega,by omega,by omega,by omega,by rw [o1 0 (by omega)];exact s0,by rw [o1 1 (by omega)];exact s1,?_,Bel.sl (by simp;omega),by omega⟩
   rw [take_succ_get hx]
   refine Has.keep (S:=S1) (by simpa using m1) fun q ⟨len,hq⟩=>?_
   cases hq
   simp [show ¬ S.next + 1=2 by omega]
  ·have:a=e.vals.length:=by omega
   subst this
   rw [List.take_length] at hw
   simp [hlt,f2,f3,s1,s2,ow]
   refine ⟨9,?_⟩
   have hp:=(hw.keep (S':=S.set 1 (.row 2 [[.bool e.isSome,w]])) fun q ⟨len,hq⟩=>by have:=nw _ _ hq;simp [show ¬ q=1 by omega]).pict (n:=6)
   simp [mapOpt,hp,envT]
 ·simp
  exact ⟨Has.nil,Bel.nil⟩
theorem ref04_SameFlat (a b:Bool) (xs ys:List Val) (v w:AV) (hv:FSl valc 2 v xs) (hw:FSl valc 2 w ys) (hl:xs.length < 2 ^ 40):Ret P g false 35 [.agg [.bool a,v],.agg [.bool b,w]] (.bool (decide (a=b∧xs=ys))):=by
 refine Ret.in c35 (by simp) ?_
 have ov:=fsl_one hv
 have ow:=fsl_one hw
 simp [k35,ov,ow]
 by_cases hab:a=b
 ·subst hab
  simp [hv.len,hw.len]
  by_cases hlen:xs.length=ys.length
  ·simp [hlen]
   refine W.whileI (fun (k:Nat) F S=>k≤ys.length∧xs.take k=ys.take k∧F 2=.ptr 0 0 0∧F 3=.ptr 1 0 0∧F 5=.int .i64 k∧S.obj 0=some (.row 2 [[.bool a,v]])∧S.obj 1=some (.row 2 [[.bool a,w]])) (fun k=>ys.length - k) ?_ 0 _ _ ?_
   ·rintro k F S ⟨hk,hp,h2,h3,h5,s0,s1⟩
    simp [h2,h5,s0,hv.len,hlen]
    by_cases hlt:k < ys.length
    ·simp [hlt]
     refine Dra.auto [] mix ?_ ?_
     ·kernel_rfl
     obtain ⟨y,hy⟩:∃ y,ys[k]?=some y:=⟨_,List.getElem?_eq_getElem (by omega)⟩
     obtain ⟨x,hx⟩:∃ x,xs[k]?=some x:=⟨_,List.getElem?_eq_getElem (by omega)⟩
     have e4:=wrapS k (by omega)
     have hc:=val_cells_eq x y
     simp at hc
     simp [classes,h2,h3,h5,s0,s1,hv.idx hx,hw.idx hy,hc]
     refine bra_ndec (fun hxy=>?_) (fun hxy=>?_)
     ·simp [hxy]
      refine RK.eq ?_ rfl
      have:xs ≠ ys:=by rintro rfl;rw [hx] at hy;simp at hy;exact hxy hy
      simp [this]
     ·simp [hxy,e4,h2,h3,h5,s0,s1]
      refine ⟨k + 1,by omega,by omega,?_,by omega⟩
      rw [List.take_add_one,List.take_add_one,hp,hx,hy]
      have:x=y:=hxy
      subst this;rfl
    ·have:k=ys.length:=by omega
     subst this
     simp
     refine RK.eq ?_ rfl
     rw [List.take_length,← hlen,List.take_length] at hp
     simp [hp]
   ·simp
  ·have hne:xs ≠ ys:=fun h=>hlen (by rw [h])
   have hlen':¬ ((xs.length:Int)=ys.length):=by omega
   simp [hlen,hlen']
   exact RK.eq (by simp [hne]) rfl
 ·have:(a == b)=false:=by simpa using hab
  simp [this]
  exact RK.eq (by simp [hab]) rfl
theorem sameT (a b:Env) (ha:a.small):Ret P g false 35 [.agg (envT a),.agg (envT b)] (.bool (decide (a=b))):=by
 have hal:a.vals.length < 2 ^ 40:=by
  cases a with
  | none=>simp [Env.vals]
  | some l=>have:=ha l rfl;simp [Env.vals];omega
 have h:=ref04_SameFlat (g:=g) a.isSome b.isSome a.vals b.vals (encF valc 2 a.vals) (encF valc 2 b.vals) encF_sl encF_sl hal
 have e:decide (a.isSome=b.isSome∧a.vals=b.vals)=decide (a=b):=by
  rw [decide_eq_decide]
  cases a <;> cases b <;> simp [Env.vals]
 rwa [e] at h
theorem envT_pict (e:Env) {S:St} {n:Nat}:mapOpt (pict S [] (n + 1)) (envT e)=some (envT e):=by
 have h:FSl valc 2 (encF valc 2 e.vals) e.vals:=encF_sl
 simp [envT,mapOpt,pict_stab h.stab]
end Go.Proofs.YtchkknkjhiaooaaGreatDoor.Vm
namespace Go.Proofs.YtchkknkjhiaooaaGreatDoor.Vm
open Go Go.RowKit
variable {N:Nat} {g:Glob}
def aqB:Blk:=⟨true,[⟨0,0,1,0,0,5,0,0,0,0,0⟩,⟨1,3,0,0,1,0,0,0,0,0,0⟩],false,[],true⟩
def aqF:Fun:=⟨0,2,[aqB],false⟩
def aqP:Prg:=⟨[aqF],false⟩
theorem aqP_fit:aqP.Fit:=by
 refine ⟨by decide,fun f hf=>?_⟩
 simp only [aqP,List.mem_singleton] at hf
 subst hf
 refine ⟨by decide,fun b hb=>?_,fun b hb=>?_⟩ <;> simp only [aqF,List.mem_singleton] at hb <;> subst hb <;> decide
theorem aqP_sane:aqP.sane=true:=by
 rw [Prg.sane_iff]
 refine ⟨by decide,fun f hf=>?_,?_⟩
 ·simp only [aqP,List.mem_singleton] at hf
  subst hf
  have h1:aqF.varsOK:=by decide
  have h2:aqF.blksOK:=by decide
  rw [Prg.funMsg,if_neg (by simpa using h1),if_neg (by simpa using h2)]
  have hb:aqP.blkMsg aqF aqB=[]:=by
   have hr:rises aqB.out=true:=by simp [rises,risesTo,aqB]
   have hi:(aqB.ins.any fun i=>!aqP.insOK aqF i)=false:=by
    rw [List.any_eq_false]
    intro x hx
    simp only [aqB,List.mem_cons,List.not_mem_nil,or_false] at hx
    rcases hx with rfl | rfl
    ·rw [insOK_of (by decide) (by decide) (by decide) (by decide)];simp
    ·rw [insOK_of (by decide) (by decide) (by decide) (by decide)];simp
   rw [Prg.blkMsg,hr,hi]
   decide
  show firstMsg aqP aqF [aqB]=[]
  rw [firstMsg,if_pos hb,firstMsg]
 ·decide
theorem aqP_fn:aqP.fn 0=some aqF:=by
 unfold Prg.fn
 rw [if_pos ⟨by omega,aqP_sane⟩];rfl
theorem aqF_cin:aqF.cin=[some (startL 0 2)]:=by
 have h:=aqF.cin_least
 have hl:aqF.cin.length=1:=aqF.cin_len
 match hc:aqF.cin,hl with
 | [e],_ =>
  rw [hc] at h
  have h2:e=aqF.csys.ev [e] 0:=h.fix 0 e rfl
  have h3:aqF.csys.ev [e] 0=some (startL 0 2):=rfl
  rw [h2,h3]
theorem aqP_cat:aqP.cat 0 0 2=pastL (some (startL 0 2)) aqB.ins:=by
 unfold Prg.cat
 rw [aqP_fn]
 have hb:aqF.blk 0=some aqB:=rfl
 simp only [hb]
 have hl:aqB.ins.length=2:=rfl
 rw [if_pos (by omega),Fun.cat,aqF_cin]
 rfl
theorem aqP_known:aqP.known 0=[0,1]:=by
 unfold Prg.known
 rw [aqP_fn]
 have h1:aqF.known=[0,1]:=by
  unfold Fun.known
  have h2:aqF.knownB 0=[0,1]:=by
   unfold Fun.knownB
   rw [aqF_cin]
   decide
  show aqF.knownTo 1=_
  rw [Fun.knownTo_succ,h2];rfl
 show sorted aqF.known=_
 rw [h1]
 exact List.mergeSort_of_pairwise (by decide)
def aqV0:AV:=.fsl 11 (els insc aqB.ins)
def aqV1:AV:=.fsl 3 [[.bool true,aqV0,.nilsl]]
def aqS0:St:=(((((St.empty.new (AObj.row 11 [[AV.int IntKind.i64 0,AV.int IntKind.i64 0,AV.int IntKind.i64 1,AV.int IntKind.i64 0,AV.int IntKind.i64 0,AV.int IntKind.i64 5,AV.int IntKind.i64 0,AV.int IntKind.i64 0,AV.int IntKind.i64 0,AV.int IntKind.i64 0,AV.int IntKind.i64 0],
  [AV.int IntKind.i64 1,AV.int IntKind.i64 3,AV.int IntKind.i64 0,AV.int IntKind.i64 0,AV.int IntKind.i64 1,AV.int IntKind.i64 0,AV.int IntKind.i64 0,AV.int IntKind.i64 0,AV.int IntKind.i64 0,AV.int IntKind.i64 0,AV.int IntKind.i64 0]])).new (AObj.row 3 [[AV.bool true,AV.sl 11 0 0 2,AV.nilsl]])).new (AObj.row 3 [[AV.int IntKind.i64 0,AV.int IntKind.i64 2,AV.sl 3 1 0 1]])).new (AObj.row 1 [[AV.nilsl]])).set 3 (AObj.row 1 [[AV.sl 3 2 0 1]]))
def aqS1:St:=(aqS0.drop 0).set 1 (.row 3 [[.bool true,aqV0,.nilsl]])
def aqS2:St:=(aqS1.drop 1).set 2 (.row 3 [[.int .i64 0,.int .i64 2,aqV1]])
theorem aqZ1:Fzn aqS0 aqS1 0:=by
 refine ⟨rfl,rfl,fun sz es he z hz=>?_,fun q hq=>?_⟩
 ·have h0:aqS0.obj 0=some (.row 11 (els insc aqB.ins)):=rfl
  rw [h0] at he;cases he
  have:(els insc aqB.ins).flatten.all AV.solid=true:=by decide
  exact List.all_eq_true.1 this z hz
 ·by_cases h1:q=1
  ·subst h1
   exact .inr (.inr ⟨3,_,_,rfl,rfl,⟨.inl rfl,.inr ⟨11,0,2,els insc aqB.ins,rfl,rfl,by decide,rfl⟩,.inl rfl,trivial⟩,trivial⟩)
  ·exact .inr (.inl (by simp [aqS1,hq,h1]))
theorem aqZ2:Fzn aqS1 aqS2 1:=by
 refine ⟨rfl,rfl,fun sz es he z hz=>?_,fun q hq=>?_⟩
 ·have h0:aqS1.obj 1=some (.row 3 [[.bool true,aqV0,.nilsl]]):=rfl
  rw [h0] at he;cases he
  have:([[AV.bool true,aqV0,AV.nilsl]]:List (List AV)).flatten.all AV.solid=true:=by decide
  exact List.all_eq_true.1 this z hz
 ·by_cases h1:q=2
  ·subst h1
   exact .inr (.inr ⟨3,_,_,rfl,rfl,⟨.inl rfl,.inl rfl,.inr ⟨3,0,1,_,rfl,rfl,by decide,rfl⟩,trivial⟩,trivial⟩)
  ·exact .inr (.inl (by simp [aqS2,hq,h1]))
theorem aqP_pict0:mapOpt (pict aqS0 [] 9) [.agg [.sl 3 2 0 1],.int .i64 0,.int .i64 0,.int .i64 2,.int .i64 0]=some [encP aqP,.int .i64 0,.int .i64 0,.int .i64 2,.int .i64 0]:=by rfl
theorem aqP_pict2:mapOpt (pict aqS2 [] 9) [.agg [.sl 3 2 0 1],.int .i64 0]=some [encP aqP,.int .i64 0]:=by rfl
theorem awake20_ret:Ret P (gl N) false 29 [] (.bool true):=by
 refine Ret.in c29 (by simp) ?_
 simp [k29]
 have m0:(aqP.cat 0 0 2).get 0=⟨1,5⟩:=by rw [aqP_cat];decide
 have m1:wrap32 5=5:=rfl
 rw [show (((((St.empty.new (AObj.row 11 [[AV.int IntKind.i64 0,AV.int IntKind.i64 0,AV.int IntKind.i64 1,AV.int IntKind.i64 0,AV.int IntKind.i64 0,AV.int IntKind.i64 5,AV.int IntKind.i64 0,AV.int IntKind.i64 0,AV.int IntKind.i64 0,AV.int IntKind.i64 0,AV.int IntKind.i64 0],
  [AV.int IntKind.i64 1,AV.int IntKind.i64 3,AV.int IntKind.i64 0,AV.int IntKind.i64 0,AV.int IntKind.i64 1,AV.int IntKind.i64 0,AV.int IntKind.i64 0,AV.int IntKind.i64 0,AV.int IntKind.i64 0,AV.int IntKind.i64 0,AV.int IntKind.i64 0]])).new (AObj.row 3 [[AV.bool true,AV.sl 11 0 0 2,AV.nilsl]])).new (AObj.row 3 [[AV.int IntKind.i64 0,AV.int IntKind.i64 2,AV.sl 3 1 0 1]])).new (AObj.row 1 [[AV.nilsl]])).set 3 (AObj.row 1 [[AV.sl 3 2 0 1]]))=aqS0 from rfl]
 refine Cal.freeze ((consts_Value aqP 0 0 2 0 aqP_fit).use (n:=9) aqP_pict0 (by rfl) (.inr ⟨0,_,aqS1,.inl rfl,aqZ1,?_⟩))
 rw [m0]
 simp
 refine Cal.freeze ((flat_Of 5).use (n:=9) (by rfl) (by rfl) (.inr ⟨1,_,aqS2,.inl rfl,aqZ2,?_⟩))
 rw [m1]
 have b2:aqS2.obj 3=some (.row 1 [[.sl 3 2 0 1]]):=rfl
 simp [b2]
 refine (consts_Known aqP 0 aqP_fit).ret.use (n:=9) aqP_pict2 rfl ?_
 rw [aqP_known]
 have b3:aqS2.obj 2=some (.row 3 [[.int .i64 0,.int .i64 2,aqV1]]):=rfl
 have b4:aqS2.next=4:=rfl
 have hk:encF intc 1 [0,1]=.fsl 1 [[.int .i64 0],[.int .i64 1]]:=rfl
 simp [b4,hk]
 refine (ref01_Ints [0,1] [0,1] _ _ .mk .mk (by simp)).use (n:=9) (by rfl) rfl ?_
 simp [b2,b3]
 refine (consts_Start aqF).use (n:=9) (by rfl) (by decide) ?_
 simp
 exact RK.eq rfl rfl
end Go.Proofs.YtchkknkjhiaooaaGreatDoor.Vm
namespace Go.Proofs.YtchkknkjhiaooaaGreatDoor.Vm
open Go Go.RowKit
variable {N:Nat} {g:Glob}
@[simp] theorem guaD_none {d op b yes no}:GuaD d op b .none yes no=no:=_root_.id rfl
@[simp] theorem gua_none {d op b F S K}:Gua P g .none b d op F S K=K .none S:=_root_.id rfl
theorem flat_same {n:Nat} {x:Ins} {e:Env} (he:e.fit n) (h:x.def < 0):x.flat e=e:=by
 cases e with
 | none=>rfl
 | some l =>
  rw [Ins.flat,Env.set_of he _ (x.number_ok _),if_neg (by omega)]
theorem code_at {f:Fun} {j:Nat} {b:Blk} (hb:f.blks[j]?=some b):f.code j=b.ins:=by simp [Fun.code,hb]
theorem cat_blk {p:Prg} {i:Int} {f:Fun} (hf:p.fn i=some f) {j:Nat} {b:Blk} (hb:f.blks[j]?=some b) (hon:b.on=true) {k:Nat} (hk:k≤b.ins.length):p.cat i j k=f.cat j k:=by
 have h:f.blk (j:Int)=some b:=by
  have:f.live (j:Int)=true:=by simp [Fun.live,hb,hon]
  simp [Fun.blk,this,hb]
 unfold Prg.cat
 rw [hf];simp only [h]
 rw [if_pos (by omega)];rfl
theorem FunOK.wid {p:Prg} {f:Fun} (h:FunOK p f):(f.wid:Int)=f.vars:=by
 have:=h.vars
 unfold Fun.varsOK at this
 unfold Fun.wid capN
 omega
end Go.Proofs.YtchkknkjhiaooaaGreatDoor.Vm
namespace Go.Proofs.YtchkknkjhiaooaaGreatDoor.Vm
open Go Go.RowKit
variable {N:Nat} {g:Glob}
theorem wrap32_is (n:Int):wrap32 n=(n + 2147483648) % 4294967296 - 2147483648:=by unfold wrap32;rw [IntKind.wrap_i32]
theorem ref02_Wrap (n:Int):Ret P g false 45 [.int .i64 n] (.int .i64 (wrap32 n)):=by
 refine Ret.in c45 (by simp) ?_
 have hm:(0≤n→n.tmod 4294967296=n % 4294967296)∧(n < 0→n.tmod 4294967296=-((-n) % 4294967296)):=by
  refine ⟨fun h=>Int.tmod_eq_emod_of_nonneg h,fun h=>?_⟩
  have h1:(-n).tmod 4294967296=(-n) % 4294967296:=Int.tmod_eq_emod_of_nonneg (by omega)
  rw [Int.neg_tmod] at h1
  omega
 have hw:=wrap32_is n
 simp [k45]
 generalize n.tmod 4294967296=m at *
 have hb:-4294967296 < m∧m < 4294967296:=by
  by_cases h:0≤n
  ·have:=hm.1 h;omega
  ·have:=hm.2 (by omega);omega
 refine bra_dec (fun h1=>?_) (fun h1=>?_)
 ·have e1:IntKind.i64.wrap (m + 4294967296)=m + 4294967296:=wrap_in (by omega)
  simp [e1]
  refine bra_dec (fun h2=>?_) (fun h2=>?_)
  ·have e2:IntKind.i64.wrap m=m:=wrap_in (by omega)
   simp [e2]
   refine RK.eq ?_ rfl
   congr 1
   by_cases h:0≤n
   ·have:=hm.1 h;omega
   ·have:=hm.2 (by omega);omega
  ·simp
   refine RK.eq ?_ rfl
   congr 1
   by_cases h:0≤n
   ·have:=hm.1 h;omega
   ·have:=hm.2 (by omega);omega
 ·simp
  refine bra_dec (fun h2=>?_) (fun h2=>?_)
  ·have e2:IntKind.i64.wrap (m - 4294967296)=m - 4294967296:=wrap_in (by omega)
   simp [e2]
   refine RK.eq ?_ rfl
   congr 1
   by_cases h:0≤n
   ·have:=hm.1 h;omega
   ·have:=hm.2 (by omega);omega
  ·simp
   refine RK.eq ?_ rfl
   congr 1
   by_cases h:0≤n
   ·have:=hm.1 h;omega
   ·have:=hm.2 (by omega);omega
end Go.Proofs.YtchkknkjhiaooaaGreatDoor.Vm
namespace Go.Proofs.YtchkknkjhiaooaaGreatDoor.Vm
open Go Go.RowKit
variable {N:Nat} {g:Glob}
theorem ref02_Sane (v:Val):Ret P g false 269 [encV v] (.bool v.ok):=by
 refine Ret.in c269 (by simp) ?_
 simp [k269]
 refine bra_dec (fun h1=>?_) (fun h1=>?_) <;> simp [h1]
 ·refine gua_dec (fun h2=>?_) (fun h2=>?_) <;> simp [h2] <;> exact RK.eq (by simp [Val.ok,h1,h2]) rfl
 ·refine gua_decF (fun h2=>?_) (fun h2=>?_) <;> simp [h2]
  ·refine gua_dec (fun h3=>?_) (fun h3=>?_) <;> simp [h3] <;> exact RK.eq (by simp [Val.ok,h1,h2,h3]) rfl
  ·exact RK.eq (by simp [Val.ok,h1,h2]) rfl
theorem ref02_sane (v:Val):Ret P g false 205 [encV v] (encV v.sane):=by
 refine Ret.in c205 (by simp) ?_
 simp [k205]
 refine (ref02_Sane v).use (n:=9) ?_ rfl ?_ <;> simp
 refine bra_ndec' (fun h1=>?_) (fun h1=>?_) <;> simp [h1]
 ·exact RK.aggEq (by simp [Val.sane,h1]) rfl
 ·exact RK.aggEq (by simp [Val.sane,h1]) rfl
def Val.rleq (a b:Val):Bool:=decide (a.sane.k=0 ∨ b.sane.k=2 ∨ a.sane=b.sane)
theorem ref02_Leq (a b:Val):Ret P g false 204 [encV a,encV b] (.bool (a.rleq b)):=by
 refine Ret.in c204 (by simp) ?_
 simp [k204]
 refine (ref02_sane a).use (n:=9) ?_ rfl ?_ <;> simp
 refine (ref02_sane b).use (n:=9) ?_ rfl ?_ <;> simp
 have hc:=val_cells_eq a.sane b.sane
 simp at hc
 refine gua_decF (fun h1=>?_) (fun h1=>?_) <;> simp [h1]
 ·refine gua_decF (fun h2=>?_) (fun h2=>?_) <;> simp [h2]
  ·exact RK.eq (by rw [hc];simp [Val.rleq,h1,h2]) rfl
  ·exact RK.eq (by simp [Val.rleq,h2]) rfl
 ·exact RK.eq (by simp [Val.rleq,h1]) rfl
theorem rjoin_eq (a b:Val):a.join b=if a.rleq b=true then b.sane else if b.rleq a=true then a.sane else ⟨2,0⟩:=by
 have ha:=a.sane_ok
 have hb:=b.sane_ok
 unfold Val.join Val.rleq
 generalize a.sane=x at *
 generalize b.sane=y at *
 simp only [decide_eq_true_eq]
 rcases Val.cases ha with rfl | rfl | ⟨c,rfl⟩ <;> rcases Val.cases hb with rfl | rfl | ⟨d,rfl⟩ <;> simp
 by_cases h:c=d
 ·simp [h]
 ·have:¬ d=c:=fun e=>h e.symm
  simp [h,this]
theorem ref02_Join (a b:Val):Ret P g false 141 [encV a,encV b] (encV (a.join b)):=by
 refine Ret.in c141 (by simp) ?_
 have he:=rjoin_eq a b
 simp [k141]
 refine (ref02_Leq a b).use (n:=9) ?_ rfl ?_ <;> simp
 cases h1:a.rleq b
 ·simp
  refine (ref02_Leq b a).use (n:=9) ?_ rfl ?_ <;> simp
  cases h2:b.rleq a
  ·simp
   exact RK.aggEq (by rw [he];simp [h1,h2]) rfl
  ·simp
   refine (ref02_sane a).use (n:=9) ?_ rfl ?_ <;> simp
   exact RK.aggEq (by rw [he];simp [h1,h2]) rfl
 ·simp
  refine (ref02_sane b).use (n:=9) ?_ rfl ?_ <;> simp
  exact RK.aggEq (by rw [he];simp [h1]) rfl
theorem ref02_Of (n:Int):Ret P g false 94 [.int .i64 n] (encV ⟨1,wrap32 n⟩):=by
 refine Ret.in c94 (by simp) ?_
 simp [k94]
 refine (ref02_Wrap n).use (n:=9) ?_ rfl ?_ <;> simp
 exact RK.agg (by simp [AV.stab])
theorem ref04_val (v:Val):Ret P g false 144 [encV v] (encV v.sane):=by
 refine Ret.in c144 (by simp) ?_
 simp [k144]
 refine (ref02_Join v ⟨0,0⟩).use (n:=9) ?_ rfl ?_ <;> simp
 exact RK.aggEq (by rw [Val.join_zero]) (by simp [AV.stab])
theorem OwnB.in {α:Type} {e:α→List AV} [PlainE e] {sz f n rs c xs} {t:Bool} {l:List α} (h:Fun' P f n rs c) (hn:decide (xs.length≤n)=true) (hv:vc P g c (entry xs) St.empty (KBody rs (fun v S=>∃ w,v=.agg [.bool t,w]∧Has e sz S w l))):Own P g f xs (.agg [.bool t,encO sz l]) (St.ofL (objO e sz l)):=by
 refine Own.ofRenE h.call ((h.in (by simpa using hn) hv).mono fun v S hk=>?_)
 obtain ⟨w,rfl,hk⟩:=hk
 rcases hk with ⟨rfl,rfl⟩ | ⟨o,rfl,ho,hne⟩
 ·exact ⟨[],by simp,by simp [encO],by simp [objO]⟩
 ·exact ⟨[o],by simp,by simp [encO,hne],by simp [objO,hne,ho]⟩
theorem ref04_Flats (n:Int) (v:Val):Own P g 93 [.int .i64 n,encV v] (.agg [.bool true,encO 2 (List.replicate (capN n) v.sane)]) (St.ofL (objO valc 2 (List.replicate (capN n) v.sane))):=by
 refine OwnB.in c93 (by simp) ?_
 have hm:∀a:Nat,(a:Int) < (if 64 < n then 64 else n) ↔ a < capN n:=fun a=>by unfold capN;split <;> omega
 have hc:capN n≤64:=by unfold capN;omega
 simp [k93]
 refine W.whileI (fun (a:Nat) F S=>a≤capN n∧F 0=.int .i64 n∧F 3=.ptr 0 0 0∧F 4=.ptr 1 0 0∧F 5=.ptr 2 0 0∧F 6=.int .i64 a∧2 < S.next∧S.obj 0=some (.row 2 [[.int .i64 v.k,.int .i64 v.c]])∧S.obj 1=some (.row 2 [[.bool false,.nilsl]])∧∃ w,S.obj 2=some (.row 2 [[.bool true,w]])∧w.one=true∧Has valc 2 S w (List.replicate a v.sane)∧Bel S w∧(∀q c,w=.sl 2 q 0 c→3≤q)) (fun a=>capN n - a) ?_ 0 _ _ ?_
 ·rintro a F S ⟨ha,f0,f3,f4,f5,f6,hn,s0,s1,w,s2,ow,hw,bw,nw⟩
  have hma:=hm a
  simp [f0,f6]
  by_cases hlt:a < capN n
  ·have e4:=wrapS a (by omega)
   have h1:=hma.2 hlt
   simp [h1]
   refine Dra.auto [] mix ?_ ?_
   ·kernel_rfl
   simp [classes,f3,f5,s0,s2]
   refine (ref04_val v).b (n:=9) (by simp [mapOpt]) rfl ?_
   simp
   refine appV_own (e:=valc) (x:=v.sane) (hw.new bw) rfl (by simp [room];omega) fun S1 m1 m2 m3=>?_
   simp at m2 m3
   have o1:∀q,q < 3→S1.obj q=S.obj q:=fun q hq=>by
    rw [m3 q (by omega) fun len h=>by have:=nw _ _ h;omega,if_neg (by omega)]
   simp [f0,f3,f4,f5,f6,e4,o1 2 (by omega),s2]
   refine ⟨a + 1,by omega,by omega,by omega,by omega,by rw [o1 0 (by omega)];exact s0,by rw [o1 1 (by omega)];exact s1,?_,Bel.sl (by simp;omega),by omega⟩
   rw [List.replicate_succ']
   refine Has.keep (S:=S1) (by simpa using m1) fun q ⟨len,hq⟩=>?_
   cases hq
   simp [show ¬ S.next + 1=2 by omega]
  ·have:a=capN n:=by omega
   subst this
   have h1:¬ ((capN n:Int) < (if 64 < n then 64 else n)):=fun h=>hlt (hma.1 h)
   simp [h1,f4,f5,s1,s2,ow]
   exact hw.keep fun q ⟨len,hq⟩=>by have:=nw _ _ hq;simp [show ¬ q=1 by omega]
 ·simp
  exact ⟨Has.nil,Bel.nil⟩
theorem ref20_Start (f:Fun):Ret P g false 44 [encFun f] (.agg (envT (some (startL f.par f.vars)))):=by
 have hc:capN f.vars≤64:=by unfold capN;omega
 have hsl:=startL_len f.par f.vars
 have hget:∀k,k < capN f.vars→(startL f.par f.vars)[k]?=some (if (k:Int) < f.par then ⟨2,0⟩ else ⟨1,0⟩):=fun k hk=>by simp [startL,hk]
 have hw:Val.sane ⟨1,wrap32 0⟩=⟨1,0⟩:=rfl
 refine Ret.in c44 (by simp) ?_
 simp [k44]
 refine Dra.auto [] mix ?_ ?_
 ·kernel_rfl
 simp [classes]
 refine (ref02_Of 0).b (n:=9) ?_ rfl ?_ <;> simp
 refine (ref04_Flats f.vars ⟨1,wrap32 0⟩).b' (n:=9) ?_ (by unfold objO;split <;> simp) ?_ <;> simp
 rw [hw]
 generalize hm:capN f.vars=m at *
 by_cases h0:m=0
 ·subst h0
  have hsn:startL f.par f.vars=[]:=List.length_eq_zero_iff.1 hsl
  simp [encO,objO]
  refine W.whileI (fun (a:Nat) F S=>F 1=.ptr 0 0 0∧F 2=.ptr 1 0 0∧F 3=.ptr 2 0 0∧F 4=.int .i64 0∧S.obj 0=some (.row 3 [func f])∧S.obj 1=some (.row 2 [[.bool false,.nilsl]])∧S.obj 2=some (.row 2 [[.bool true,.nilsl]])) (fun a=>a) ?_ 0 _ _ ?_
  ·rintro a F S ⟨f1,f2,f3,f4,s0,s1,s2⟩
   simp [f1,f4,s0]
   refine gua_dec (fun h1=>?_) (fun h1=>?_) <;> simp [h1,f3,f4,s2,f2,s1]
   ·exact ⟨9,by rw [hsn];simp [mapOpt,envT,Env.vals,encF]⟩
   ·exact ⟨9,by rw [hsn];simp [mapOpt,envT,Env.vals,encF]⟩
  ·simp
 ·have hne:List.replicate m (⟨1,0⟩:Val) ≠ []:=by simp [h0]
  simp [encO,objO,hne,h0]
  refine W.whileI (fun (a:Nat) F S=>a≤m∧(a=0 ∨ ((a:Int)≤f.par))∧F 1=.ptr 0 0 0∧F 2=.ptr 1 0 0∧F 3=.ptr 3 0 0∧F 4=.int .i64 a∧S.obj 0=some (.row 3 [func f])∧S.obj 1=some (.row 2 [[.bool false,.nilsl]])∧S.obj 3=some (.row 2 [[.bool true,.sl 2 2 0 m]])∧3 < S.next ∧
   ∃ o:List Val,o.length=m∧o.take a=(startL f.par f.vars).take a∧(∀k,a≤k→k < m→o[k]?=some ⟨1,0⟩)∧S.obj 2=some (.row 2 (els valc o))) (fun a=>m - a) ?_ 0 _ _ ?_
  ·rintro a F S ⟨ha,hap,f1,f2,f3,f4,s0,s1,s3,hn,o,ho,hot,hod,s2⟩
   have fin:¬ ((a:Int) < f.par∧a < m)→RK (.agg (envT (some (startL f.par f.vars)))) (.agg [.bool true,.sl 2 2 0 m]) (S.set 1 (.row 2 [[.bool true,.sl 2 2 0 m]])):=fun hno=>by
    have hoR:o=startL f.par f.vars:=by
     apply List.ext_getElem?
     intro k
     by_cases hk:k < a
     ·have h1:(o.take a)[k]?=((startL f.par f.vars).take a)[k]?:=by rw [hot]
      rw [List.getElem?_take_of_lt hk,List.getElem?_take_of_lt hk] at h1
      exact h1
     ·by_cases hk2:k < m
      ·rw [hod k (by omega) hk2,hget k hk2,if_neg (by omega)]
      ·rw [List.getElem?_eq_none (by omega),List.getElem?_eq_none (by omega)]
    rw [hoR] at s2
    have hp:=pict_rowP (e:=valc) (sz:=2) (S:=S.set 1 (.row 2 [[.bool true,.sl 2 2 0 m]])) (o:=2) (n:=6) (by simp [s2]) hsl
    have hne2:startL f.par f.vars ≠ []:=fun e=>by rw [e] at hsl;simp at hsl;omega
    exact ⟨9,by simp only [pict_aggs,mapOpt,pict_bool,hp];simp [envT,Env.vals,encF,hne2]⟩
   simp [f1,f4,s0]
   refine gua_dec (fun h1=>?_) (fun h1=>?_) <;> simp [h1,f3,f4,s3]
   ·by_cases hlt:a < m
    ·have e4:=wrapS a (by omega)
     simp [hlt]
     simp [f1,f2,f3,f4,s3,ix_sl hlt,s2,hod a (by omega) hlt,e4]
     refine ⟨a + 1,by omega,by omega,by omega,by omega,by simpa using s0,by simpa using s1,hn,o.set a ⟨2,0⟩,by simp [ho],?_,fun k hk1 hk2=>?_,by rw [← els_set];rfl⟩
     ·rw [set_take_succ (by omega),hot,take_succ_get (hget a hlt),if_pos h1]
     ·rw [List.getElem?_set_ne (by omega)];exact hod k (by omega) hk2
    ·simp [f3,s3,hlt,f2,s1]
     exact fin (by omega)
   ·simp [f3,s3,f2,s1]
    exact fin (by omega)
  ·simp
   exact ⟨List.replicate m ⟨1,0⟩,by simp,fun k hk=>by simp [hk],rfl⟩
end Go.Proofs.YtchkknkjhiaooaaGreatDoor.Vm
