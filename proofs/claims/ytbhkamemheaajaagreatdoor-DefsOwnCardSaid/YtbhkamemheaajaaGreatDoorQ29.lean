/- A part of the proof: As Ag Aq At. -/
import Derived.Test.YtbhkamemheaajaaGreatDoorQ28
set_option linter.unusedVariables false
set_option linter.unusedSimpArgs false
set_option linter.constructorNameAsVariable false
namespace Go.Proofs.YtbhkamemheaajaaGreatDoor.Vm
open Go Go.RowKit
set_option maxRecDepth 100000
variable {N:Nat} {g:Glob}
theorem killI_succ (f:Fun) (s:BSet) {l:List Ins} {k:Nat} {x:Ins} (hx:l[k]?=some x):f.killI s (l.take (k + 1))=if 0≤x.def then (f.killI s (l.take k)).or (BSet.ofL 96 (f.dids x.def)) else f.killI s (l.take k):=by
 unfold Fun.killI
 rw [foldl_take_succ _ _ _ _ _ hx]
theorem ids_at {p:Prg} {f:Fun} (hok:FunOK p f) {b:Blk} (hb:b ∈ f.blks) {x:Ins} (hx:x ∈ b.ins) (hd:0≤x.def):(f.idsL f.vars.toNat)[x.def.toNat]?=some (f.dids x.def)∧(f.dids x.def).length < 2 ^ 40:=by
 have hv:=(ins_vars ((hok.blk hb).2.2.2.2 x hx)).2
 have h1:=hok.dids_len x.def
 refine ⟨?_,by omega⟩
 have e:((x.def.toNat:Nat):Int)=x.def:=by omega
 simp [Fun.idsL,show x.def.toNat < f.vars.toNat by omega,e]
structure FlD (f:Fun) (a:Nat) (S:St):Prop where
 n:4≤S.next
 ex:∃ v1 v2 v3,S.obj 3=some (.row 4 [[.int .i64 96,v1,v2,v3]])∧v1.one=true∧v2.one=true∧v3.one=true∧Has prc 1 S v1 ((List.range a).map fun k:Nat=>f.preds k)∧Has setc 2 S v2 ((List.range a).map f.genD)∧Has setc 2 S v3 ((List.range a).map f.killD)∧Bel S v1∧Bel S v2∧Bel S v3 ∧
  Sep v1 v2∧Sep v1 v3∧Sep v2 v3∧(∀q c sz,v1=.sl sz q 0 c→4≤q)∧(∀q c sz,v2=.sl sz q 0 c→4≤q)∧(∀q c sz,v3=.sl sz q 0 c→4≤q)
theorem has_pict_prc {S:St} {v:AV} {G:List (List Int)} (h:Has prc 1 S v G) (hne:0 < G.length) {n:Nat}:Vm.pict S [] (n + 3) v=some (.fsl 1 (els prc G)):=by
 rcases h with ⟨_,h⟩ | ⟨q,rfl,hq,_⟩
 ·rw [h] at hne;simp at hne
 ·refine pict_row hq (by simp) (by simp) fun k e he=>?_
  simp only [els,List.getElem?_map] at he ⊢
  cases hz:G[k]? with
  | none=>rw [hz] at he;cases he
  | some m =>
   rw [hz] at he;cases he
   have hf:FSl intc 1 (encF intc 1 m) m:=encF_sl
   simp [mapOpt,prc,pict_stab hf.stab]
theorem has_pict_set {S:St} {v:AV} {G:List BSet} (h:Has setc 2 S v G) (hne:0 < G.length) {n:Nat}:Vm.pict S [] (n + 3) v=some (.fsl 2 (els setc G)):=by
 rcases h with ⟨_,h⟩ | ⟨q,rfl,hq,_⟩
 ·rw [h] at hne;simp at hne
 ·refine pict_row hq (by simp) (by simp) fun k e he=>?_
  simp only [els,List.getElem?_map] at he ⊢
  cases hz:G[k]? with
  | none=>rw [hz] at he;cases he
  | some m =>
   rw [hz] at he;cases he
   simp [mapOpt]
theorem defs_Flow (p:Prg) (i:Int) (hp:p.Fit) {f:Fun} (hf:p.fn i=some f):Ret P (gl N) false 43 [encP p,.int .i64 i] (flwE f.dflow):=by
 have hok:=fn_ok hf
 have hl:=hok.len
 have hsm:=fn_fit hp hf
 have hpr:∀b,p.preds i b=f.preds b:=fun b=>by simp [Prg.preds,hf]
 refine Ret.in c43 (by simp) ?_
 simp [k43]
 refine (prog_Fun p i hp).use (n:=9) (by simp [mapOpt,pict_stab p.funsS.stab]) (by simp [solids,AV.solid,p.funsS.solid]) ?_
 simp [hf]
 refine (defs_ids p i hp hf).use (n:=9) (by simp [mapOpt,pict_stab p.funsS.stab]) (by simp [solids,AV.solid,p.funsS.solid]) ?_
 have hid:FSl prc 1 (.fsl 1 (els prc (f.idsL f.vars.toNat))) (f.idsL f.vars.toNat):=FSl.mk
 have hids:=fun {b:Blk} (hb:b ∈ f.blks) {x:Ins} (hx:x ∈ b.ins) (hd:0≤x.def)=>ids_at hok hb hx hd
 generalize hA:f.idsL f.vars.toNat=A at *
 generalize hAv:AV.fsl 1 (els prc A)=allv at *
 simp
 refine W.whileI (fun (a:Nat) F S=>a≤f.blks.length∧F 1=.int .i64 i∧F 2=.ptr 0 0 0∧F 4=.ptr 1 0 0∧F 5=.ptr 2 0 0∧F 7=allv∧F 8=.ptr 3 0 0∧F 30=.int .i64 f.blks.length∧F 31=.int .i64 a∧S.obj 0=some (.row 1 [[p.funsV]])∧S.obj 1=some (.row 4 [[.int .i64 0,.nilsl,.nilsl,.nilsl]])∧S.obj 2=some (.row 3 [func f])∧FlD f a S) (fun a=>f.blks.length - a) ?_ 0 _ _ ?_
 ·rintro a F S ⟨ha,f1,f2,f4,f5,f7,f8,f30,f31,s0,s1,s2,sn,v1,v2,v3,s3,o1,o2,o3,h1,h2,h3,b1,b2,b3,p12,p13,p23,n1,n2,n3⟩
  by_cases hlt:a < f.blks.length
  ·have hl12:=hl.2
   have e4:=wrapS a (by omega)
   obtain ⟨b,hb⟩:∃ b,f.blks[a]?=some b:=⟨_,List.getElem?_eq_getElem hlt⟩
   have hbm:=List.mem_of_getElem? hb
   have hbl:=(hok.blk hbm).2.2.2.1
   have hco:f.code a=b.ins:=code_at hb
   simp [f30,f31,hlt]
   simp [f5,s2,f31,f.blksS.idx hb]
   refine (newW (w:=96) (by omega)).use (n:=9) (by simp [mapOpt]) rfl ?_
   simp [b.insS.len]
   generalize hS1:(S.new (.row 2 [[.int .i64 0,.nilsl]])).set S.next (.row 2 [[.int .i64 ((BSet.new 96).n:Int),.fsl 1 (els u64c (BSet.new 96).ws)]])=S1
   have m1:S1.next=S.next + 1:=by rw [← hS1];simp
   have u1:Up S S1:=by rw [← hS1];exact (Up.new _ _).put (Nat.le_refl _) _
   have oK:S1.obj S.next=some (.row 2 [setc (BSet.new 96)]):=by rw [← hS1];simp
   clear hS1
   refine W.whileI (fun (k:Nat) F' S'=>k≤b.ins.length∧F' 1=.int .i64 i∧F' 2=.ptr 0 0 0∧F' 4=.ptr 1 0 0∧F' 5=.ptr 2 0 0∧F' 7=allv∧F' 8=.ptr 3 0 0∧F' 9=.int .i64 a∧F' 10=b.insV∧F' 11=.ptr S.next 0 0∧F' 30=.int .i64 f.blks.length∧F' 31=.int .i64 a∧F' 41=b.insV∧F' 42=.int .i64 b.ins.length∧F' 43=.int .i64 k∧Up S S'∧S.next < S'.next∧S'.obj S.next=some (.row 2 [setc (f.killI (BSet.new 96) (b.ins.take k))])) (fun k=>b.ins.length - k) ?_ 0 _ _ ?_
   ·rintro k F' S' ⟨hk,g1,g2,g4,g5,g7,g8,g9,g10,g11,g30,g31,g41,g42,g43,hup,hn,oS⟩
    have hso:=killI_ok (f:=f) (b.ins.take k) new96
    by_cases hltk:k < b.ins.length
    ·have e5:=wrapS k (by omega)
     obtain ⟨x,hx⟩:∃ x,b.ins[k]?=some x:=⟨_,List.getElem?_eq_getElem hltk⟩
     have hst:=killI_succ f (BSet.new 96) hx
     simp [g42,g43,hltk]
     simp [g41,g43,b.insS.idx hx]
     refine (instr_Def x).use (n:=9) (by rfl) rfl ?_
     simp
     by_cases hd:0≤x.def
     ·obtain ⟨hA1,hA2⟩:=hids hbm (List.mem_of_getElem? hx) hd
      obtain ⟨dn,hdn⟩:∃ n:Nat,x.def=(n:Int):=⟨x.def.toNat,by omega⟩
      have hix:pk (.indexAddr 1) [allv,.int .i64 x.def]=some (.fptr (prc (f.dids x.def)) 0):=by
       rw [hdn,Int.toNat_natCast] at hA1
       rw [hdn]
       exact hid.idx hA1
      have hmf:FSl intc 1 (encF intc 1 (f.dids x.def)) (f.dids x.def):=encF_sl
      have hofl:(BSet.ofL 96 (f.dids x.def)).OK:=BSet.ofL_ok (by omega) _
      rw [if_pos hd] at hst
      simp [hd]
      refine Dra.auto [] mix ?_ ?_
      ·kernel_rfl
      simp [classes,g7,g11,oS,hix,prc,fsl_one hmf,show ¬ S.next=S'.next by omega]
      refine (ofW_ret (w:=96) (by omega) hmf hA2).b (n:=9) (by simp [mapOpt,pict_stab hmf.stab]) rfl ?_
      simp
      refine (union_ret hso.1 hofl).b (n:=9) (by simp [mapOpt]) rfl ?_
      simp [g1,g2,g4,g5,g7,g8,g9,g10,g11,g30,g31,g41,g42,g43,e5,oS,show ¬ S.next=S'.next by omega]
      exact ⟨k + 1,by omega,by omega,by omega,((hup.more _).put (by omega) _).put (by omega) _,by omega,by rw [hst];exact ⟨rfl,rfl⟩⟩
     ·rw [if_neg hd] at hst
      simp [hd,g1,g2,g4,g5,g7,g8,g9,g10,g11,g30,g31,g41,g42,g43,e5]
      exact ⟨k + 1,by omega,by omega,by omega,(hup.more _).put (by omega) _,by omega,by rw [hst];simp [show ¬ S.next=S'.next by omega,oS]⟩
    ·have:k=b.ins.length:=by omega
     subst this
     rw [List.take_length] at oS
     have hkd:f.killD a=f.killI (BSet.new 96) b.ins:=by unfold Fun.killD;rw [hco]
     have hgd:f.genD a=f.pastD (BSet.new 96) b.ins:=by unfold Fun.genD;rw [hco]
     rw [← hkd] at oS
     have hko:(f.killD a).OK∧(f.killD a).n=96:=killI_ok _ new96
     have hgo:(f.genD a).OK∧(f.genD a).n=96:=pastD_ok _ new96
     have t0:=hup.2 0 (by omega)
     have t1:=hup.2 1 (by omega)
     have t2:=hup.2 2 (by omega)
     have t3:=hup.2 3 (by omega)
     rw [s0] at t0;rw [s1] at t1;rw [s2] at t2;rw [s3] at t3
     have hh1:Has prc 1 S' v1 ((List.range a).map fun k:Nat=>f.preds k):=h1.keep fun q ⟨len,hq⟩=>hup.2 q (b1 _ _ _ hq)
     have hh2:Has setc 2 S' v2 ((List.range a).map f.genD):=h2.keep fun q ⟨len,hq⟩=>hup.2 q (b2 _ _ _ hq)
     have hh3:Has setc 2 S' v3 ((List.range a).map f.killD):=h3.keep fun q ⟨len,hq⟩=>hup.2 q (b3 _ _ _ hq)
     have hcl:(encF intc 1 (f.preds a)).cells=[encF intc 1 (f.preds a)]:=FSl.cells encF_sl
     have hone1:=fsl_one (encF_sl (e:=intc) (sz:=1) (l:=f.preds a))
     simp [g42,g43]
     refine Dra.auto [] mix ?_ ?_
     ·kernel_rfl
     simp [classes,g1,g2,g8,g9,t0,t3]
     refine (prog_Preds p i a hp).ret.b (n:=9) (by simp [mapOpt,pict_stab p.funsS.stab]) rfl ?_
     rw [hpr]
     simp [hcl]
     refine appV_own (e:=prc) (x:=f.preds a) (hh1.new (b1.mono (by omega))) (by simp [okEl,prc,hone1]) (by simp [room];omega) fun S2 k1 k2 k3=>?_
     simp at k2 k3
     have r3:S2.obj 3=some (.row 4 [[.int .i64 96,v1,v2,v3]]):=by rw [k3 3 (by omega) fun len h=>by have:=n1 _ _ _ h;omega,if_neg (by omega)];exact t3
     simp [g8,r3]
     generalize hS3:S2.set 3 (.row 4 [[.int .i64 96,.sl 1 (S'.next + 1) 0 (a + 1),v2,v3]])=S3
     have q3:S3.obj 3=some (.row 4 [[.int .i64 96,.sl 1 (S'.next + 1) 0 (a + 1),v2,v3]]):=by rw [← hS3];simp
     have nx3:S3.next=S'.next + 2:=by rw [← hS3];simp [k2]
     have qo:∀q,q < S'.next→q ≠ 3→(∀len,v1 ≠ .sl 1 q 0 len)→S3.obj q=S'.obj q:=fun q hq h3q hv=>by rw [← hS3];simp [h3q];rw [k3 q (by omega) hv,if_neg (by omega)]
     have hw1:Has prc 1 S3 (.sl 1 (S'.next + 1) 0 (a + 1)) ((List.range (a + 1)).map fun k:Nat=>f.preds k):=by
      rw [List.range_succ,List.map_append]
      have k1':Has prc 1 S2 (.sl 1 (S'.next + 1) 0 (a + 1)) ((List.range a).map (fun k:Nat=>f.preds k) ++ [f.preds (a:Int)]):=by simpa using k1
      exact k1'.keep fun q ⟨len,hq⟩=>by cases hq;rw [← hS3];simp [show ¬ S'.next + 1=3 by omega]
     clear hS3 k1 k2 k3 r3
     have w2:Has setc 2 S3 v2 ((List.range a).map f.genD):=hh2.keep fun q ⟨len,hq⟩=>qo q (by have:=b2 _ _ _ hq;omega) (by have:=n2 _ _ _ hq;omega) fun len' h=>p12 _ _ _ _ _ h hq
     have w3:Has setc 2 S3 v3 ((List.range a).map f.killD):=hh3.keep fun q ⟨len,hq⟩=>qo q (by have:=b3 _ _ _ hq;omega) (by have:=n3 _ _ _ hq;omega) fun len' h=>p13 _ _ _ _ _ h hq
     have z1:∀q,q < 4→∀len,v1 ≠ .sl 1 q 0 len:=fun q hq len h=>by have:=n1 _ _ _ h;omega
     have y0:S3.obj 0=some (.row 1 [[p.funsV]]):=by rw [qo 0 (by omega) (by omega) (z1 0 (by omega))];exact t0
     have y1:S3.obj 1=some (.row 4 [[.int .i64 0,.nilsl,.nilsl,.nilsl]]):=by rw [qo 1 (by omega) (by omega) (z1 1 (by omega))];exact t1
     have y2:S3.obj 2=some (.row 3 [func f]):=by rw [qo 2 (by omega) (by omega) (z1 2 (by omega))];exact t2
     have yK:S3.obj S.next=some (.row 2 [setc (f.killD a)]):=by rw [qo S.next (by omega) (by omega) fun len h=>by have:=b1 _ _ _ h;omega];exact oS
     refine Dra.auto [] mix ?_ ?_
     ·kernel_rfl
     simp [classes,g7,g8,g10,q3]
     refine (newW (w:=96) (by omega)).b (n:=9) (by simp [mapOpt]) rfl ?_
     simp
     refine (defs_past (N:=N) (f:=f) new96 b.insS (by omega) hid (fun x hx hd=>hids hbm hx hd)).b (n:=9) (by simp [mapOpt,g7,g10,pict_stab b.insS.stab,pict_stab hid.stab]) (by simp [solids,AV.solid,g7,g10,b.insS.solid,hid.solid]) ?_
     rw [← hgd]
     simp
     refine appV_own (e:=setc) (x:=f.genD a) (w2.new (b2.mono (by omega))) (by simp [okEl]) (by simp [room];omega) fun S4 k1 k2 k3=>?_
     simp at k2 k3
     have r3:S4.obj 3=some (.row 4 [[.int .i64 96,.sl 1 (S'.next + 1) 0 (a + 1),v2,v3]]):=by rw [k3 3 (by omega) fun len h=>by have:=n2 _ _ _ h;omega,if_neg (by omega)];exact q3
     simp [g8,r3]
     generalize hS5:S4.set 3 (.row 4 [[.int .i64 96,.sl 1 (S'.next + 1) 0 (a + 1),.sl 2 (S3.next + 1) 0 (a + 1),v3]])=S5
     have q5:S5.obj 3=some (.row 4 [[.int .i64 96,.sl 1 (S'.next + 1) 0 (a + 1),.sl 2 (S3.next + 1) 0 (a + 1),v3]]):=by rw [← hS5];simp
     have nx5:S5.next=S3.next + 2:=by rw [← hS5];simp [k2]
     have qo5:∀q,q < S3.next→q ≠ 3→(∀len,v2 ≠ .sl 2 q 0 len)→S5.obj q=S3.obj q:=fun q hq h3q hv=>by rw [← hS5];simp [h3q];rw [k3 q (by omega) hv,if_neg (by omega)]
     have hw2:Has setc 2 S5 (.sl 2 (S3.next + 1) 0 (a + 1)) ((List.range (a + 1)).map f.genD):=by
      rw [List.range_succ,List.map_append]
      have k1':Has setc 2 S4 (.sl 2 (S3.next + 1) 0 (a + 1)) ((List.range a).map f.genD ++ [f.genD a]):=by simpa using k1
      exact k1'.keep fun q ⟨len,hq⟩=>by cases hq;rw [← hS5];simp [show ¬ S3.next + 1=3 by omega]
     clear hS5 k1 k2 k3 r3
     have x1:Has prc 1 S5 (.sl 1 (S'.next + 1) 0 (a + 1)) ((List.range (a + 1)).map fun k:Nat=>f.preds k):=hw1.keep fun q ⟨len,hq⟩=>by
      cases hq
      exact qo5 _ (by omega) (by omega) fun len' h=>by have:=b2 _ _ _ h;omega
     have x3:Has setc 2 S5 v3 ((List.range a).map f.killD):=w3.keep fun q ⟨len,hq⟩=>qo5 q (by have:=b3 _ _ _ hq;omega) (by have:=n3 _ _ _ hq;omega) fun len' h=>p23 _ _ _ _ _ h hq
     have z2:∀q,q < 4→∀len,v2 ≠ .sl 2 q 0 len:=fun q hq len h=>by have:=n2 _ _ _ h;omega
     have c0:S5.obj 0=some (.row 1 [[p.funsV]]):=by rw [qo5 0 (by omega) (by omega) (z2 0 (by omega))];exact y0
     have c1:S5.obj 1=some (.row 4 [[.int .i64 0,.nilsl,.nilsl,.nilsl]]):=by rw [qo5 1 (by omega) (by omega) (z2 1 (by omega))];exact y1
     have c2:S5.obj 2=some (.row 3 [func f]):=by rw [qo5 2 (by omega) (by omega) (z2 2 (by omega))];exact y2
     have cK:S5.obj S.next=some (.row 2 [setc (f.killD a)]):=by rw [qo5 S.next (by omega) (by omega) fun len h=>by have:=b2 _ _ _ h;omega];exact yK
     simp [g8,g11,q5,cK]
     refine appV_own (e:=setc) (x:=f.killD a) (x3.new (b3.mono (by omega))) (by simp [okEl]) (by simp [room];omega) fun S6 k1 k2 k3=>?_
     simp at k2 k3
     have r3:S6.obj 3=some (.row 4 [[.int .i64 96,.sl 1 (S'.next + 1) 0 (a + 1),.sl 2 (S3.next + 1) 0 (a + 1),v3]]):=by rw [k3 3 (by omega) fun len h=>by have:=n3 _ _ _ h;omega,if_neg (by omega)];exact q5
     simp [g1,g2,g4,g5,g7,g8,g30,g31,e4,r3]
     have z3:∀q,q < 4→∀len,v3 ≠ .sl 2 q 0 len:=fun q hq len h=>by have:=n3 _ _ _ h;omega
     have qo7:∀q,q < S5.next→q ≠ 3→(∀len,v3 ≠ .sl 2 q 0 len)→S6.obj q=S5.obj q:=fun q hq h3q hv=>by rw [k3 q (by omega) hv,if_neg (by omega)]
     refine ⟨a + 1,by omega,by omega,by omega,?_,?_,?_,by simp [k2];omega,.sl 1 (S'.next + 1) 0 (a + 1),.sl 2 (S3.next + 1) 0 (a + 1),.sl 2 (S5.next + 1) 0 (a + 1),by simp,rfl,rfl,rfl,?_,?_,?_,Bel.sl (by simp [k2];omega),Bel.sl (by simp [k2];omega),Bel.sl (by simp [k2]),?_,?_,?_,?_,?_,?_⟩
     ·rw [qo7 0 (by omega) (by omega) (z3 0 (by omega))];exact c0
     ·rw [qo7 1 (by omega) (by omega) (z3 1 (by omega))];exact c1
     ·rw [qo7 2 (by omega) (by omega) (z3 2 (by omega))];exact c2
     ·exact x1.keep fun q ⟨len,hq⟩=>by
       cases hq
       simp [show ¬ S'.next + 1=3 by omega]
       exact qo7 _ (by omega) (by omega) fun len' h=>by have:=b3 _ _ _ h;omega
     ·exact hw2.keep fun q ⟨len,hq⟩=>by
       cases hq
       simp [show ¬ S3.next + 1=3 by omega]
       exact qo7 _ (by omega) (by omega) fun len' h=>by have:=b3 _ _ _ h;omega
     ·rw [List.range_succ,List.map_append]
      have k1':Has setc 2 S6 (.sl 2 (S5.next + 1) 0 (a + 1)) ((List.range a).map f.killD ++ [f.killD a]):=by simpa using k1
      exact k1'.keep fun q ⟨len,hq⟩=>by cases hq;simp [show ¬ S5.next + 1=3 by omega]
     ·intro sz sz' q c d h1 h2;cases h1;simp at h2;omega
     ·intro sz sz' q c d h1 h2;cases h1;simp at h2;omega
     ·intro sz sz' q c d h1 h2;cases h1;simp at h2;omega
     ·intro q c sz h;cases h;omega
     ·intro q c sz h;cases h;omega
     ·intro q c sz h;cases h;omega
   ·simp [f1,f2,f4,f5,f7,f8,f30,f31]
    exact ⟨u1,by omega,by simpa [Fun.killI] using oK⟩
  ·have:a=f.blks.length:=by omega
   subst this
   have q1:=fun n=>has_pict_prc h1 (by simp;omega) (n:=n)
   have q2:=fun n=>has_pict_set h2 (by simp;omega) (n:=n)
   have q3:=fun n=>has_pict_set h3 (by simp;omega) (n:=n)
   have hT:∀q,q ≠ 1→(S.set 1 (.row 4 [[.int .i64 96,v1,v2,v3]])).obj q=S.obj q:=fun q hq=>by simp [hq]
   have t1:Has prc 1 (S.set 1 (.row 4 [[.int .i64 96,v1,v2,v3]])) v1 ((List.range f.blks.length).map fun k:Nat=>f.preds k):=h1.keep fun q ⟨len,hq⟩=>hT q (by have:=n1 _ _ _ hq;omega)
   have t2:Has setc 2 (S.set 1 (.row 4 [[.int .i64 96,v1,v2,v3]])) v2 ((List.range f.blks.length).map f.genD):=h2.keep fun q ⟨len,hq⟩=>hT q (by have:=n2 _ _ _ hq;omega)
   have t3:Has setc 2 (S.set 1 (.row 4 [[.int .i64 96,v1,v2,v3]])) v3 ((List.range f.blks.length).map f.killD):=h3.keep fun q ⟨len,hq⟩=>hT q (by have:=n3 _ _ _ hq;omega)
   simp [f30,f31,f4,f8,s1,s3,o1,o2,o3]
   refine ⟨9,?_⟩
   have w1:=has_pict_prc t1 (by simp;omega) (n:=5)
   have w2:=has_pict_set t2 (by simp;omega) (n:=5)
   have w3:=has_pict_set t3 (by simp;omega) (n:=5)
   simp only [pict_aggs,mapOpt,pict_int,w1,w2,w3,Option.map]
   rfl
 ·simp
  exact ⟨by simp,.nilsl,.nilsl,.nilsl,by simp,rfl,rfl,rfl,Has.nil,Has.nil,Has.nil,Bel.nil,Bel.nil,Bel.nil,Sep.nilL,Sep.nilL,Sep.nilL,(fun _ _ _ h=>by cases h),(fun _ _ _ h=>by cases h),(fun _ _ _ h=>by cases h)⟩
theorem defs_In (p:Prg) (i:Int) (hp:p.Fit) {f:Fun} (hf:p.fn i=some f):Ret P (gl N) false 11 [encP p,.int .i64 i] (.fsl 2 (els setc ((List.range f.blks.length).map f.din))):=by
 have hok:=fn_ok hf
 have hl:=hok.len
 have hF:=dflow_ok hok
 have h1:=defs_Flow (N:=N) p i hp hf
 have h2:=flw_Solve (g:=gl N) hF
 rw [← Fun.ends_eq hF] at h2
 have hxg:=f.ends_good
 have hxl:=f.ends_len hF
 have hxf:FSl setc 2 (.fsl 2 (els setc f.ends)) f.ends:=FSl.mk
 obtain ⟨w1,w2,w3,he,f1,f2,f3⟩:=flw_cut f.dflow
 have c1:w1.cells=[w1]∧w1.one=true:=⟨f1.cells,fsl_one f1⟩
 have c2:w2.cells=[w2]∧w2.one=true:=⟨f2.cells,fsl_one f2⟩
 have c3:w3.cells=[w3]∧w3.one=true:=⟨f3.cells,fsl_one f3⟩
 rw [he] at h1 h2
 have hrl:f.dflow.rs.length=f.blks.length:=dflow_len f
 refine Ret.in c11 (by simp) ?_
 simp [k11]
 refine (h1).use (n:=9) (by simp [mapOpt,pict_stab p.funsS.stab]) (by simp [solids,AV.solid,p.funsS.solid]) ?_
 simp [c1,c2,c3]
 refine (h2).use (n:=9) (by simp [mapOpt,pict_stab f1.stab,pict_stab f2.stab,pict_stab f3.stab]) (by simp [solids,AV.solid,f1.solid,f2.solid,f3.solid]) ?_
 simp [f1.len,hrl]
 refine W.whileI (fun (a:Nat) F S=>a≤f.blks.length∧F 6=.fsl 2 (els setc f.ends)∧F 23=w1∧F 24=.int .i64 f.blks.length∧F 25=.int .i64 a∧Has setc 2 S (F 8) ((List.range a).map f.din)∧Bel S (F 8)) (fun a=>f.blks.length - a) ?_ 0 _ _ ?_
 ·rintro a F S ⟨ha,g6,g23,g24,g25,h8,b8⟩
  by_cases hlt:a < f.blks.length
  ·have hl12:=hl.2
   have e4:=wrapS a (by omega)
   have hra:f.dflow.rs[a]?=some (f.preds a):=by simp [Fun.dflow,Fun.pgr,hlt]
   have hmf:FSl intc 1 (encF intc 1 (f.preds a)) (f.preds a):=encF_sl
   have hin:=(Flw.rd_in hF a).2
   rw [dflow_rs hlt,hrl] at hin
   have hml:(f.preds a).length≤f.blks.length:=f.predsTo_len _ _
   have hdin:f.din a=orAll 96 f.ends (f.preds a):=rfl
   have hdo:=f.din_ok a
   simp [g24,g25,hlt]
   simp [g23,g25,f1.idx hra,prc,fsl_one hmf]
   refine (newW (w:=96) (by omega)).use (n:=9) (by simp [mapOpt]) rfl ?_
   simp [hmf.len]
   rw [hdin] at hdo
   generalize hm:f.preds a=m at *
   let sk:Nat→BSet:=fun k=>(m.take k).foldl (fun s j=>s.or (f.ends.getD j.toNat (BSet.new 96))) (BSet.new 96)
   have hsk:∀k,(sk k).OK∧(sk k).n=96:=fun k=>by
    obtain ⟨h1,h2,_⟩:=orAll_fold (by omega) hxg (m.take k) (BSet.new 96) new96.1 rfl
    exact ⟨h1,h2⟩
   refine W.whileI (fun (k:Nat) F' S'=>k≤m.length∧F' 6=.fsl 2 (els setc f.ends)∧F' 8=F 8∧F' 11=.ptr S.next 0 0∧F' 23=w1∧F' 24=.int .i64 f.blks.length∧F' 25=.int .i64 a∧F' 30=encF intc 1 m∧F' 31=.int .i64 m.length∧F' 32=.int .i64 k∧Up S S'∧S.next < S'.next∧S'.obj S.next=some (.row 2 [setc (sk k)])) (fun k=>m.length - k) ?_ 0 _ _ ?_
   ·rintro k F' S' ⟨hk,g6,g8,g11,g23,g24,g25,g30,g31,g32,hup,hn,p2⟩
    by_cases hltk:k < m.length
    ·obtain ⟨j,hj⟩:∃ j,m[k]?=some j:=⟨_,List.getElem?_eq_getElem hltk⟩
     obtain ⟨hj0,hjn⟩:=hin j (List.mem_of_getElem? hj)
     obtain ⟨jn,rfl⟩:∃ n:Nat,j=(n:Int):=⟨j.toNat,by omega⟩
     obtain ⟨sj,hsj⟩:∃ s,f.ends[jn]?=some s:=⟨_,List.getElem?_eq_getElem (by omega)⟩
     have hsjo:=hxg sj (List.mem_of_getElem? hsj)
     have e5:=wrapS k (by omega)
     have hst:sk (k + 1)=(sk k).or sj:=by
      show (m.take (k + 1)).foldl _ _=_
      rw [foldl_take_succ _ _ _ _ _ hj]
      simp [List.getD_eq_getElem?_getD,hsj,sk]
     simp [g31,g32,hltk]
     simp [g30,g32,hmf.idx hj,intc]
     refine Dra.auto [] mix ?_ ?_
     ·kernel_rfl
     simp [classes,g6,g11,p2,hxf.idx hsj]
     refine (union_ret (hsk k).1 hsjo.1).b (n:=9) (by simp [mapOpt]) rfl ?_
     simp [g6,g8,g11,g23,g24,g25,g30,g31,g32,e5,p2]
     exact ⟨k + 1,by omega,by omega,by omega,hup.put (Nat.le_refl _) _,hn,by rw [hst];exact ⟨rfl,rfl⟩⟩
    ·have:k=m.length:=by omega
     subst this
     have hfin:sk m.length=f.din a:=by
      rw [hdin]
      show (m.take m.length).foldl _ _=_
      rw [List.take_length];rfl
     rw [hfin] at p2
     have h8':Has setc 2 S' (F 8) ((List.range a).map f.din):=h8.keep fun q ⟨len,hq⟩=>hup.2 q (b8 _ _ _ hq)
     simp [g31,g32,g8,g11,p2]
     refine appV_own (e:=setc) (x:=f.din a) (h8'.new (b8.mono (by omega))) (by simp [okEl]) (by simp [room];omega) fun S2 k1 k2 k3=>?_
     simp [g6,g23,g24,g25,e4]
     refine ⟨a + 1,by omega,by omega,by omega,?_,Bel.sl (by simp at k2;omega)⟩
     rw [List.range_succ,List.map_append]
     simpa using k1
   ·simp [g6,g23,g24,g25]
    exact ⟨(Up.new _ _).put (Nat.le_refl _) _,by simp [sk],by simp [sk]⟩
  ·have:a=f.blks.length:=by omega
   subst this
   simp [g24,g25]
   exact ⟨9,has_pict_set h8 (by simp;omega)⟩
 ·simp
  exact ⟨Has.nil,Bel.nil⟩
noncomputable def Prg.dat (p:Prg) (i j k:Int):BSet:=match p.fn i with
 | none=>BSet.new 96
 | some f=>match f.blk j with
  | none=>BSet.new 96
  | some b=>if 0≤k∧k≤b.ins.length then f.dat j.toNat k.toNat else BSet.new 96
theorem Prg.dat_ok (p:Prg) (i j k:Int):(p.dat i j k).OK∧(p.dat i j k).n=96:=by
 unfold Prg.dat
 split
 ·exact new96
 ·split
  ·exact new96
  ·split
   ·exact Fun.dat_ok _ _ _
   ·exact new96
theorem dat_blk {p:Prg} {i:Int} {f:Fun} (hf:p.fn i=some f) {j:Nat} {b:Blk} (hb:f.blks[j]?=some b) (hon:b.on=true) {k:Nat} (hk:k≤b.ins.length):p.dat i j k=f.dat j k:=by
 have h:f.blk (j:Int)=some b:=by
  have:f.live (j:Int)=true:=by simp [Fun.live,hb,hon]
  simp [Fun.blk,this,hb]
 unfold Prg.dat
 rw [hf];simp only [h]
 rw [if_pos (by omega)];rfl
theorem defs_At (p:Prg) (i j k:Int) (hp:p.Fit):Ret P (gl N) false 15 [encP p,.int .i64 i,.int .i64 j,.int .i64 k] (encB (p.dat i j k)):=by
 refine Ret.in c15 (by simp) ?_
 simp [k15]
 refine (prog_Block p i j hp).use (n:=9) (by simp [mapOpt,pict_stab p.funsS.stab]) (by simp [solids,AV.solid,p.funsS.solid]) ?_
 simp
 cases hb:p.blk i j with
 | none =>
  have hat:p.dat i j k=BSet.new 96:=by
   unfold Prg.dat
   split
   ·rfl
   ·rename_i f hf
    have:f.blk j=Option.none:=by simpa [Prg.blk,hf] using hb
    rw [this]
  simp
  refine (newW (w:=96) (by omega)).use (n:=9) (by simp [mapOpt]) rfl ?_
  simp
  rw [hat]
  exact RK.aggEq rfl rfl
 | some b =>
  obtain ⟨f,hf,hfb⟩:∃ f,p.fn i=some f∧f.blk j=some b:=by
   unfold Prg.blk at hb
   cases hf:p.fn i with
   | none=>rw [hf] at hb;cases hb
   | some f=>rw [hf] at hb;exact ⟨f,rfl,hb⟩
  have hok:=fn_ok hf
  obtain ⟨jn,rfl,hbj,hon⟩:=blk_at hfb
  have hjl:=(List.getElem?_eq_some_iff.1 hbj).1
  have hbm:=List.mem_of_getElem? hbj
  have hbl:=(hok.blk hbm).2.2.2.1
  have hat:p.dat i jn k=if 0≤k∧k≤b.ins.length then f.dat jn k.toNat else BSet.new 96:=by
   unfold Prg.dat
   rw [hf];simp only [hfb,Int.toNat_natCast]
  rw [hat]
  simp
  by_cases hk0:k < 0
  ·simp [hk0]
   refine (newW (w:=96) (by omega)).use (n:=9) (by simp [mapOpt]) rfl ?_
   simp
   rw [if_neg (by omega)]
   exact RK.aggEq rfl rfl
  ·by_cases hk1:k≤b.ins.length
   ·obtain ⟨kn,rfl⟩:∃ n:Nat,k=(n:Int):=⟨k.toNat,by omega⟩
    obtain ⟨v',hv',hvf⟩:=b.insS.upto (k:=kn) (by omega)
    have hdf:FSl setc 2 (.fsl 2 (els setc ((List.range f.blks.length).map f.din))) ((List.range f.blks.length).map f.din):=FSl.mk
    have hdi:((List.range f.blks.length).map f.din)[jn]?=some (f.din jn):=by simp [hjl]
    have hid:FSl prc 1 (.fsl 1 (els prc (f.idsL f.vars.toNat))) (f.idsL f.vars.toNat):=FSl.mk
    have hco:f.code jn=b.ins:=code_at hbj
    simp [show ¬ (b.ins.length:Int) < kn by omega]
    refine Dra.auto [] mix ?_ ?_
    ·kernel_rfl
    simp [classes]
    refine (defs_In p i hp hf).b (n:=9) (by simp [mapOpt,pict_stab p.funsS.stab]) (by simp [solids,AV.solid,p.funsS.solid]) ?_
    simp [hdf.idx hdi,hv']
    refine (defs_ids p i hp hf).b (n:=9) (by simp [mapOpt,pict_stab p.funsS.stab]) (by simp [solids,AV.solid,p.funsS.solid]) ?_
    simp
    refine (defs_past (N:=N) (f:=f) (f.din_ok jn) hvf (by simp;omega) hid (fun x hx hd=>ids_at hok hbm (List.mem_of_mem_take hx) hd)).b (n:=9) (by simp [mapOpt,pict_stab hvf.stab]) (by simp [solids,AV.solid,hvf.solid]) ?_
    simp
    rw [if_pos (by omega)]
    exact RK.aggEq (by simp [Fun.dat,hco]) rfl
   ·simp [hk0,show (b.ins.length:Int) < k by omega]
    refine (newW (w:=96) (by omega)).use (n:=9) (by simp [mapOpt]) rfl ?_
    simp
    rw [if_neg (by omega)]
    exact RK.aggEq rfl rfl
end Go.Proofs.YtbhkamemheaajaaGreatDoor.Vm
namespace Go.Proofs.YtbhkamemheaajaaGreatDoor.Vm
open Go Go.RowKit
variable {N:Nat} {g:Glob}
theorem flat_uniq {l:List (List Int)} (h:l.flatten.Nodup) {i j:Nat} {m n:List Int} (hi:l[i]?=some m) (hj:l[j]?=some n) {a:Int} (ha:a ∈ m) (hb:a ∈ n):i=j:=by
 have h2:=(List.pairwise_flatten.1 h).2
 rw [List.pairwise_iff_getElem] at h2
 obtain ⟨hi1,hi2⟩:=List.getElem?_eq_some_iff.1 hi
 obtain ⟨hj1,hj2⟩:=List.getElem?_eq_some_iff.1 hj
 rcases Nat.lt_trichotomy i j with hlt | heq | hlt
 ·exact absurd rfl (h2 i j hi1 hj1 hlt a (by rw [hi2];exact ha) a (by rw [hj2];exact hb))
 ·exact heq
 ·exact absurd rfl (h2 j i hj1 hi1 hlt a (by rw [hj2];exact hb) a (by rw [hi2];exact ha))
theorem map_uniq:∀{l:List Ins},(l.map Ins.id).Nodup→∀{x y:Ins},x ∈ l→y ∈ l→x.id=y.id→x=y
 | [],_,x,y,hx,_,_=>by cases hx
 | z :: l,h,x,y,hx,hy,e=>by
  rw [List.map_cons,List.nodup_cons] at h
  rcases List.mem_cons.1 hx with hx1 | hx1
  ·rcases List.mem_cons.1 hy with hy1 | hy1
   ·rw [hx1,hy1]
   ·exact absurd (List.mem_map.2 ⟨y,hy1,by rw [← e,hx1]⟩) h.1
  ·rcases List.mem_cons.1 hy with hy1 | hy1
   ·exact absurd (List.mem_map.2 ⟨x,hx1,by rw [e,hy1]⟩) h.1
   ·exact map_uniq h.2 hx1 hy1 e
theorem fn_ids {p:Prg} {i:Int} {f:Fun} (h:p.fn i=some f):f.ids.Nodup:=by
 obtain ⟨h1,h2,h3⟩:=fn_sane h
 have h4:=(Prg.sane_iff.1 h1).2.2
 unfold Prg.ids at h4
 exact (List.pairwise_flatten.1 h4).1 f.ids (List.mem_map.2 ⟨f,List.mem_of_getElem? h3,rfl⟩)
theorem id_uniq {p:Prg} {i:Int} {f:Fun} (h:p.fn i=some f) {a c:Nat} {x y:Ins} {A C:Blk} (hA:f.blks[a]?=some A) (hC:f.blks[c]?=some C) (hx:x ∈ A.ins) (hy:y ∈ C.ins) (e:x.id=y.id):a=c∧x=y:=by
 have hn:=fn_ids h
 unfold Fun.ids at hn
 have h1:a=c:=flat_uniq hn (i:=a) (j:=c) (by rw [List.getElem?_map,hA];rfl) (by rw [List.getElem?_map,hC];rfl) (List.mem_map.2 ⟨x,hx,rfl⟩) (List.mem_map.2 ⟨y,hy,e.symm⟩)
 subst h1
 rw [hA] at hC;cases hC
 exact ⟨rfl,map_uniq ((List.pairwise_flatten.1 hn).1 A.ids (List.mem_map.2 ⟨A,List.mem_of_getElem? hA,rfl⟩)) hx hy e⟩
theorem past_src {f:Fun} (v:Nat):∀(l:List Ins),(∀x ∈ l,x.fine)→∀{s:BSet},s.OK∧s.n=96→(f.pastD s l).mem v=true→s.mem v=true ∨ ∃ x ∈ l,0≤x.def∧x.id=(v:Int)
 | [],_,s,_,h=>.inl h
 | x :: l,hl,s,hs,h=>by
  have e:f.pastD s (x :: l)=f.pastD (if 0≤x.def then x.reach s (f.dids x.def) else s) l:=rfl
  rw [e] at h
  by_cases hd:0≤x.def
  ·rw [if_pos hd] at h
   rcases past_src v l (fun y hy=>hl y (by simp [hy])) (reach_ok hs _) h with h1 | ⟨y,hy,h2⟩
   ·rw [reach_mem hs (hl x (by simp)) hd] at h1
    simp only [Bool.or_eq_true,Bool.and_eq_true,decide_eq_true_eq] at h1
    rcases h1 with h1 | h1
    ·exact .inl h1.1
    ·exact .inr ⟨x,by simp,hd,h1.symm⟩
   ·exact .inr ⟨y,by simp [hy],h2⟩
  ·rw [if_neg hd] at h
   rcases past_src v l (fun y hy=>hl y (by simp [hy])) hs h with h1 | ⟨y,hy,h2⟩
   ·exact .inl h1
   ·exact .inr ⟨y,by simp [hy],h2⟩
def Fun.rg (f:Fun):List (List Int):=rclean (rclean f.gout)
def Fun.Far (f:Fun) (c b:Nat):Prop:=∃ l m,f.rg[c]?=some l∧((m:Nat):Int) ∈ l∧Rch f.rg m b
theorem rch_far {G:List (List Int)} {c j:Nat} (h:Rch G c j):∀{b:Nat} {l:List Int},G[j]?=some l→(b:Int) ∈ l→∃ l' m,G[c]?=some l'∧((m:Nat):Int) ∈ l'∧Rch G m b:=by
 induction h with
 | base=>intro b l hl hb;exact ⟨l,b,hl,hb,.base⟩
 | step _ h2 h3 ih =>
  intro b l hl hb
  obtain ⟨l',m,h4,h5,h6⟩:=ih h2 h3
  exact ⟨l',m,h4,h5,.step h6 hl hb⟩
theorem rg_edge {p:Prg} {f:Fun} (hok:FunOK p f) {a b:Nat} {x:Blk} (hx:f.blks[a]?=some x) (hb:(b:Int) ∈ x.out):∃ l,f.rg[a]?=some l∧(b:Int) ∈ l:=by
 have h1:=hok.blk (List.mem_of_getElem? hx)
 have hon:x.on=true:=by
  cases ho:x.on with
  | true=>rfl
  | false=>rw [(h1.1 ho).2] at hb;cases hb
 have hbl:=(live_lt (h1.2.2.1 _ hb)).2.1
 have ha:=(List.getElem?_eq_some_iff.1 hx).1
 have hg:x.gout=x.out:=by simp [Blk.gout,hon]
 have hl:f.gout.length=f.blks.length:=by simp [Fun.gout]
 have hl2:(rclean f.gout).length=f.blks.length:=by simp [rclean,hl]
 have e1:f.gout[a]?=some x.out:=by simp [Fun.gout,hx,hg]
 have e2:(rclean f.gout)[a]?=some (rcl x.out f.blks.length):=by simp [rclean,e1,hl]
 have e3:f.rg[a]?=some (rcl (rcl x.out f.blks.length) f.blks.length):=by
  unfold Fun.rg
  rw [rclean,List.getElem?_map,e2,hl2];rfl
 refine ⟨_,e3,?_⟩
 rw [rcl_mem,rcl_mem]
 exact ⟨⟨hb,by omega,by omega⟩,by omega,by omega⟩
def Fun.src (f:Fun) (i v:Nat):Prop:=v < 96∧∃ c y x,Rch f.rg c i∧f.blks[c]?=some y∧x ∈ y.ins∧0≤x.def∧x.id=(v:Int)
open Classical in
noncomputable def Fun.srcAt (f:Fun) (i:Nat):BSet:=BSet.ofL 96 (((List.range 96).filter fun v=>decide (f.src i v)).map fun v:Nat=>(v:Int))
theorem srcAt_mem (f:Fun) (i v:Nat):(f.srcAt i).mem v=true ↔ f.src i v:=by
 unfold Fun.srcAt
 rw [BSet.ofL_mem (by omega)]
 simp only [Bool.and_eq_true,decide_eq_true_eq,List.mem_map,List.mem_filter,List.mem_range]
 constructor
 ·rintro ⟨h1,w,⟨h2,h3⟩,h4⟩
  have:w=v:=by omega
  subst this;exact h3
 ·intro h
  exact ⟨h.1,v,⟨h.1,h⟩,rfl⟩
theorem srcAt_ok (f:Fun) (i:Nat):(f.srcAt i).OK∧(f.srcAt i).n=96:=⟨BSet.ofL_ok (by omega) _,BSet.ofL_n _ _⟩
theorem ends_src {p:Prg} {f:Fun} (hok:FunOK p f) {i v:Nat} {s:BSet} (hs:f.ends[i]?=some s) (hv:s.mem v=true):f.src i v:=by
 have hF:=dflow_ok hok
 have hpost:(f.dflow.sys hF).Post ((List.range f.blks.length).map f.srcAt):=by
  have hgo:GoodW f.dflow.w ((List.range f.blks.length).map f.srcAt):=fun a ha=>by
   obtain ⟨k,_,rfl⟩:=List.mem_map.1 ha
   exact srcAt_ok f k
  refine ⟨⟨?_,hgo⟩,fun k a ha=>?_⟩
  ·show ((List.range f.blks.length).map f.srcAt).length=f.dflow.rs.length
   rw [dflow_len];simp
  ·have hk:k < f.blks.length:=by have:=(List.getElem?_eq_some_iff.1 ha).1;simpa using this
   have hae:a=f.srcAt k:=by rw [List.getElem?_map,List.getElem?_range hk] at ha;exact (Option.some.inj ha).symm
   subst hae
   intro w hw
   have hw':(f.dflow.ev ((List.range f.blks.length).map f.srcAt) k).mem w=true:=hw
   rw [Flw.ev_mem hF hgo] at hw'
   have hw2:((f.dflow.gen.getD k (BSet.new 96)).mem w || (((f.dflow.rs.getD k []).any fun j=>(((List.range f.blks.length).map f.srcAt).getD j.toNat (BSet.new 96)).mem w) && !(f.dflow.kill.getD k (BSet.new 96)).mem w))=true:=hw'
   rw [dflow_gen hk,dflow_rs hk] at hw2
   rw [srcAt_mem]
   simp only [Bool.or_eq_true,Bool.and_eq_true,List.any_eq_true] at hw2
   rcases hw2 with h1 | ⟨⟨j,hj,h1⟩,_⟩
   ·rcases past_src w _ (fun x hx=>hok.fine hx) new96 h1 with h2 | ⟨x,hx,h3,h4⟩
    ·rw [BSet.new_mem] at h2;cases h2
    ·obtain ⟨b,hb,hxb⟩:=Fun.code_mem hx
     exact ⟨by have:=(hok.fine hx).2.2;omega,k,b,x,.base,hb,hxb,h3,h4⟩
   ·obtain ⟨jn,y,rfl,hy,hby⟩:=Fun.preds_mem.1 hj
    have hjl:=(List.getElem?_eq_some_iff.1 hy).1
    have e:(((List.range f.blks.length).map f.srcAt).getD ((jn:Int)).toNat (BSet.new 96))=f.srcAt jn:=by
     simp [List.getD_eq_getElem?_getD,hjl]
    rw [e,srcAt_mem] at h1
    obtain ⟨hw96,c,z,x,hr,hz,hx,hd,hid⟩:=h1
    obtain ⟨l,hl,hbl⟩:=rg_edge hok hy hby
    exact ⟨hw96,c,z,x,.step hr hl hbl,hz,hx,hd,hid⟩
 have hsol:=hs
 rw [Fun.ends_eq hF] at hsol
 have hi:i < f.blks.length:=by rw [← f.ends_len hF];exact (List.getElem?_eq_some_iff.1 hs).1
 have:=(Flw.sol_least hF).low _ hpost i s (f.srcAt i) hsol (by rw [List.getElem?_map,List.getElem?_range hi];rfl)
 exact (srcAt_mem f i v).1 (this v hv)
theorem din_far {p:Prg} {f:Fun} (hok:FunOK p f) {b v:Nat} (h:(f.din b).mem v=true):v < 96∧∃ c y x,f.Far c b∧f.blks[c]?=some y∧x ∈ y.ins∧0≤x.def∧x.id=(v:Int):=by
 rw [f.din_mem,List.any_eq_true] at h
 obtain ⟨j,hj,h1⟩:=h
 obtain ⟨jn,y,rfl,hy,hby⟩:=Fun.preds_mem.1 hj
 rw [Int.toNat_natCast] at h1
 have hjl:=(List.getElem?_eq_some_iff.1 hy).1
 rw [List.getD_eq_getElem?_getD,f.ends_dat hok hjl] at h1
 obtain ⟨hv,c,z,x,hr,hz,hx,hd,hid⟩:=ends_src hok (f.ends_dat hok hjl) h1
 obtain ⟨l,hl,hbl⟩:=rg_edge hok hy hby
 exact ⟨hv,c,z,x,rch_far hr hl hbl,hz,hx,hd,hid⟩
theorem din_ins {p:Prg} {i:Int} {f:Fun} (hf:p.fn i=some f) {b c v:Nat} {y:Blk} {x:Ins} (h:(f.din b).mem v=true) (hy:f.blks[c]?=some y) (hx:x ∈ y.ins) (hid:x.id=(v:Int)):f.Far c b∧0≤x.def:=by
 obtain ⟨_,c',y',x',h1,h2,h3,h4,h5⟩:=din_far (fn_ok hf) h
 obtain ⟨rfl,rfl⟩:=id_uniq hf hy h2 hx h3 (by rw [hid,h5])
 exact ⟨h1,h4⟩
end Go.Proofs.YtbhkamemheaajaaGreatDoor.Vm
namespace Go.Proofs.YtbhkamemheaajaaGreatDoor.Vm
open Go Go.RowKit
variable {N:Nat} {g:Glob}
theorem list_one {l:List Int} {a:Int} (hn:l.Nodup) (h:∀v,v ∈ l ↔ v=a):l=[a]:=by
 cases l with
 | nil=>exact absurd ((h a).2 rfl) (by simp)
 | cons x t =>
  have hx:x=a:=(h x).1 (by simp)
  subst hx
  cases t with
  | nil=>rfl
  | cons y t =>
   have hy:y=x:=(h y).1 (by simp)
   rw [List.nodup_cons] at hn
   exact absurd (by simp [hy]) hn.1
noncomputable def Fun.ofD (f:Fun) (s:BSet) (v:Int):List Int:=(s.meet (BSet.ofL 96 (f.dids v))).list
theorem ofD_ok {f:Fun} {s:BSet} (hs:s.OK∧s.n=96) (v:Int):(s.meet (BSet.ofL 96 (f.dids v))).OK∧(s.meet (BSet.ofL 96 (f.dids v))).n=96:=by
 refine ⟨BSet.meet_ok hs.1 (BSet.ofL_ok (by omega) _),?_⟩
 rw [BSet.meet_n,BSet.ofL_n,hs.2,Nat.max_self]
theorem ofD_mem {f:Fun} {s:BSet} (hs:s.OK∧s.n=96) {v d:Int}:d ∈ f.ofD s v ↔ 0≤d∧s.mem d.toNat=true∧d ∈ f.dids v:=by
 have h1:(BSet.ofL 96 (f.dids v)).OK:=BSet.ofL_ok (by omega) _
 unfold Fun.ofD
 rw [BSet.list_mem (ofD_ok hs v).1,BSet.meet_mem hs.1 h1,BSet.ofL_mem (by omega)]
 simp only [Bool.and_eq_true,decide_eq_true_eq]
 constructor
 ·rintro ⟨h0,h2,_,h4⟩
  have e:((d.toNat:Nat):Int)=d:=by omega
  rw [e] at h4
  exact ⟨h0,h2,h4⟩
 ·rintro ⟨h0,h2,h4⟩
  have e:((d.toNat:Nat):Int)=d:=by omega
  refine ⟨h0,h2,?_,by rw [e];exact h4⟩
  apply Classical.byContradiction
  intro hno
  rw [BSet.mem_top hs.1 (by rw [hs.2];omega)] at h2
  cases h2
theorem code_insts {f:Fun} {j:Nat} {b:Blk} {x:Ins} (hb:f.blks[j]?=some b) (hx:x ∈ b.ins):x ∈ f.insts:=Fun.insts_mem.2 ⟨b,List.mem_of_getElem? hb,hx⟩
theorem ofD_one {p:Prg} {f:Fun} (hok:FunOK p f) {j k:Nat} {b:Blk} {x:Ins} (hb:f.blks[j]?=some b) (hx:b.ins[k]?=some x) (hd:0≤x.def):f.ofD (f.dat j (k + 1)) x.def=[x.id]:=by
 have hxm:=List.mem_of_getElem? hx
 have hfine:=ins_fine ((hok.blk (List.mem_of_getElem? hb)).2.2.2.2 x hxm)
 refine list_one (BSet.list_nodup _) fun v=>?_
 rw [ofD_mem (f.dat_ok j (k + 1)),Fun.dat_succ hb hx,if_pos hd]
 have hid:x.id ∈ f.dids x.def:=Fun.dids_mem.2 ⟨x,code_insts hb hxm,rfl,rfl⟩
 constructor
 ·rintro ⟨h0,h1,h2⟩
  have e:((v.toNat:Nat):Int)=v:=by omega
  rw [reach_mem (f.dat_ok j k) hfine hd,e] at h1
  simp only [h2,decide_true,Bool.and_true,Bool.or_eq_true,Bool.and_eq_true,decide_eq_true_eq] at h1
  rcases h1 with ⟨h3,h4⟩ | h1
  ·have:v.toNat < 96:=by
    apply Classical.byContradiction
    intro hno
    rw [BSet.mem_top (f.dat_ok j k).1 (by rw [(f.dat_ok j k).2];omega)] at h3
    cases h3
   simp [this] at h4
  ·exact h1
 ·rintro rfl
  have e:((x.id.toNat:Nat):Int)=x.id:=by have:=hfine.2.1;omega
  refine ⟨hfine.2.1,?_,hid⟩
  rw [reach_mem (f.dat_ok j k) hfine hd,e]
  simp
theorem insts_uniq {p:Prg} {i:Int} {f:Fun} (h:p.fn i=some f) {x y:Ins} (hx:x ∈ f.insts) (hy:y ∈ f.insts) (e:x.id=y.id):x=y:=by
 obtain ⟨A,hA,hxA⟩:=Fun.insts_mem.1 hx
 obtain ⟨C,hC,hyC⟩:=Fun.insts_mem.1 hy
 obtain ⟨a,ha⟩:=List.getElem?_of_mem hA
 obtain ⟨c,hc⟩:=List.getElem?_of_mem hC
 exact (id_uniq h ha hc hxA hyC e).2
end Go.Proofs.YtbhkamemheaajaaGreatDoor.Vm
namespace Go.Proofs.YtbhkamemheaajaaGreatDoor.Vm
open Go Go.RowKit
set_option maxRecDepth 100000
variable {N:Nat} {g:Glob}
theorem gBr : P.globalNamed "math/bits.deBruijn64tab" = some 1 := by kernel_rfl
theorem tab_at {w : World} (h : Lib.TabIs P w "math/bits.deBruijn64tab" .u8 (Lib.deBruijn64tab.map fun z : Nat => (z : Int))) : TabAt 1 Lib.deBruijn64tab w := by
 intro j hj
 have h1:=World.var?_cell gBr h j
 rw [h1]
 have hz:Lib.deBruijn64tab[j]?=some (Lib.deBruijn64tab.getD j 0):=by
  rw [List.getD_eq_getElem?_getD,List.getElem?_eq_getElem hj];rfl
 simp only [List.getElem?_toArray,List.getElem?_map]
 rw [hz];rfl
theorem bits_TZ (x:Nat) (h:x < 2 ^ 64):Ret P (gl N) false 131 [.int .u64 (x:Int)] (.int .i64 (Lib.ctz 64 x:Nat)):=by
 refine ⟨c131.call,?_⟩
 intro w av vs xs hG hvs hz
 subst hz
 cases hvs with
 | cons v y vs xs hv hvs =>
 cases hvs
 have:=hv.int_inv;subst this
 refine Calls.mono (Tryz.bits_TrailingZeros64 x h w fun _=>tab_at hG.2.1.2.here) ?_
 rintro e w' ⟨rfl,rfl⟩
 refine ⟨_,_,St.empty,fun _=>none,rfl,⟨⟨1,rfl⟩,fun h=>by cases h⟩,Below.refl _ _,?_,.int _ _⟩
 refine ⟨?_,?_,?_,?_,?_,Nat.le_refl _⟩
 ·intro o x h;cases h
 ·intro o o' l l' x x' h;cases h
 ·intro o x h;cases h
 ·intro o l h;cases h
 ·intro o x l h;cases h
theorem all_fn {s:BSet} {S:St} {K:AV→St→Prop} (hk:K (.func (.func 130) [] [.ptr S.next 0 0]) (S.new (.row 2 [setc s]))):Cal P g 86 [encB s] S K:=by
 refine c86.in (by simp) ?_
 simp [k86]
 simpa using hk
theorem bits_all1 {yf:AV} (hyc:yf.cells=[yf]) {o:Nat} {s:BSet} (hs:s.OK) {S:St} {K:AV→St→Prop} (ho:S.obj o=some (.row 2 [setc s])) (Inv:List Int→St→Prop) (h0:Inv [] S)
  (hst:∀(L:List Int) (v:Int) (S':St),L.length < 64 * s.ws.length→Inv L S'→∀K':AV→St→Prop,(∀S'',Inv (L ++ [v]) S''→K' (.bool true) S'')→CalV P (gl N) yf [.int .i64 v] S' K')
  (hk:∀S',Inv s.list S'→K (.tuple []) S'):Cal P (gl N) 130 [yf,.ptr o 0 0] S K:=by
 refine c130.in (by simp) ?_
 have hnw:=nw_le hs.n
 have hsl:=hs.len
 have hwf:FSl u64c 1 (.fsl 1 (els u64c s.ws)) s.ws:=FSl.mk
 simp [k130,hyc,ho]
 refine W.whileI (fun (k:Nat) F S=>k≤s.ws.length∧F 0=yf∧F 6=.fsl 1 (els u64c s.ws)∧F 7=.int .i64 s.ws.length∧F 8=.int .i64 k∧Inv (s.listTo k) S) (fun k=>s.ws.length - k) ?_ 0 _ _ ?_
 ·rintro k F S ⟨hk',f0,f6,f7,f8,hI⟩
  by_cases hlt:k < s.ws.length
  ·have e4:=wrapS k (by omega)
   obtain ⟨x,hx⟩:∃ x,s.ws[k]?=some x:=⟨_,List.getElem?_eq_getElem hlt⟩
   have hxl:=hs.lt x (List.mem_of_getElem? hx)
   have hst1:=BSet.listTo_succ hx
   have hl1:=s.listTo_len (k + 1)
   simp [f7,f8,hlt]
   simp [f6,f8,hwf.idx hx,u64c]
   refine W.whileI (fun (z:Nat × List Nat) F' S'=>z.1 < 2 ^ 64∧bitsW x=z.2 ++ bitsW z.1∧F' 0=yf∧F' 3=.int .i64 k∧F' 4=.int .u64 z.1∧F' 6=.fsl 1 (els u64c s.ws)∧F' 7=.int .i64 s.ws.length∧F' 8=.int .i64 k∧Inv (s.listTo k ++ z.2.map fun j:Nat=>((k * 64 + j:Nat):Int)) S') (fun z=>(bitsW z.1).length) ?_ (x,[]) _ _ ?_
   ·rintro ⟨w,L⟩ F' S' ⟨hw,hbw,g0,g3,g4,g6,g7,g8,hI'⟩
    simp only at hw hbw g4 hI'
    by_cases hw0:w=0
    ·subst hw0
     rw [bitsW_zero,List.append_nil] at hbw
     rw [← hbw,← hst1] at hI'
     simp [g4,g0,g6,g7,g8,e4]
     exact ⟨k + 1,by omega,by omega,by omega,hI'⟩
    ·have hfirst:=bitsW_first hw0 hw
     have hct:=(ctz_bits hw0 hw).1
     have e1:IntKind.i64.wrap ((k:Int) * 64)=((k * 64:Nat):Int):=by rw [wrap_in (by omega)];omega
     have e2:IntKind.i64.wrap (((k * 64:Nat):Int) + (Lib.ctz 64 w:Nat))=((k * 64 + Lib.ctz 64 w:Nat):Int):=by rw [wrap_in (by omega)];omega
     have e3:IntKind.u64.wrap ((w:Int) - 1)=((w - 1:Nat):Int):=by rw [u64_in (by omega)];omega
     have e5:=u64and w (w - 1) hw (by omega)
     have htz:=bits_TZ (N:=N) w hw
     have hlen:(s.listTo k ++ L.map fun j:Nat=>((k * 64 + j:Nat):Int)).length < 64 * s.ws.length:=by
      have h1:(s.listTo (k + 1)).length=(s.listTo k).length + (bitsW x).length:=by rw [hst1];simp
      have h2:(bitsW x).length=L.length + (bitsW w).length:=by rw [hbw];simp
      rw [hfirst] at h2
      simp at h2 ⊢
      omega
     have hw0':¬ (w:Int)=0:=by omega
     generalize hcz:Lib.ctz 64 w=c at *
     simp only [Int.natCast_mul,Int.natCast_add] at e1 e2
     simp [g4,hw0,hw0',g0,g3,e1]
     refine htz.use (n:=9) (by simp [mapOpt]) rfl ?_
     have e2':IntKind.i64.wrap ((k:Int) * 64 + (c:Int))=((k * 64 + c:Nat):Int):=by rw [wrap_in (by omega)];omega
     simp [e2',g0]
     refine hst _ _ S' hlen hI' _ fun S'' hI''=>?_
     simp [g4,e3,e5,g0,g3,g6,g7,g8]
     refine ⟨w &&& (w - 1),?_,Nat.lt_of_le_of_lt Nat.and_le_left hw,L ++ [c],?_,?_⟩
     ·rw [hfirst];simp
     ·rw [hbw,hfirst];simp
     ·simpa using hI''
   ·simp [f0,f6,f7,f8]
    exact ⟨hxl,by simpa using hI⟩
  ·have:k=s.ws.length:=by omega
   subst this
   simp [f7,f8]
   exact hk S hI
 ·simp
  simpa [BSet.listTo] using h0
theorem bits_List (s:BSet) (hs:s.OK):OwnL P (gl N) intc 1 40 [encB s] s.list:=by
 refine OwnL.in c40 (by simp) ?_
 have hnw:=nw_le hs.n
 have hsl:=hs.len
 simp [k40]
 refine (bits_sane s hs).use (n:=9) (by simp [mapOpt]) rfl ?_
 simp
 refine all_fn ?_
 simp
 refine W.rangeC (f:=130) (captured:=[.ptr 2 0 0]) (by simp) ?_
 simp
 generalize hLF:upd (upd (upd (upd (upd (upd (entry [AV.agg [AV.int IntKind.i64 s.n,AV.fsl 1 (els u64c s.ws)]]) 1 (AV.ptr 0 0 0)) 2 AV.nilsl) 3 (AV.ptr 1 0 0)) 5 (AV.agg [AV.int IntKind.i64 s.n,AV.fsl 1 (els u64c s.ws)])) 6 (AV.agg [AV.int IntKind.i64 s.n,AV.fsl 1 (els u64c s.ws)])) 7 (AV.func (Fn.func 130) [] [AV.ptr 2 0 0])=LF
 have lf3:LF 3=.ptr 1 0 0:=by rw [← hLF];simp
 refine bits_all1 (s:=s) rfl hs (by simp) (fun L S'=>S'.obj 3=some (.loop 14 #[8] LF (rngA Tryz.f40 0) (rngB Tryz.f40 0) .ready)∧4≤S'.next∧∃ w,S'.obj 1=some (.row 1 [[w]])∧w.one=true∧Has intc 1 S' w L∧Bel S' w∧∀q c sz,w=.sl sz q 0 c→4≤q) ?_ ?_ ?_
 ·exact ⟨by simp,by simp,.nilsl,by simp,rfl,Has.nil,Bel.nil,fun q c sz h=>by cases h⟩
 ·rintro L v S' hL ⟨q3,hn,w,q1,hw1,hw,hbw,hnw4⟩ K' hK'
  simp
  refine Yie.in q3 (by simp) (by simp) c40A0 c40B0 ?_
  simp [k40A0,k40B0,puts,lf3,q1,q3,show ¬ 1=S'.next by omega,show ¬ 3=S'.next by omega]
  have hT:Has intc 1 ((S'.set 3 (AObj.loop 14 #[8] LF (rngA Tryz.f40 0) (rngB Tryz.f40 0) LSt.busy)).new (AObj.row 1 [[AV.int IntKind.i64 v]])) w L:=hw.keep fun q ⟨len,hq⟩=>by
   have h1:=hbw _ _ _ hq
   have h2:=hnw4 _ _ _ hq
   simp [show ¬ q=S'.next by omega,show ¬ q=3 by omega]
  refine appV_own (e:=intc) (x:=v) hT rfl (by simp [room];omega) fun S1 k1 k2 k3=>?_
  simp at k2 k3
  have g1:S1.obj 1=some (.row 1 [[w]]):=by
   rw [k3 1 (by omega) fun len h=>by have:=hnw4 _ _ _ h;omega,if_neg (by omega),if_neg (by omega)];exact q1
  have g3:S1.obj 3=some (AObj.loop 14 #[8] LF (rngA Tryz.f40 0) (rngB Tryz.f40 0) LSt.busy):=by
   rw [k3 3 (by omega) fun len h=>by have:=hnw4 _ _ _ h;omega,if_neg (by omega)];simp
  simp [g1,g3]
  refine hK' _ ⟨by simp,by simp [k2];omega,.sl 1 (S'.next + 1) 0 (L.length + 1),by simp,rfl,?_,Bel.sl (by simp [k2]),fun q c sz h=>by cases h;omega⟩
  simp at k1
  exact k1.keep fun q ⟨len,hq⟩=>by cases hq;simp [show ¬ S'.next=0 by omega,show ¬ S'.next + 1=1 by omega,show ¬ S'.next + 1=3 by omega]
 ·rintro S' ⟨q3,hn,w,q1,hw1,hw,hbw,hnw4⟩
  refine ⟨q3,?_⟩
  simp [q1]
  exact hw.keep fun q ⟨len,hq⟩=>by simp [show ¬ q=3 by have:=hnw4 _ _ _ hq;omega]
end Go.Proofs.YtbhkamemheaajaaGreatDoor.Vm
