/- A part of the proof: Az Df Cv Dg. -/
import Derived.KernelRfl
import Derived.Test.YtnhfofmhkfdpgaaGreatDoorQe1
set_option linter.unusedVariables false
set_option linter.unusedSimpArgs false
set_option linter.constructorNameAsVariable false
namespace Go.Proofs.YtnhfofmhkfdpgaaGreatDoor.Vm
open Go Go.RowKit
set_option maxRecDepth 100000
variable {N:Nat} {g:Glob}
theorem xJ4 {i b t id:Int} {B k:Nat} {es:List (List AV)} {z:Blk} {S:St} {K:AV->St->Prop} (hB:S.obj B=some (.row 3 es)) (hBl:B < S.next) (hz:es[k]?=some (blkc z)) (hr:rises z.out=true) (hl:z.out.length < 2 ^ 18)
  (hk:K (.tuple []) ((S.new (.row 17 [edc i b t])).set B (.row 3 (es.set k [.bool z.on,z.insV,.fsl 1 (els intc (oneMore z.out t))])))):Cal P g 68 [.ptr B k 0,encE3 i b t,.int .i64 id] S K:=by
 refine Cal.inF (by kernel_rfl) ?_
 have q1:¬ B=S.next:=by omega
 conv=>arg 3;reduce
 simp;refine Dra.auto [] mix ?_ ?_
 .kernel_rfl
 simp [classes,hB,hz,blkc,q1];refine (xNs z.outS t hr hl).b (n:=9) (by simp [mapOpt,xAc z.outS.stab]) (by simp [solids,AV.solid,z.outS.solid]) ?_;simp [hB,hz,blkc,q1];exact hk
theorem xL9 {p:Prg} {i b t:Int} (h:p.chk i b t=0):p.sane=true/\∃ (im bm:Nat) (f:Fun) (y:Blk),i=(im:Int)/\b=(bm:Int)/\p.funs[im]?=some f/\p.fn (im:Int)=some f/\f.blks[bm]?=some y/\y.on=true/\f.live t=true/\t ∉ y.out:=by
 unfold Prg.chk at h;split at h
 .rename_i hs;split at h
  .rename_i hi;unfold Prg.chkE at h;split at h
   .omega
   .rename_i hn;split at h
    .omega
    .rename_i he;obtain ⟨im,rfl⟩:∃ n:Nat,i=(n:Int):=⟨i.toNat,by omega⟩;obtain ⟨f,hf⟩:∃ f,p.funs[im]?=some f:=⟨_,xgG (by omega)⟩
     have hfn:p.fn (im:Int)=some f:=by
      unfold Prg.fn
      rw [if_pos ⟨by omega,hs⟩];exact hf
     cases h1:p.blk im b with
     | none=>simp [h1] at hn
     | some y =>
      cases h2:p.blk im t with
      | none=>simp [h2] at hn
      | some y2 =>
       have hb1:f.blk b=some y:=by simpa [Prg.blk,hfn] using h1
       have hb2:f.blk t=some y2:=by simpa [Prg.blk,hfn] using h2
       obtain ⟨bm,rfl,hy,hon⟩:=xVC hb1;refine ⟨hs,im,bm,f,y,rfl,rfl,hf,hfn,hy,hon,?_,?_⟩
       .unfold Fun.blk at hb2;split at hb2
        .assumption
        .cases hb2
       .simpa [Prg.isEdge,h1] using he
  .omega
 .omega
noncomputable def Prg.app (p:Prg) (i b t:Int):Prg:=if p.chk i b t=0 then p.edge i.toNat b.toNat t else p
theorem xRn {S:St} {n:Nat} (z:Blk):mapOpt (Vm.pict S [] (n + 1)) (blkc z)=some (blkc z):=by
 simp [mapOpt,blkc,xAc z.insS.stab,xAc z.outS.stab]
theorem xRo {S:St} {n:Nat} (f:Fun):mapOpt (Vm.pict S [] (n + 1)) (func f)=some (func f):=by
 simp [mapOpt,func,xAc f.blksS.stab]
theorem xPy {p:Prg} {im bm:Nat} {f:Fun} {y:Blk} {t:Int} (hf:p.funs[im]?=some f) (hy:f.blks[bm]?=some y) {S:St} {A B:Nat}
  (oA:S.obj A=some (.row 3 ((els func p.funs).set im [.int .i64 f.par,.int .i64 f.vars,.sl 3 B 0 f.blks.length])))
  (oB:S.obj B=some (.row 3 ((els blkc (f.blks.map Blk.nrm)).set bm [.bool y.nrm.on,y.nrm.insV,.fsl 1 (els intc (oneMore y.nrm.out t))]))) :
  Vm.pict S [] 7 (.sl 3 A 0 p.funs.length)=some (p.edge im bm t).funsV:=by
 have hbs:(els blkc (f.blks.map Blk.nrm)).set bm [.bool y.nrm.on,y.nrm.insV,.fsl 1 (els intc (oneMore y.nrm.out t))]=els blkc (f.edge bm t).blks:=by
  have hne:oneMore y.out t ≠ []:=fun h=>by have:=xLd y.out t;rw [h] at this;simp at this
  have e1:(y.wide t).outV=.fsl 1 (els intc (oneMore y.out t)):=by
   show encN true intc 1 (oneMore y.out t)=_;rw [xGG,encF,if_neg hne]
  rw [xGD hy,<- xAg];show _=(els blkc (f.blks.map Blk.nrm)).set bm [.bool y.on,y.nrm.insV,(y.wide t).outV]
  rw [e1];rfl
 rw [hbs] at oB;have hml:f.blks.length=(f.edge bm t).blks.length:=(xBT hy).symm
 have pB:Vm.pict S [] 6 (.sl 3 B 0 f.blks.length)=some (f.edge bm t).blksV:=by
  have:(f.edge bm t).blksV=.fsl 3 (els blkc (f.edge bm t).blks):=rfl;rw [this]
  refine xAr oB (by simp [hml]) (by simp [hml]) fun k e he=>?_
  simp only [els,List.getElem?_map] at he ⊢
  cases hz:(f.edge bm t).blks[k]? with
  | none=>rw [hz] at he;cases he
  | some z=>rw [hz] at he;cases he;simp [xRn]
 have hpl:(p.edge im bm t).funs.length=p.funs.length:=by rw [xCC hf];simp
 have hV:(p.edge im bm t).funsV=.fsl 3 (els func (p.edge im bm t).funs):=rfl;rw [hV]
 refine xAr oA (by simp) (by simp [hpl]) fun k e he=>?_
 have him:=(xgS hf).1;simp only [els,List.getElem?_map];rw [xCm hf];by_cases hk:k=im
 .subst hk;rw [List.getElem?_set_self (by simpa using him)] at he;cases he;rw [if_pos rfl]
  have h1:Vm.pict S [] 6 (.int .i64 f.par)=some (.int .i64 f.par):=by simp
  have h2:Vm.pict S [] 6 (.int .i64 f.vars)=some (.int .i64 f.vars):=by simp
  simp only [mapOpt,pB,h1,h2];rfl
 .rw [List.getElem?_set_ne (Ne.symm hk)] at he;rw [if_neg hk];simp only [els,List.getElem?_map] at he
  cases hz:p.funs[k]? with
  | none=>rw [hz] at he;cases he
  | some z=>rw [hz] at he;cases he;simp [xRo]
theorem xTj {p:Prg} {im bm:Nat} {f:Fun} {y:Blk} {t:Int} (hf:p.funs[im]?=some f) (hy:f.blks[bm]?=some y) {S:St} {A B:Nat}
  (oA:S.obj A=some (.row 3 ((els func p.funs).set im [.int .i64 f.par,.int .i64 f.vars,.sl 3 B 0 f.blks.length])))
  (oB:S.obj B=some (.row 3 ((els blkc (f.blks.map Blk.nrm)).set bm [.bool y.nrm.on,y.nrm.insV,.fsl 1 (els intc (oneMore y.nrm.out t))]))) :
  RK (.tuple [.agg [(p.edge im bm t).funsV],.int .i64 0]) (.tuple [.agg [.sl 3 A 0 p.funs.length],.int .i64 0]) S:=by
 have h:=xPy hf hy oA oB;refine ⟨9,?_⟩
 have h1:Vm.pict S [] 8 (.int .i64 0)=some (.int .i64 0):=by simp
 have h2:Vm.pict S [] 8 (.agg [.sl 3 A 0 p.funs.length])=some (.agg [(p.edge im bm t).funsV]):=by
  show (mapOpt (Vm.pict S [] 7) [.sl 3 A 0 p.funs.length]).map AV.agg=_;simp only [mapOpt,h];rfl
 show (mapOpt (Vm.pict S [] 8) [.agg [.sl 3 A 0 p.funs.length],.int .i64 0]).map AV.tuple=_;simp only [mapOpt,h1,h2];rfl
theorem xJ5 (p:Prg) (i b t:Int) (hp:p.Fit):Ret P (gl N) false 37 [encP p,encE3 i b t] (.tuple [encP (p.app i b t),.int .i64 (p.chk i b t)]):=by
 refine Ret.inF (by kernel_rfl) ?_
 conv=>arg 3;reduce
 simp;refine (xNr p i b t hp).use (n:=9) (by simp [mapOpt,xAc p.funsS.stab]) (by simp [solids,AV.solid,p.funsS.solid]) ?_;by_cases hc:p.chk i b t=0
 .have happ:p.app i b t=p.edge i.toNat b.toNat t:=by unfold Prg.app;rw [if_pos hc]
  rw [happ];obtain ⟨hsane,im,bm,f,y,rfl,rfl,hf,hfn,hy,hon,hlv,hno⟩:=xL9 hc;have hok:=xOY hfn;have hl:=hok.len;have him:=(xgS hf).1;have hbm:=(xgS hy).1;have hyk:=hok.blk (xmG hy);have hyo:=(hok.out y (xmG hy)).1;simp only [Int.toNat_natCast];simp [hc]
  refine xPx (i:=im) (by have:=(Prg.sane_iff.1 hsane).1;omega) hf (by omega) (by omega) fun S1 A B up hA hB hA1 hB1 hAB oA oB=>?_
  have u0:=up.2 0 (by simp);have u1:=up.2 1 (by simp);have u2:=up.2 2 (by simp);have n1:=up.1;simp at u0 u1 u2 n1 hA1 hB1;have heA:((els func p.funs).set im [.int .i64 f.par,.int .i64 f.vars,.sl 3 B 0 f.blks.length])[im]?=some [.int .i64 f.par,.int .i64 f.vars,.sl 3 B 0 f.blks.length]:=List.getElem?_set_self (by simpa using him)
  have heB:(els blkc (f.blks.map Blk.nrm))[bm]?=some (blkc y.nrm):=by simp [els,hy]
  generalize hfs:(els func p.funs).set im [.int .i64 f.par,.int .i64 f.vars,.sl 3 B 0 f.blks.length]=fs at *;generalize hbs:els blkc (f.blks.map Blk.nrm)=bs at *
  have q0:¬ 0=S1.next:=by omega
  have q1:¬ 1=S1.next:=by omega
  have q2:¬ 2=S1.next:=by omega
  have qA:¬ A=S1.next:=by omega
  have qB:¬ B=S1.next:=by omega
  simp [u0,u1,u2,q0,q1,q2];refine Dra.auto [13] mix ?_ ?_
  .kernel_rfl
  simp [classes,u0,u1,u2,q0,q1,q2,qA,qB,oA,oB,heA,xAd him,xAd hbm];refine (xNn p hp).b (n:=9) (by simp [mapOpt,xAc p.funsS.stab]) (by simp [solids,AV.solid,p.funsS.solid]) ?_;simp;refine ⟨.tuple [],_,xJ4 (z:=y.nrm) (B:=B) (k:=bm) (es:=bs) (by simp [qB,oB]) (by simp;omega) heB hyk.2.1 (by show y.out.length < 2 ^ 18;omega) ⟨rfl,rfl⟩,?_⟩
  have qC:¬ S1.next=B:=by omega
  have qD:¬ A=B:=hAB
  have q3:¬ 2=B:=by omega
  have q4:¬ 2=S1.next + 1:=by omega
  have q5:¬ A=S1.next + 1:=by omega
  have q6:¬ A=2:=by omega
  have q7:¬ B=2:=by omega
  have qE:¬ S1.next=2:=by omega
  simp [u2,q2,q3,q4,qC,qD,qE];exact xTj (B:=B) hf hy (by simp [q6,qD,q5,qA,oA,hfs]) (by simp [q7,hbs])
 .have happ:p.app i b t=p:=by unfold Prg.app;rw [if_neg hc]
  rw [happ];simp [hc];exact ⟨9,by simp [mapOpt,xAc p.funsS.stab]⟩
end Go.Proofs.YtnhfofmhkfdpgaaGreatDoor.Vm
namespace Go.Proofs.YtnhfofmhkfdpgaaGreatDoor.Vm
open Go Go.RowKit
section
variable {p:Prg} {f:Fun} {i b:Nat} {t:Int} {y:Blk}
theorem xQa (hf:p.funs[i]?=some f):(p.edge i b t).funs.length=p.funs.length:=by rw [xCC hf];simp
theorem xGX {α:Type} (hf:p.funs[i]?=some f) {h:Nat->Fun->α} (hh:h i (f.edge b t)=h i f) (g:Nat):((p.edge i b t).funs[g]?).map (h g)=(p.funs[g]?).map (h g):=by
 rw [xCm hf];by_cases e:g=i
 .subst e;rw [if_pos rfl,hf];simp [hh]
 .rw [if_neg e]
theorem xQb (hf:p.funs[i]?=some f) (hy:f.blks[b]?=some y) (m:Nat):(p.edge i b t).unksTo m=p.unksTo m:=by
 unfold Prg.unksTo;congr 1;funext g;have:=xGX (b:=b) (t:=t) hf (h:=fun g x=>x.unks g) (by show (f.edge b t).unks i=f.unks i;unfold Fun.unks;rw [xBT hy]) g
 cases h1:(p.edge i b t).funs[g]? <;> cases h2:p.funs[g]? <;> simp [h1,h2] at this ⊢
 exact this
theorem xRK (hf:p.funs[i]?=some f) (hy:f.blks[b]?=some y):(p.edge i b t).at'=p.at':=by
 funext u
 cases u <;> simp only [Prg.at',Prg.base,xQb hf hy]
theorem xSg (hf:p.funs[i]?=some f) (hy:f.blks[b]?=some y):(p.edge i b t).unks=p.unks:=by unfold Prg.unks;rw [xQa hf,xQb hf hy]
theorem xWc (hf:p.funs[i]?=some f) (hy:f.blks[b]?=some y):(p.edge i b t).cd=p.cd:=by
 funext g k;have:=xGX (b:=b) (t:=t) hf (h:=fun _ x=>x.code k) (xJY hy k) g;unfold Prg.cd
 cases h1:(p.edge i b t).funs[g]? <;> cases h2:p.funs[g]? <;> simp [h1,h2] at this ⊢
 exact this
theorem xWd (hf:p.funs[i]?=some f):(p.edge i b t).parOf=p.parOf/\(p.edge i b t).varsOf=p.varsOf:=by
 constructor
 .funext g;have:=xGX (b:=b) (t:=t) hf (h:=fun _ x=>x.par) rfl g;unfold Prg.parOf
  cases h1:(p.edge i b t).funs[g]? <;> cases h2:p.funs[g]? <;> simp [h1,h2] at this ⊢
  exact this
 .funext g;have:=xGX (b:=b) (t:=t) hf (h:=fun _ x=>x.vars) rfl g;unfold Prg.varsOf
  cases h1:(p.edge i b t).funs[g]? <;> cases h2:p.funs[g]? <;> simp [h1,h2] at this ⊢
  exact this
theorem xQc (hy:f.blks[b]?=some y) (g:Nat):(f.edge b t).posTo g (f.edge b t).blks.length=f.posTo g f.blks.length:=by
 unfold Fun.posTo;rw [xBT hy];congr 1;funext k;rw [xEZ hy];by_cases e:k=b
 .subst e;rw [if_pos rfl,hy];rfl
 .rw [if_neg e];cases f.blks[k]? <;> rfl
theorem xWe (hf:p.funs[i]?=some f) (hy:f.blks[b]?=some y):(p.edge i b t).pos=p.pos:=by
 unfold Prg.pos Prg.posTo;rw [xQa hf];congr 1;funext g;have:=xGX (b:=b) (t:=t) hf (h:=fun g x=>x.posTo g x.blks.length) (xQc hy i) g
 cases h1:(p.edge i b t).funs[g]? <;> cases h2:p.funs[g]? <;> simp [h1,h2] at this ⊢
 exact this
theorem xTA (hf:p.funs[i]?=some f) (hy:f.blks[b]?=some y):(p.edge i b t).posF=p.posF:=by
 funext g;have:=xGX (b:=b) (t:=t) hf (h:=fun g x=>x.posTo g x.blks.length) (xQc hy i) g;unfold Prg.posF
 cases h1:(p.edge i b t).funs[g]? <;> cases h2:p.funs[g]? <;> simp [h1,h2] at this ⊢
 exact this
theorem xRL (hf:p.funs[i]?=some f) (hy:f.blks[b]?=some y) (g k:Nat):(p.predsN g k).Sublist ((p.edge i b t).predsN g k):=by
 unfold Prg.predsN;rw [xCm hf];by_cases e:g=i
 .subst e;rw [if_pos rfl,hf];exact xHH hy k
 .rw [if_neg e];exact List.Sublist.refl _
theorem xTB (hf:p.funs[i]?=some f) (hy:f.blks[b]?=some y) (X:List SEnv):pastX (p.edge i b t) X=pastX p X:=by
 funext e l;unfold pastX ansX;rw [xRK hf hy]
theorem xLt (hf:p.funs[i]?=some f) (hy:f.blks[b]?=some y) (X:List SEnv):hereX (p.edge i b t) X=hereX p X:=by
 funext g k m;unfold hereX;rw [xTB hf hy,xRK hf hy,xWc hf hy]
theorem xQd {h:Int->SEnv} {m m':List Int} (hs:m.Sublist m'):∀{e e':SEnv},e.le e'->(m.foldl (fun e j=>e.join (h j)) e).le (m'.foldl (fun e j=>e.join (h j)) e'):=by
 induction hs with
 | slnil=>intro e e' he;exact he
 | cons a _ ih=>intro e e' he;exact ih (SEnv.le_trans he (SEnv.le_join_l _ _))
 | cons_cons a _ ih=>intro e e' he;exact ih (SEnv.join_mono he (SEnv.le_refl _))
theorem xXY (hf:p.funs[i]?=some f) (hy:f.blks[b]?=some y) (X:List SEnv) (u:Unk):(evU p X u).le (evU (p.edge i b t) X u):=by
 have hp:=xWd (b:=b) (t:=t) hf
 cases u with
 | par g =>
  have:evU (p.edge i b t) X (.par g)=evU p X (.par g):=by
   show parX _ X g=parX p X g;unfold parX Prg.callsTo parX0
   have hc:callX (p.edge i b t) X=callX p X:=by funext e s;unfold callX;rw [xLt hf hy]
   rw [xWe hf hy,hc,hp.1]
  rw [this];exact SEnv.le_refl _
 | ans g =>
  have:evU (p.edge i b t) X (.ans g)=evU p X (.ans g):=by
   show some [sgS (answX _ X g)]=some [sgS (answX p X g)];unfold answX
   have hr:retX (p.edge i b t) X=retX p X:=by funext e s;unfold retX;rw [xLt hf hy]
   rw [xTA hf hy,hr]
  rw [this];exact SEnv.le_refl _
 | blk g k =>
  show (begX p X g k).le (begX _ X g k);unfold begX begXTo begX0;rw [xLt hf hy,xRK hf hy,xWc hf hy,hp.1,hp.2];exact xQd (h:=fun j=>hereX p X g j.toNat (p.cd g j.toNat).length) (xRL hf hy g k) (SEnv.le_refl _)
theorem xRM (hf:p.funs[i]?=some f) (hy:f.blks[b]?=some y) {u:Unk} (hu:p.has u):(p.sAt u).le ((p.edge i b t).sAt u):=by
 have hL:=(p.edge i b t).ssol_least;have hlen:=(p.edge i b t).ssol_len;rw [xSg hf hy] at hlen
 have hq:∀{k:Nat} {a:SEnv},(p.edge i b t).ssol[k]?=some a->∃ v,p.unks[k]?=some v:=fun {k a} hk=>by
  have:=(xgS hk).1;exact ⟨_,xgG (by omega)⟩
 have hP:p.ssys.Post (p.edge i b t).ssol:=by
  refine ⟨⟨hlen,hL.fit.ok⟩,fun k a ha=>?_⟩;obtain ⟨v,hv⟩:=hq ha;have h1:=hL.fix k a ha
  have h2:(p.edge i b t).ssys.ev (p.edge i b t).ssol k=evU (p.edge i b t) (p.edge i b t).ssol v:=by
   show evX _ _ k=_;unfold evX;rw [xSg hf hy,hv]
  have h3:p.ssys.ev (p.edge i b t).ssol k=evU p (p.edge i b t).ssol v:=by
   show evX _ _ k=_;unfold evX;rw [hv]
  show SEnv.le (p.ssys.ev _ k) a;rw [h1,h2,h3];exact xXY hf hy _ v
 have h0:=Prg.sAt_get hu
 have hk:(p.edge i b t).ssol[p.at' u]?=some ((p.edge i b t).sAt u):=by
  have:=Prg.at_lt hu;unfold Prg.sAt
  rw [xRK hf hy,List.getD_eq_getElem?_getD,xgG (by omega)];rfl
 exact p.ssol_least.low _ hP _ _ _ h0 hk
end
end Go.Proofs.YtnhfofmhkfdpgaaGreatDoor.Vm
namespace Go.Proofs.YtnhfofmhkfdpgaaGreatDoor.Vm
set_option maxRecDepth 100000
open Go Go.RowKit
variable {N:Nat} {g:Glob}
theorem xIR {p:Prg} {f:Nat} (h:f < p.funs.length):p.ansS[f]?=some ((p.sAt (.ans f)).get 0):=by simp [Prg.ansS,h]
theorem xMx {p:Prg} {f:Nat} (h:f < p.funs.length):p.parS[f]?=some (p.sAt (.par f)):=by simp [Prg.parS,h]
theorem xIS {p:Prg} {f:Nat} (h:f < p.funs.length):p.insS[f]?=some (p.insRow f (p.nb f)):=by simp [Prg.insS,h]
theorem xFc {p:Prg} {f m b:Nat} (h:b < m):(p.insRow f m)[b]?=some (p.sAt (.blk f b)):=by simp [Prg.insRow,h]
theorem xFd {p:Prg} {f m:Nat}:(p.insRow f m).length=m:=by simp [Prg.insRow]
theorem xDi (p:Prg):∃ w1 w2 w3,solveE p=.agg [w1,w2,w3]/\FSl (fun l=>[encF envcS 2 l]) 1 w1 p.insS/\FSl envcS 2 w2 p.parS/\FSl intc 1 w3 p.ansS:=⟨_,_,_,rfl,FSl.mk,FSl.mk,FSl.mk⟩
end Go.Proofs.YtnhfofmhkfdpgaaGreatDoor.Vm
namespace Go.Proofs.YtnhfofmhkfdpgaaGreatDoor.Vm
open Go Go.RowKit
set_option maxRecDepth 100000
variable {N:Nat} {g:Glob}
theorem SEnv.leq_of {a b:SEnv} (h:a.le b):a.leq b=true:=by
 cases a with
 | none=>rfl
 | some l =>
  obtain ⟨m,rfl,hm⟩:=h l rfl
  exact decide_eq_true fun j _=>hm.2 _
structure Wider (p q:Prg):Prop where
 ok:q.OK
 len:q.funs.length=p.funs.length
 nb:∀f,q.nb f=p.nb f
 le:∀u,p.has u->(p.sAt u).le (q.sAt u)
theorem xQg {p:Prg} (hp:p.OK) (i b t:Int):Wider p (p.app i b t):=by
 unfold Prg.app;split
 .rename_i hc;obtain ⟨_,im,bm,f,y,rfl,rfl,hf,hfn,hy,hon,hlv,hno⟩:=xL9 hc;simp only [Int.toNat_natCast];refine ⟨⟨xPt (t:=t) hp.fit hf (xOY hfn) hy hon hlv hno,xHG (t:=t) hp.sane hf hy hon hlv hno⟩,xQa hf,fun g=>?_,fun u hu=>xRM hf hy hu⟩;have:=xGX (b:=bm) (t:=t) hf (h:=fun _ x=>x.blks.length) (xBT hy) g;unfold Prg.nb
  cases h1:(p.edge im bm t).funs[g]? <;> cases h2:p.funs[g]? <;> simp [h1,h2] at this ⊢
  exact this
 .exact ⟨hp,rfl,fun _=>rfl,fun u _=>SEnv.le_refl _⟩
set_option maxHeartbeats 2000000 in
theorem xIT (p:Prg) (i b t:Int):Ret P (gl N) false 7 [encP p,.int .i64 i,.int .i64 b,.int .i64 t] (.bool true):=by
 refine Ret.inF (by kernel_rfl) ?_
 conv=>arg 3;reduce
 simp;refine (xDZ).use (n:=9) (by rfl) rfl ?_;simp;refine (xGo p).use (n:=9) (by simp [mapOpt,xAc p.funsS.stab]) (by simp [solids,AV.solid,p.funsS.solid]) ?_;cases hfew:p.few
 .simp;exact RK.eq rfl rfl
 have hp:=Prg.few_fit hfew;simp;refine (xB7 p hp).use (n:=9) (by simp [mapOpt,xAc p.funsS.stab]) (by simp [solids,AV.solid,p.funsS.solid]) ?_;cases hsane:p.sane
 .simp;exact RK.eq rfl rfl
 simp;have hOK:p.OK:=⟨hp,hsane⟩;have hW:=xQg hOK i b t;refine (xJ5 p i b t hp).use (n:=9) (by simp [mapOpt,xAc p.funsS.stab]) (by simp [solids,AV.solid,p.funsS.solid]) ?_;generalize p.app i b t=q at *;generalize p.chk i b t=cc;simp;refine (xCS hOK).use (n:=9) (by simp [mapOpt,xAc p.funsS.stab]) (by simp [solids,AV.solid,p.funsS.solid]) ?_;obtain ⟨w1,w2,w3,hT,h1,h2,h3⟩:=xDi p;rw [hT];simp [xAN h1,xAN h2,xAN h3];refine (xCS hW.ok).use (n:=9) (by simp [mapOpt,xAc q.funsS.stab]) (by simp [solids,AV.solid,q.funsS.solid]) ?_;obtain ⟨z1,z2,z3,hZ,k1,k2,k3⟩:=xDi q;rw [hZ]
 have hl1:p.insS.length=p.funs.length:=by simp [Prg.insS]
 have hl2:p.parS.length=p.funs.length:=by simp [Prg.parS]
 have hl3:p.ansS.length=p.funs.length:=by simp [Prg.ansS]
 have kl1:q.insS.length=p.funs.length:=by simp [Prg.insS,hW.len]
 have kl2:q.parS.length=p.funs.length:=by simp [Prg.parS,hW.len]
 have kl3:q.ansS.length=p.funs.length:=by simp [Prg.ansS,hW.len]
 have hfl6:=(Prg.sane_iff.1 hsane).1;simp [xAN h1,xAN h2,xAN h3,h1.len,h2.len,h3.len,hl1,hl2,hl3,xAN k1,xAN k2,xAN k3,k1.len,k2.len,k3.len,kl1,kl2,kl3,p.funsS.len];refine W.whileI (fun (f:Nat) F S=>f<=p.funs.length/\F 9=.bool true/\F 12=.ptr 2 0 0/\F 13=.ptr 3 0 0/\F 14=.int .i64 f/\S.obj 2=some (.row 3 [[w1,w2,w3]])/\S.obj 3=some (.row 3 [[z1,z2,z3]])) (fun f=>p.funs.length - f) ?_ 0 _ _ ?_
 .rintro f F S ⟨hf,f9,f12,f13,f14,s2,s3⟩;simp [f12,f14,s2,h1.len,hl1];by_cases hlt:f < p.funs.length
  .have hlq:f < q.funs.length:=by rw [hW.len];exact hlt
   have e4:=wrapS f (by omega);obtain ⟨x,hx⟩:∃ x,p.funs[f]?=some x:=⟨_,xgG hlt⟩;have hnb:p.nb f=x.blks.length:=Prg.nb_of hx;have hbl:=(hOK.fun hx).len.2;have hpl:=SEnv.leq_of (hW.le (.par f) hlt);have hal:=SEnv.get_mono (hW.le (.ans f) hlt) 0;have i1:=h1.idx (xIS hlt);have i2:=h2.idx (xMx hlt);have i3:=h3.idx (xIR hlt);have j1:=k1.idx (xIS hlq);have j2:=k2.idx (xMx hlq);have j3:=k3.idx (xIR hlq);rw [hW.nb] at j1;have r1:FSl envcS 2 (encF envcS 2 (p.insRow f (p.nb f))) (p.insRow f (p.nb f)):=xAl;have r2:FSl envcS 2 (encF envcS 2 (q.insRow f (p.nb f))) (q.insRow f (p.nb f)):=xAl;generalize encF envcS 2 (p.insRow f (p.nb f))=rv at *;generalize encF envcS 2 (q.insRow f (p.nb f))=rw' at *;have hr1:=xFd (p:=p) (f:=f) (m:=p.nb f);have hr2:=xFd (p:=q) (f:=f) (m:=p.nb f);simp [hlt];refine Dra.auto [] mix ?_ ?_
   .kernel_rfl
   simp [classes,f12,f13,f14,s2,s3,i2,j2];refine (xFz (p.sAt (.par f)) (q.sAt (.par f)) (p.ssol_ok _) (q.ssol_ok _)).b (n:=9) (by simp [mapOpt]) (by simp [solids,AV.solid]) ?_;rw [hpl];simp (config:={ maxSteps:=2000000 }) [f12,f13,f14,s2,s3,i3,j3,intc];refine (xFN (SEnv.get_ok (p.sAt (.ans f)) 0) (SEnv.get_ok (q.sAt (.ans f)) 0)).b (n:=9) (by simp [mapOpt]) rfl ?_;simp (config:={ maxSteps:=2000000 }) [f9,f12,f13,f14,s2,s3,hal,i1,j1,r1.len,r2.len,hr1,hr2];refine W.whileI (fun (k:Nat) F S=>k<=p.nb f/\F 9=.bool true/\F 12=.ptr 2 0 0/\F 13=.ptr 3 0 0/\F 14=.int .i64 f/\F 15=.int .i64 k/\S.obj 2=some (.row 3 [[w1,w2,w3]])/\S.obj 3=some (.row 3 [[z1,z2,z3]])) (fun k=>p.nb f - k) ?_ 0 _ _ ?_
   .clear f9 f12 f13 f14 s2 s3;rintro k F S ⟨hk,f9,f12,f13,f14,f15,s2,s3⟩;simp [f12,f14,f15,s2,i1,r1.len,hr1];by_cases hlk:k < p.nb f
    .have e5:=wrapS k (by omega);have hbk:=SEnv.leq_of (hW.le (.blk f k) (Prg.has_blk.2 ⟨hlt,hlk⟩));have g1:=r1.idx (xFc (p:=p) (f:=f) hlk);have g2:=r2.idx (xFc (p:=q) (f:=f) hlk);simp [hlk];refine Dra.auto [] mix ?_ ?_
     .kernel_rfl
     simp [classes,f12,f13,f14,f15,s2,s3,i1,j1,g1,g2];refine (xFz (p.sAt (.blk f k)) (q.sAt (.blk f k)) (p.ssol_ok _) (q.ssol_ok _)).b (n:=9) (by simp [mapOpt]) (by simp [solids,AV.solid]) ?_;rw [hbk];simp [f9,f12,f13,f14,f15,e5,s2,s3];exact ⟨k + 1,by omega,by omega,by omega⟩
    .simp [hlk,f9,f12,f13,f14,e4,s2,s3];exact ⟨f + 1,by omega,by omega,by omega⟩
   .simp [f9,f12,f13,f14,s2,s3]
  .simp [hlt,f9];exact RK.eq rfl rfl
 .simp
end Go.Proofs.YtnhfofmhkfdpgaaGreatDoor.Vm
