/- A part of the proof: Cz. -/
import Derived.Test.YtnhfofmhkfdpgaaGreatDoorQc1
set_option linter.unusedVariables false
set_option linter.unusedSimpArgs false
set_option linter.constructorNameAsVariable false
namespace Go.Proofs.YtnhfofmhkfdpgaaGreatDoor.Vm
open Go Go.RowKit
variable {N:Nat} {g:Glob}
theorem xWu (l:List Bool) (v w:AV) (hv:FSl boolc 1 v l) (hw:FSl boolc 1 w l) (hl:l.length < 2 ^ 40):Ret P g false 30 [v,w] (.bool true):=by
 refine Ret.in c30 (by simp) ?_
 simp [k30,hv.len,hw.len]
 refine W.whileI (fun (k:Nat) F S=>k≤l.length∧F 0=v∧F 1=w∧F 5=.int .i64 k) (fun k=>l.length - k) ?_ 0 _ _ ?_
 ·rintro k F S ⟨hk,f0,f1,f5⟩
  simp [f0,f5,hv.len]
  by_cases hlt:k < l.length
  ·obtain ⟨b,hb⟩:∃ b,l[k]?=some b:=⟨_,xgG hlt⟩
   have e4:=wrapS k (by omega)
   simp [hlt]
   refine Dra.auto [] mix ?_ ?_
   ·kernel_rfl
   simp [classes,f0,f1,f5,hv.idx hb,hw.idx hb,boolc,e4]
   exact ⟨k + 1,by omega,by omega,by omega⟩
  ·simp [hlt]
   exact RK.eq rfl rfl
 ·simp
theorem xWM {v:AV} (hv:GrV v []):Ret P g true 28 [v,.int .i64 0] (.fsl 1 []):=by
 refine Ret.inP c28 (by simp) ?_
 simp [k28,hv.len]
 refine (xAP hv (by simp) (fun l h=>by cases h)).use (n:=9) ?_ rfl ?_ <;> simp [xAd hv.stab]
 refine c54.in (by simp) ?_
 simp [k54]
 have hC:=xCE (cleanG [])
 have hl0:(cleanG ([]:List (List Int))).length=0:=rfl
 refine (xKA (n:=0) (by rw [hC.len,hl0]) hC.stab 0).use (n:=9) (by simp [mapOpt,xAd hC.stab]) rfl ?_
 simp [inGr]
 refine ⟨rfl,9,?_⟩
 exact xBg (e:=boolc) (l:=[]) (n:=7) (xWD (by simp [els])) rfl
open Classical in
noncomputable def Fun.cTo (x:Fun) (L:List Step):List Int:=(L.filter fun s=>decide (s.2.2.2.kind=7∧x.Way s.2.1)).map fun s=>s.2.2.2.f
theorem xXc (x:Fun) (f:Nat):x.cTo (x.posTo f x.blks.length)=x.cRow f:=rfl
theorem xXx (x:Fun):x.cTo []=[]:=rfl
theorem xXd (x:Fun) (L:List Step):(x.cTo L).length≤L.length:=by unfold Fun.cTo;rw [List.length_map];exact List.length_filter_le _ _
open Classical in
theorem cTo_skip {x:Fun} {L M:List Step} (h:∀s ∈ M,¬ (s.2.2.2.kind=7∧x.Way s.2.1)):x.cTo (L ++ M)=x.cTo L:=by
 unfold Fun.cTo
 rw [List.filter_append,List.map_append,List.filter_eq_nil_iff.2 fun s (hs:s ∈ M)=>by rw [decide_eq_true_eq];exact h s hs];simp
theorem xXy {x:Fun} {L:List Step} {s:Step} (h:s.2.2.2.kind=7∧x.Way s.2.1):x.cTo (L ++ [s])=x.cTo L ++ [s.2.2.2.f]:=by
 unfold Fun.cTo
 rw [List.filter_append,List.map_append]
 simp [h]
noncomputable def Prg.cRows (p:Prg) (f:Nat) (r:List Int):List (List Int):=(List.range p.funs.length).map fun h=>if h < f then p.cG.getD h [] else if h=f then r else []
theorem xWp {p:Prg} {f:Nat} {r:List Int}:(p.cRows f r).length=p.funs.length:=by simp [Prg.cRows]
theorem xWH {p:Prg} {f:Nat} {r:List Int} (h:f < p.funs.length):(p.cRows f r)[f]?=some r:=by simp [Prg.cRows,h]
theorem xXe {p:Prg} {f:Nat} {r r':List Int} (h:f < p.funs.length):(p.cRows f r).set f r'=p.cRows f r':=by
 refine List.ext_getElem? fun j=>?_
 by_cases hj:j=f
 ·subst hj
  rw [List.getElem?_set_self (by rw [xWp];exact h),xWH h]
 ·rw [List.getElem?_set_ne (Ne.symm hj)]
  by_cases hjn:j < p.funs.length
  ·simp only [Prg.cRows,List.getElem?_map,List.getElem?_range hjn,Option.map_some,if_neg hj]
  ·rw [List.getElem?_eq_none (by rw [xWp];omega),List.getElem?_eq_none (by rw [xWp];omega)]
theorem xWZ {p:Prg} {f:Nat} {x:Fun} (hx:p.funs[f]?=some x):p.cRows f (x.cRow f)=p.cRows (f + 1) []:=by
 refine List.map_congr_left fun h _=>?_
 by_cases h1:h < f
 ·rw [if_pos h1,if_pos (by omega)]
 ·rw [if_neg h1]
  by_cases h2:h=f
  ·subst h2
   rw [if_pos rfl,if_pos (by omega),List.getD_eq_getElem?_getD,xWU hx];rfl
  ·rw [if_neg h2,if_neg (by omega)];split <;> rfl
theorem xW0 (p:Prg):p.cRows 0 []=List.replicate p.funs.length []:=by
 refine List.ext_getElem? fun j=>?_
 by_cases hj:j < p.funs.length
 ·simp [Prg.cRows,hj]
 ·rw [List.getElem?_eq_none (by rw [xWp];omega),List.getElem?_eq_none (by simp;omega)]
theorem xXf (p:Prg):p.cRows p.funs.length []=p.cG:=by
 refine List.ext_getElem? fun j=>?_
 by_cases hj:j < p.funs.length
 ·have h2:j < p.cG.length:=by rw [xWo];exact hj
  simp only [Prg.cRows,List.getElem?_map,List.getElem?_range hj,Option.map_some,if_pos hj]
  rw [List.getD_eq_getElem?_getD,xgG h2];rfl
 ·rw [List.getElem?_eq_none (by rw [xWp];omega),List.getElem?_eq_none (by rw [xWo];omega)]
theorem xXA {p:Prg} (hp:p.OK):∀l ∈ p.cG,l.length < 1048576:=fun l hl=>by
 obtain ⟨f,hf⟩:=List.getElem?_of_mem hl
 have hfl:f < p.funs.length:=by rw [← xWo];exact (xgS hf).1
 obtain ⟨x,hx⟩:∃ x,p.funs[f]?=some x:=⟨_,xgG hfl⟩
 rw [xWU hx] at hf
 cases hf
 have h1:=xXd x (x.posTo f x.blks.length)
 rw [xXc] at h1
 have:=(Prg.pos_len hp.sane).2 f x hx
 omega
theorem xWv {p:Prg} (hp:p.OK):p.calledS=marks p.funs.length p.Cld:=by
 classical
 unfold Prg.calledS Prg.parS marks
 rw [List.map_map]
 refine List.map_congr_left fun f hf=>?_
 have h:=xWY hp (List.mem_range.1 hf)
 show (p.sAt (.par f)).isSome=_
 cases hs:(p.sAt (.par f)).isSome
 ·have:¬ p.Cld f:=fun hc=>by rw [h.2 hc] at hs;cases hs
  simp [this]
 ·simp [h.1 hs]
theorem xWN {n x:Nat} {T:Nat→Prop} [d:Decidable (T x)] (h:x < n):(marks n T)[x]?=some (decide (T x)):=by
 unfold marks
 rw [List.getElem?_map,List.getElem?_range h]
 simp
set_option maxHeartbeats 1000000 in
theorem xWB (p:Prg):Ret P (gl N) false 5 [encP p] (.bool true):=by
  classical
  refine Ret.in c5 (by simp) ?_
  simp [k5]
  refine (xGb).use (n:=9) (by rfl) rfl ?_
  simp
  refine (xIt p).use (n:=9) (by simp [mapOpt,xAd p.funsS.stab]) (by simp [solids,AV.solid,p.funsS.solid]) ?_
  cases hfew:p.few
  · simp
    exact RK.eq rfl rfl
  have hp:=Prg.few_fit hfew
  simp
  refine (xD0 p hp).use (n:=9) (by simp [mapOpt,xAd p.funsS.stab]) (by simp [solids,AV.solid,p.funsS.solid]) ?_
  cases hsane:p.sane
  · simp
    exact RK.eq rfl rfl
  simp
  have hOK:p.OK:=⟨hp,hsane⟩
  have hfl6:=(Prg.sane_iff.1 hsane).1
  have hroom:p.funs.length≤room:=by simp [room];omega
  refine (xPU hOK).ret.use (n:=9) (by simp [mapOpt,xAd p.funsS.stab]) (by simp [solids,AV.solid,p.funsS.solid]) ?_
  have hcf:FSl boolc 1 (encF boolc 1 p.calledS) p.calledS:=xAx
  have hcl:p.calledS.length=p.funs.length:=by simp [Prg.calledS,Prg.parS]
  have hcg:∀f,f < p.funs.length→p.calledS[f]?=some (decide (p.Cld f)):=fun f hf=>by rw [xWv hOK,xWN hf]
  generalize encF boolc 1 p.calledS=cv at *
  simp
  refine (xDI hOK).use (n:=9) (by simp [mapOpt,xAd p.funsS.stab]) (by simp [solids,AV.solid,p.funsS.solid]) ?_
  obtain ⟨w1,w2,w3,hT,h1,h2,h3⟩:=xWm p
  rw [hT]
  have hl1:p.insS.length=p.funs.length:=by simp [Prg.insS]
  simp [xJL h1,xJL h2,xJL h3,h1.len,hl1,hcf.len,hcl,p.funsS.len,hroom]
  refine W.whileI (fun (f:Nat) F S=>f≤p.funs.length∧F 1=.ptr 0 0 0∧F 3=.bool true∧F 4=cv∧F 5=.ptr 1 0 0∧F 6=.sl 1 2 0 p.funs.length∧F 7=.int .i64 f∧S.obj 0=some (.row 1 [[p.funsV]])∧S.obj 1=some (.row 3 [[w1,w2,w3]])∧∃ es,RowsV 3 S 2 es (p.cRows f [])) (fun f=>p.funs.length - f) ?_ 0 _ _ ?_
  · rintro f F S ⟨hf,f1,f3,f4,f5,f6,f7,s0,s1,es,hR⟩
    simp [f1,f7,s0,p.funsS.len]
    by_cases hlt:f < p.funs.length
    · obtain ⟨x,hx⟩:∃ x,p.funs[f]?=some x:=⟨_,xgG hlt⟩
      have e4:=wrapS f (by omega)
      have hnb:p.nb f=x.blks.length:=Prg.nb_of hx
      have hok:=hOK.fun hx
      have hbl:=hok.len
      have hxi:=p.funsS.idx hx
      have hout:∀b ∈ x.blks,b.out.length < 2 ^ 20:=fun b hb=>by have:=(hok.out b hb).1;omega
      have hgl:(cleanG x.gout).length=x.blks.length:=xWR x
      have hgr:∀l ∈ cleanG x.gout,l.length < 1048576:=fun l hl=>by
        simp only [cleanG,List.mem_map,Fun.gout] at hl
        obtain ⟨m,⟨y,hy,rfl⟩,rfl⟩:=hl
        refine Nat.lt_of_le_of_lt (xAZ _ _) ?_
        unfold Blk.gout
        split
        · exact hout y hy
        · simp
      have hrow:FSl envcS 2 (encF envcS 2 (p.insRow f (p.nb f))) (p.insRow f (p.nb f)):=xAx
      have hrl:=xWt (p:=p) (f:=f) (m:=p.nb f)
      have hix:=h1.idx (xWG hlt)
      have hro:=xJL hrow
      generalize encF envcS 2 (p.insRow f (p.nb f))=rv at *
      rw [hnb] at hrow hrl
      simp [hlt,f1,f7,s0,hxi]
      refine (xXg x (by omega) hout).use (n:=9) (by simp [mapOpt,xAd x.blksS.stab]) (by simp [solids,AV.solid,x.blksS.solid]) ?_
      simp
      have hGr:=xCE (cleanG x.gout)
      refine (xWA hGr (by omega) hgr 0 (by omega)).use (n:=9) (by simp [mapOpt,xAd hGr.stab]) (by simp [solids,AV.solid,hGr.solid]) ?_
      rw [hgl,show Rch (cleanG (cleanG x.gout)) 0=x.Way from rfl]
      have hmf:FSl boolc 1 (.fsl 1 (els boolc (marks x.blks.length x.Way))) (marks x.blks.length x.Way):=FSl.mk
      have hml:(marks x.blks.length x.Way).length=x.blks.length:=by simp [marks]
      generalize AV.fsl 1 (els boolc (marks x.blks.length x.Way))=mv at *
      simp [f1,f5,f7,s0,s1,hxi,hix,hrow.len,hrl,hmf.len,hml,x.blksS.len]
      refine W.whileI (fun (b:Nat) F S=>b≤x.blks.length∧F 1=.ptr 0 0 0∧F 3=.bool true∧F 4=cv∧F 5=.ptr 1 0 0∧F 6=.sl 1 2 0 p.funs.length∧F 7=.int .i64 f∧F 8=mv∧F 9=.int .i64 b∧S.obj 0=some (.row 1 [[p.funsV]])∧S.obj 1=some (.row 3 [[w1,w2,w3]])∧∃ es,RowsV 3 S 2 es (p.cRows f (x.cTo (x.posTo f b)))) (fun b=>x.blks.length - b) ?_ 0 _ _ ?_
      · clear f1 f3 f4 f5 f6 f7 s0 s1 hR
        rintro b F S ⟨hb,f1,f3,f4,f5,f6,f7,f8,f9,s0,s1,es,hR⟩
        simp [f8,f9,hmf.len,hml]
        by_cases hltb:b < x.blks.length
        · obtain ⟨y,hy⟩:∃ y,x.blks[b]?=some y:=⟨_,xgG hltb⟩
          have e5:=wrapS b (by omega)
          have hyi:=x.blksS.idx hy
          have hrb:=hrow.idx (xWs (p:=p) (f:=f) hltb)
          obtain ⟨hil,hcl',_⟩:=hOK.blk hx hy
          have hmb:(marks x.blks.length x.Way)[b]?=some (decide (x.Way b)):=xWN hltb
          have hci:=hcf.idx (hcg f hlt)
          have hmi:=hmf.idx hmb
          have hon:(p.sAt (.blk f b)).isSome=(decide (p.Cld f) && decide (x.Way b)):=by
            have:=xXw hOK hx hltb
            cases h:(p.sAt (.blk f b)).isSome
            · have hn:¬ (p.Cld f∧x.Way b):=fun hc=>by rw [this.2 hc] at h;cases h
              by_cases q1:p.Cld f <;> by_cases q2:x.Way b <;> simp [q1,q2] <;> exact hn ⟨q1,q2⟩
            · simp [(this.1 h).1,(this.1 h).2]
          obtain ⟨we,hwe⟩:∃ we,envcS (p.sAt (.blk f b))=[.bool (p.sAt (.blk f b)).isSome,we]:=by cases p.sAt (.blk f b) <;> exact ⟨_,rfl⟩
          rw [hwe,hon] at hrb
          simp [hltb]
          refine Dra.auto [] mix ?_ ?_
          · kernel_rfl
          simp [classes,f4,f5,f7,f8,f9,s1,hix,hrb,hci,boolc]
          have hnx:x.posTo f (b + 1)=x.posTo f b ++ y.posTo f b y.ins.length:=Fun.posTo_succ hy
          have hskip:¬ x.Way b→x.cTo (x.posTo f (b + 1))=x.cTo (x.posTo f b):=fun hw=>by
            rw [hnx];exact cTo_skip fun s hs hc=>hw ((Blk.posTo_mem.1 hs).2.1 ▸ hc.2)
          by_cases hC:p.Cld f
          all_goals by_cases hW:x.Way b
          all_goals simp [hC,hW,f8,f9,hmi,boolc]
          all_goals
            refine W.whileI (fun (k:Nat) F S=>k≤y.ins.length∧(x.Way b ∨ k=0)∧F 1=.ptr 0 0 0∧F 3=.bool true∧F 4=cv∧F 5=.ptr 1 0 0∧F 6=.sl 1 2 0 p.funs.length∧F 7=.int .i64 f∧F 8=mv∧F 9=.int .i64 b∧F 10=.int .i64 k∧S.obj 0=some (.row 1 [[p.funsV]])∧S.obj 1=some (.row 3 [[w1,w2,w3]])∧∃ es,RowsV 3 S 2 es (p.cRows f (x.cTo (x.posTo f b ++ y.posTo f b k)))) (fun k=>y.ins.length - k) ?_ 0 _ _ ?_
            · clear f1 f3 f4 f5 f6 f7 f8 f9 s0 s1 hR es
              rintro k F S ⟨hk,hwk,f1,f3,f4,f5,f6,f7,f8,f9,f10,s0,s1,es,hR⟩
              simp [f1,f7,f9,f10,s0,hxi,hyi,y.insS.len]
              by_cases hlk:k < y.ins.length
              · simp [hlk,f8,f9,hmi,boolc]
                first
                  | (rw [show k=0 from hwk.resolve_left hW] at hR
                     simp [hW,f1,f3,f4,f5,f6,f7,f8,f9,e5]
                     refine ⟨b + 1,by omega,by omega,by omega,s0,s1,es,?_⟩
                     rw [hskip hW]
                     simpa [Blk.posTo] using hR)
                  | (obtain ⟨i,hi⟩:∃ i,y.ins[k]?=some i:=⟨_,xgG hlk⟩
                     have e6:=wrapS k (by omega)
                     have hii:=y.insS.idx hi
                     have hps:x.posTo f b ++ y.posTo f b (k + 1)=(x.posTo f b ++ y.posTo f b k) ++ [(f,b,k,i)]:=by rw [Blk.posTo_succ hi,List.append_assoc]
                     simp [hW,f1,f7,f9,f10,s0,hxi,hyi,hii]
                     generalize hSa:(S.new (.row 11 [[.int .i64 0,.int .i64 0,.int .i64 0,.int .i64 0,.int .i64 0,.int .i64 0,.int .i64 0,.int .i64 0,.int .i64 0,.int .i64 0,.int .i64 0]])).set S.next (.row 11 [[.int .i64 i.id,.int .i64 i.kind,.int .i64 i.dst,.int .i64 i.a,.int .i64 i.b,.int .i64 i.c,.int .i64 i.f,.int .i64 i.n,.int .i64 i.x0,.int .i64 i.x1,.int .i64 i.x2]])=Sa
                     have hua:Up S Sa:=by rw [← hSa];exact (Up.new _ _).put (Nat.le_refl _) _
                     have oa:Sa.obj S.next=some (.row 11 [[.int .i64 i.id,.int .i64 i.kind,.int .i64 i.dst,.int .i64 i.a,.int .i64 i.b,.int .i64 i.c,.int .i64 i.f,.int .i64 i.n,.int .i64 i.x0,.int .i64 i.x1,.int .i64 i.x2]]):=by rw [← hSa];simp
                     clear hSa
                     have hle:=hR.le
                     have hRa:RowsV 3 Sa 2 es _:=hR.other hua.1 (hua.2 2 (by omega)) fun q _ hq=>hua.2 q hq
                     have s0a:Sa.obj 0=some (.row 1 [[p.funsV]]):=by rw [hua.2 0 (by omega)];exact s0
                     have s1a:Sa.obj 1=some (.row 3 [[w1,w2,w3]]):=by rw [hua.2 1 (by omega)];exact s1
                     have hcl64:(x.cTo (x.posTo f b ++ y.posTo f b k)).length≤1000:=by
                       refine Nat.le_trans (xXd _ _) ?_
                       have q1:=Blk.posTo_len f b y k
                       have q2:(x.posTo f b).length≤b * 16:=by
                         refine xEg _ fun m hm=>?_
                         cases hz:x.blks[m]? with
                         | none=>simp
                         | some z =>
                           have q3:=(hOK.blk hx hz).1
                           have q4:=z.posTo_len f m z.ins.length
                           show (z.posTo f m z.ins.length).length≤16
                           omega
                       rw [List.length_append];omega
                     refine xAj (fun h7=>?_) (fun h7=>?_)
                     · have hst:=xXy (x:=x) (L:=x.posTo f b ++ y.posTo f b k) (s:=(f,b,k,i)) ⟨h7,hW⟩
                       rw [← hps] at hst
                       obtain ⟨v,hv,hcv⟩:=hRa.row f _ (xWH hlt)
                       have hv1:v.one=true:=by rcases hcv with ⟨rfl,_⟩ | ⟨o,rfl,_⟩ <;> rfl
                       obtain ⟨S',m1,m2,m3,m4⟩:=(hRa.new (.row 1 [[.int .i64 i.f]])).app (a:=i.f) hv (xWH hlt) (by simp [room];omega)
                       rw [xXe hlt] at m4
                       have hso:Sa.obj 2=some (.row 1 es):=hRa.obj
                       have k0:=m3 0 (by omega)
                       have k1:=m3 1 (by omega)
                       have k2:=m3 2 (by omega)
                       have hna:=hua.1
                       simp [show ¬ 0=Sa.next by omega,s0a] at k0
                       simp [show ¬ 1=Sa.next by omega,s1a] at k1
                       simp [show ¬ 2=Sa.next by omega,hso] at k2
                       simp
                       refine Dra.auto [] mix ?_ ?_
                       · kernel_rfl
                       simp [classes,f6,f7,xAc hlt,hso,hv,oa,m1,k2,f1,f3,f4,f5,f8,f9,f10,e6]
                       rw [← hst] at m4
                       exact ⟨k + 1,by omega,by omega,by omega,k0,k1,_,m4⟩
                     · have hst:x.cTo (x.posTo f b ++ y.posTo f b (k + 1))=x.cTo (x.posTo f b ++ y.posTo f b k):=by
                         rw [hps];exact cTo_skip fun s hs hc=>by rw [List.mem_singleton] at hs;subst hs;exact h7 hc.1
                       simp [f1,f3,f4,f5,f6,f7,f8,f9,f10,e6]
                       rw [← hst] at hRa
                       exact ⟨k + 1,by omega,by omega,by omega,s0a,s1a,es,hRa⟩)
              · have:k=y.ins.length:=by omega
                subst this
                rw [← hnx] at hR
                simp [f1,f3,f4,f5,f6,f7,f8,f9,e5]
                exact ⟨b + 1,by omega,by omega,by omega,s0,s1,es,hR⟩
            · simp [f1,f3,f4,f5,f6,f7,f8,f9]
              exact ⟨s0,s1,es,by simpa [Blk.posTo] using hR⟩
        · have:b=x.blks.length:=by omega
          subst this
          rw [xXc,xWZ hx] at hR
          simp [f1,f3,f4,f5,f6,f7,e4]
          exact ⟨f + 1,by omega,by omega,by omega,s0,s1,es,hR⟩
      · simp [f1,f3,f4,f5,f6,f7]
        exact ⟨s0,s1,es,by simpa [Fun.posTo,xXx] using hR⟩
    · have:f=p.funs.length:=by omega
      subst this
      rw [xXf] at hR
      have hpict:=fun m=>hR.pict (m:=m)
      rw [xWo] at hpict
      have hGc:GrV (.fsl 1 (els (fun l=>[encF intc 1 l]) p.cG)) p.cG:=xHx p.cG
      simp [f6]
      by_cases h0:p.funs.length=0
      · have hG0:p.cG=[]:=List.eq_nil_of_length_eq_zero (by rw [xWo];exact h0)
        have hc0:p.calledS=[]:=List.eq_nil_of_length_eq_zero (by rw [hcl];exact h0)
        rw [hG0] at hGc hpict
        rw [hc0] at hcf
        refine (xWM hGc).use (n:=9) (by simp [mapOpt,hpict]) rfl ?_
        simp [f3,f4]
        refine (xWu [] _ (.fsl 1 []) hcf (.inl rfl) (by simp)).use (n:=9) (by simp [mapOpt,xAd hcf.stab]) rfl ?_
        simp
        exact RK.eq rfl rfl
      · refine (xWA hGc (by rw [xWo];omega) (xXA hOK) 0 (by rw [xWo];omega)).use (n:=9) (by simp [mapOpt,hpict]) rfl ?_
        rw [xWo,show Rch (cleanG p.cG) 0=p.Cld from rfl,← xWv hOK]
        simp [f3,f4]
        refine (xWu p.calledS _ _ hcf .mk (by rw [hcl];omega)).use (n:=9) (by simp [mapOpt,xAd hcf.stab]) rfl ?_
        simp
        exact RK.eq rfl rfl
  · simp
    rw [xW0]
    exact ⟨_,RowsV.start (S:=((St.empty.new (.row 1 [[p.funsV]])).new (.row 3 [[.nilsl,.nilsl,.nilsl]])).set 1 (.row 3 [[w1,w2,w3]])) (by simp) p.funs.length⟩
end Go.Proofs.YtnhfofmhkfdpgaaGreatDoor.Vm
