/- A part of the proof: Gs Gt Gu Gv Gw Gx. -/
import Derived.Test.YtbhkamemheaajaaGreatDoorQ23
set_option linter.unusedVariables false
set_option linter.unusedSimpArgs false
set_option linter.constructorNameAsVariable false
namespace Go.Proofs.YtbhkamemheaajaaGreatDoor.Vm
open Go Go.RowKit
variable {N:Nat} {g:Glob}
theorem encR_gr (L:List (List Int)):GrV (.fsl 1 (els (fun l=>[encF intc 1 l]) L)) L:=by
 refine .inr ⟨L.map fun l=>encF intc 1 l,by simp [els],by simp,fun k w l hw hl=>?_⟩
 rw [List.getElem?_map,hl] at hw
 cases hw
 exact encF_sl
theorem ints_pict {S:St} {o:Nat} {l:List Int} {m:Nat} (h:S.obj o=some (.row 1 (els intc l))):pict S [] (m + 2) (.sl 1 o 0 l.length)=some (.fsl 1 (els intc l)):=by
 refine pict_row (es:=els intc l) h (by simp) (by simp) fun k e he=>?_
 rw [he]
 simp only [els,List.getElem?_map] at he
 cases hz:l[k]? with
 | none=>rw [hz] at he;cases he
 | some x=>rw [hz] at he;cases he;simp [intc]
theorem Dra.autoR {P:Program} {l:List VOper} {aft:List (List Nat)} {F:AFrame} {S:St} {Q:Res→Prop} (R:St) (hR:Sub R S) (xs ls:List Nat) (hm:P.follows .mixedOrders=true) (hc:(decide ((classes xs ls l 0 false).length=l.length) && drawChk (l.zip (classes xs ls l 0 false)) aft)=true) (h:vcDs P g S R l (classes xs ls l 0 false) F S Q):Dra P g l aft F S Q:=drawnR R hR _ hm hc h
structure Shrunk (n:Nat) (L:List (List Int)) (r:List Int):Prop where
 len:L.length≤n
 short:∀l ∈ L,l.length < 1048576
 rlen:r.length=n
 rng:∀x ∈ r,0≤x∧x < L.length
theorem scc_Shrink {v:AV} {G:List (List Int)} (hv:GrV v G) (hG:G.length≤12) (hl:∀l ∈ G,l.length < 1000):RetE P g false 231 [v] (fun y=>∃ (L:List (List Int)) (r:List Int),y=.tuple [encG (cleanG L),.fsl 1 (els intc r)]∧Shrunk G.length L r):=by
 refine RetE.in c231 (by simp) ?_
 have hroom:G.length≤room:=by simp [room];omega
 have hCl:(cleanG G).length=G.length:=by simp [cleanG]
 have hCm:∀l ∈ cleanG G,l.length < 1000∧∀x ∈ l,0≤x∧x < G.length:=by
  intro l h
  simp only [cleanG,List.mem_map] at h
  obtain ⟨m,hm,rfl⟩:=h
  exact ⟨Nat.lt_of_le_of_lt (cleanL_len _ _) (hl m hm),fun x hx=>(cleanL_mem.1 hx).2⟩
 have hcv:=encG_gr (cleanG G)
 simp [k231]
 refine (scc_Parts hv hG (fun l h=>by have:=hl l h;omega)).use (n:=9) ?_ ?_ ?_ <;> simp [pict_stab hv.stab,solids,hv.solid]
 rintro pv Ps hPv hPs
 have e0:∀n:Nat,List.replicate n [AV.int IntKind.i64 0]=els intc (List.replicate n 0):=fun n=>els_replicate (e:=intc)
 simp [hv.len,hroom,hPv.len,e0]
 have hp0:=hPs.len
 refine W.whileI (fun (k:Nat) F S=>k≤Ps.length∧F 0=v∧F 4=pv∧F 5=.sl 1 0 0 G.length∧F 20=pv∧F 21=.int .i64 Ps.length∧F 22=.int .i64 k∧S.next=1∧∃ r:List Int,r.length=G.length∧S.obj 0=some (.row 1 (els intc r))∧∀x ∈ r,0≤x∧x < Ps.length) (fun k=>Ps.length - k) ?_ 0 _ _ ?_
 ·rintro k F S ⟨hk,h0,h4,h5,h20,h21,h22,hn,r,hr,hro,hrx⟩
  by_cases hlt:k < Ps.length
  ·obtain ⟨l,hx⟩:∃ l,Ps[k]?=some l:=⟨_,List.getElem?_eq_getElem hlt⟩
   obtain ⟨_,hlx,hll⟩:=hPs.each l (List.mem_of_getElem? hx)
   have hlf:FSl intc 1 (.fsl 1 (els intc l)) l:=FSl.mk
   have e4:=wrapS k (by omega)
   simp [h21,h22,hlt]
   simp [h20,h22,hPv.idx hx,partc]
   refine W.whileI (fun (j:Nat) F S=>j≤l.length∧F 0=v∧F 4=pv∧F 5=.sl 1 0 0 G.length∧F 6=.int .i64 k∧F 20=pv∧F 21=.int .i64 Ps.length∧F 22=.int .i64 k∧F 27=.fsl 1 (els intc l)∧F 28=.int .i64 l.length∧F 29=.int .i64 j∧S.next=1∧∃ r:List Int,r.length=G.length∧S.obj 0=some (.row 1 (els intc r))∧∀x ∈ r,0≤x∧x < Ps.length) (fun j=>l.length - j) ?_ 0 _ _ ?_
   ·rintro j F S ⟨hj,h0,h4,h5,h6,h20,h21,h22,h27,h28,h29,hn,r,hr,hro,hrx⟩
    by_cases hlj:j < l.length
    ·obtain ⟨x,hxj⟩:∃ x,l[j]?=some x:=⟨_,List.getElem?_eq_getElem hlj⟩
     have e5:=wrapS j (by omega)
     obtain ⟨hx0,hxn⟩:=hlx x (List.mem_of_getElem? hxj)
     obtain ⟨b,rfl⟩:∃ b:Nat,x=(b:Int):=⟨x.toNat,by omega⟩
     have hbn:b < G.length:=by omega
     obtain ⟨y,hy⟩:∃ y,r[b]?=some y:=⟨_,List.getElem?_eq_getElem (by omega)⟩
     simp [h28,h29,hlj]
     simp [h27,h29,hlf.idx hxj,intc,h5,h6,ix_sl hbn,hro,hy,h0,h4,h20,h21,h22,e5]
     refine ⟨j + 1,by omega,by omega,by omega,hn,r.set b (k:Int),by simp [hr],?_,?_⟩
     ·rw [← els_set];rfl
     ·intro z hz
      rcases List.mem_or_eq_of_mem_set hz with h | rfl
      ·exact hrx z h
      ·omega
    ·have:j=l.length:=by omega
     subst this
     simp [h28,h29,h0,h4,h5,h20,h21,h22,e4]
     exact ⟨k + 1,by omega,by omega,by omega,hn,r,hr,hro,hrx⟩
   ·simp [h0,h4,h5,h20,h21,h22]
    exact ⟨hn,r,hr,hro,hrx⟩
  ·have hpr:Ps.length≤room:=by omega
   simp [h21,h22,hlt,h4,hPv.len,hpr,h0]
   refine (graph_Clean hv (by omega) (fun l h=>by have:=hl l h;omega)).use (n:=9) ?_ rfl ?_ <;> simp [pict_stab hv.stab]
   have hR0:RowsV 2 (S.new (.row 1 (List.replicate Ps.length [.nilsl]))) 1 (List.replicate Ps.length [.nilsl]) (List.replicate Ps.length []):=by
    have:=RowsV.start (S:=S) (by simp) Ps.length
    rw [hn] at this
    exact this
   generalize cleanG G=C at *
   generalize encG C=cv at *
   simp [hcv.len,hn,hCl]
   refine W.whileI (fun (a:Nat) F S=>a≤G.length∧F 5=.sl 1 0 0 G.length∧F 10=.sl 1 1 0 Ps.length∧F 43=cv∧F 44=.int .i64 G.length∧F 45=.int .i64 a∧S.obj 0=some (.row 1 (els intc r))∧∃ es L,RowsV 2 S 1 es L∧L.length=Ps.length∧∀m ∈ L,m.length≤a * 1000) (fun a=>G.length - a) ?_ 0 _ _ ?_
   ·rintro a F S ⟨ha,h5,h10,h43,h44,h45,hro,es,L,hR,hLl,hLb⟩
    by_cases hlt:a < G.length
    ·obtain ⟨l,hx⟩:∃ l,C[a]?=some l:=⟨_,List.getElem?_eq_getElem (by omega)⟩
     obtain ⟨w,hw,hix⟩:=hcv.idx hx
     obtain ⟨hll,hlx⟩:=hCm l (List.mem_of_getElem? hx)
     have e4:=wrapS a (by omega)
     obtain ⟨ra,hra⟩:∃ y,r[a]?=some y:=⟨_,List.getElem?_eq_getElem (by omega)⟩
     obtain ⟨hra0,hran⟩:=hrx ra (List.mem_of_getElem? hra)
     obtain ⟨ka,rfl⟩:∃ b:Nat,ra=(b:Int):=⟨ra.toNat,by omega⟩
     have hka:ka < Ps.length:=by omega
     simp [h44,h45,hlt]
     simp [h43,h45,hix,hw.len]
     refine W.whileI (fun (k:Nat) F S=>k≤l.length∧F 5=.sl 1 0 0 G.length∧F 10=.sl 1 1 0 Ps.length∧F 11=.int .i64 a∧F 43=cv∧F 44=.int .i64 G.length∧F 45=.int .i64 a∧F 50=w∧F 51=.int .i64 l.length∧F 52=.int .i64 k∧S.obj 0=some (.row 1 (els intc r))∧∃ es L,RowsV 2 S 1 es L∧L.length=Ps.length∧∀m ∈ L,m.length≤a * 1000 + k) (fun k=>l.length - k) ?_ 0 _ _ ?_
     ·rintro k F S ⟨hk,h5,h10,h11,h43,h44,h45,h50,h51,h52,hro,es,L,hR,hLl,hLb⟩
      by_cases hlk:k < l.length
      ·obtain ⟨x,hxk⟩:∃ x,l[k]?=some x:=⟨_,List.getElem?_eq_getElem hlk⟩
       have e5:=wrapS k (by omega)
       obtain ⟨hx0,hxn⟩:=hlx x (List.mem_of_getElem? hxk)
       obtain ⟨b,rfl⟩:∃ b:Nat,x=(b:Int):=⟨x.toNat,by omega⟩
       have hbn:b < G.length:=by omega
       obtain ⟨rb,hrb⟩:∃ y,r[b]?=some y:=⟨_,List.getElem?_eq_getElem (by omega)⟩
       simp [h51,h52,hlk]
       simp [h50,h52,hw.idx hxk,intc]
       refine Dra.auto [] mix ?_ ?_
       ·kernel_rfl
       simp [classes,h5,h11,ix_sl hlt,ix_sl hbn,hro,hra,hrb,intc]
       by_cases heq:(ka:Int)=rb
       ·simp [heq,h5,h10,h11,h43,h44,h45,h50,h51,h52,e5]
        refine ⟨k + 1,by omega,by omega,by omega,hro,es,L,hR,hLl,fun m hm=>?_⟩
        have:=hLb m hm;omega
       ·simp [heq]
        obtain ⟨u,m,hu,hm,hu1⟩:=hR.idx (k:=ka) (by omega)
        have hmb:=hLb m (List.mem_of_getElem? hm)
        obtain ⟨S',q1,q2,q3,q4⟩:=(hR.new (.row 1 [[.int .i64 rb]])).app (a:=rb) hu hm (by simp [room];omega)
        have hob:=q3 0 (by omega)
        have hob1:=q3 1 (by omega)
        have hS1:=hR.obj
        have hn1:=hR.le
        simp [show ¬ 0=S.next by omega,hro] at hob
        simp [show ¬ 1=S.next by omega,hS1] at hob1
        have hkae:ka < es.length:=by rw [hR.len];omega
        refine Dra.autoR ⟨1,fun o=>if o=0 then S.obj 0 else none⟩ (fun q x h=>?_) [] [4] mix ?_ ?_
        ·simp only at h
         split at h
         ·rename_i e;rw [e];exact h
         ·cases h
        ·kernel_rfl
        simp [classes,h5,h10,h11,ix_sl hlt,ix_sl hbn,ix_sl hka,hro,hra,hrb,hS1,hu,intc,KDx]
        have hsub:∀S'':St,S''.obj 0=some (.row 1 (els intc r))→Sub ⟨1,fun o=>if o=0 then some (.row 1 (els intc r)) else none⟩ S'':=by
         intro S'' h q x hq
         simp only at hq
         split at hq
         ·rename_i e;rw [e,h];exact hq
         ·cases hq
        simp [q1,hob1,hu,h52,h43,h44,h45,h50,h51,e5]
        refine ⟨hsub _ hob,hsub _ (by simp [hob]),k + 1,by omega,by omega,by omega,hob,_,_,q4,by simp [hLl],fun m' hm'=>?_⟩
        rcases List.mem_or_eq_of_mem_set hm' with h | rfl
        ·have:=hLb m' h;omega
        ·simp;omega
      ·have:k=l.length:=by omega
       subst this
       simp [h51,h52,h5,h10,h43,h44,h45,e4]
       refine ⟨a + 1,by omega,by omega,by omega,hro,es,L,hR,hLl,fun m hm=>?_⟩
       have:=hLb m hm;omega
     ·simp [h5,h10,h43,h44,h45]
      exact ⟨hro,es,L,hR,hLl,hLb⟩
    ·simp [h44,h45,hlt,h10]
     have hp1:=hR.pict (m:=6)
     rw [hLl] at hp1
     have hLs:∀l ∈ L,l.length < 1048576:=fun l h=>by have:=hLb l h;omega
     refine (graph_Clean (encR_gr L) (by omega) (fun l h=>by have:=hLs l h;omega)).use (n:=9) (by simp only [mapOpt,hp1]) rfl ?_
     simp [h5]
     refine ⟨_,⟨L,r,rfl,by omega,hLs,hr,fun x hx=>by have:=hrx x hx;omega⟩,3,?_⟩
     have hp2:=ints_pict (m:=0) hro
     rw [hr] at hp2
     have hp3:pict S [] 2 (encG (cleanG L))=some (encG (cleanG L)):=pict_stab rfl
     rw [pict_tuple]
     simp only [mapOpt,hp2,hp3];rfl
   ·simp
    exact ⟨h5,by simp [hn,hro],_,List.replicate Ps.length [],hR0,by simp,fun m hm=>(List.mem_replicate.1 hm).2⟩
 ·simp
  refine ⟨_,by simp,rfl,fun x hx=>?_⟩
  have hx':=List.mem_replicate.1 hx
  rw [hx'.2]
  have:=hPs.some (by omega)
  have:=List.length_pos_iff.2 this
  omega
end Go.Proofs.YtbhkamemheaajaaGreatDoor.Vm
namespace Go.Proofs.YtbhkamemheaajaaGreatDoor.Vm
open Go Go.RowKit
variable {N:Nat} {g:Glob}
theorem rank_Ranks {v:AV} {G:List (List Int)} (hv:GrV v G) (hG:G.length≤12) (hl:∀l ∈ G,l.length < 1000):RetE P g false 180 [v] (fun y=>∃ o:List Int,y=.fsl 1 (els intc o)∧o.length=G.length):=by
 refine RetE.in c180 (by simp) ?_
 have hroom:G.length≤room:=by simp [room];omega
 simp [k180]
 refine (scc_Shrink hv hG hl).use (n:=9) (by simp [pict_stab hv.stab]) (by simp [solids,hv.solid]) ?_
 rintro _ ⟨L,r,rfl,hS⟩
 simp
 have hLl:(cleanG L).length=L.length:=by simp [cleanG]
 have h1:=hS.len
 refine (rank_of (encG_gr (cleanG L)) (by omega) ?_).use (n:=9) ?_ ?_ ?_
 ·intro l h
  rw [hLl]
  simp only [cleanG,List.mem_map] at h
  obtain ⟨m,hm,rfl⟩:=h
  exact ⟨Nat.lt_of_le_of_lt (cleanL_len _ _) (hS.short m hm),fun x hx=>(cleanL_mem.1 hx).2⟩
 ·simp [encG]
 ·simp [solids,encG]
 rintro y ⟨q,rfl,hq⟩
 have hrl:=hS.rlen
 have hrf:FSl intc 1 (.fsl 1 (els intc r)) r:=FSl.mk
 have hqf:FSl intc 1 (.fsl 1 (els intc q)) q:=FSl.mk
 have e0:∀n:Nat,List.replicate n [AV.int IntKind.i64 0]=els intc (List.replicate n 0):=fun n=>els_replicate (e:=intc)
 simp [hv.len,hroom,e0]
 refine W.whileI (fun (a:Nat) F S=>a≤r.length∧F 5=.fsl 1 (els intc q)∧F 6=.sl 1 0 0 G.length∧F 19=.fsl 1 (els intc r)∧F 20=.int .i64 r.length∧F 21=.int .i64 a∧∃ o:List Int,o.length=G.length∧S.obj 0=some (.row 1 (els intc o))) (fun a=>r.length - a) ?_ 0 _ _ ?_
 ·rintro a F S ⟨ha,h5,h6,h19,h20,h21,o,ho,hob⟩
  by_cases hlt:a < r.length
  ·obtain ⟨x,hx⟩:∃ x,r[a]?=some x:=⟨_,List.getElem?_eq_getElem hlt⟩
   obtain ⟨hx0,hxn⟩:=hS.rng x (List.mem_of_getElem? hx)
   obtain ⟨b,rfl⟩:∃ b:Nat,x=(b:Int):=⟨x.toNat,by omega⟩
   obtain ⟨y,hy⟩:∃ y,q[b]?=some y:=⟨_,List.getElem?_eq_getElem (by omega)⟩
   obtain ⟨u,hu⟩:∃ u,o[a]?=some u:=⟨_,List.getElem?_eq_getElem (by omega)⟩
   have e4:=wrapS a (by omega)
   have hag:a < G.length:=by omega
   simp [h20,h21,hlt]
   simp [h19,h21,hrf.idx hx,intc,h5,hqf.idx hy,h6,ix_sl hag,hob,hu,h20,e4]
   refine ⟨a + 1,by omega,by omega,by omega,o.set a y,by simp [ho],?_⟩
   rw [← els_set];rfl
  ·simp [h20,h21,hlt,h6]
   refine ⟨_,⟨o,rfl,ho⟩,2,?_⟩
   rw [← ho]
   exact ints_pict hob
 ·simp
  exact ⟨_,by simp,rfl⟩
theorem natc_eq (l:List Nat):els natc l=els intc (l.map fun k:Nat=>(k:Int)):=by simp [els,natc,intc]
theorem set_take_succ {α:Type} {l:List α} {i:Nat} {y:α} (h:i < l.length):(l.set i y).take (i + 1)=l.take i ++ [y]:=by
 rw [take_succ_get (x:=y) (by rw [List.getElem?_set_self h]),List.take_set_of_le (by omega)]
theorem rank_Schedule {v:AV} {G:List (List Int)} (hv:GrV v G) (hG:G.length≤12) (hl:∀l ∈ G,l.length < 1000) (a0:Nat):RetE P g false 123 [v,.int .i64 (a0:Int)] (fun y=>∃ o:List Nat,y=.fsl 1 (els natc o)∧o.Perm (List.range G.length)):=by
 refine RetE.in c123 (by simp) ?_
 have hroom:G.length≤room:=by simp [room];omega
 simp [k123]
 refine (rank_Ranks hv hG hl).use (n:=9) (by simp [pict_stab hv.stab]) (by simp [solids,hv.solid]) ?_
 rintro _ ⟨rk,rfl,hrk⟩
 simp
 refine (graph_Order hv (by omega) (fun l h=>by have:=hl l h;omega) a0).use (n:=9) (by simp [pict_stab hv.stab]) (by simp [solids,hv.solid,AV.solid]) ?_
 rintro ov ⟨ol,hov,hol⟩
 simp [hv.len]
 refine (rank_places hov (by omega) G.length (by omega)).use (n:=9) (by simp [pict_stab hov.stab]) (by simp [solids,hov.solid,AV.solid]) ?_
 rintro _ ⟨at',rfl,hat⟩
 have hrf:FSl intc 1 (.fsl 1 (els intc rk)) rk:=FSl.mk
 have haf:FSl intc 1 (.fsl 1 (els intc at')) at':=FSl.mk
 simp [hv.len,hroom]
 refine W.whileI (fun (a:Nat) F S=>a≤at'.length∧F 0=v∧F 5=.fsl 1 (els intc rk)∧F 7=.ptr 1 0 0∧F 8=.sl 1 2 0 G.length∧F 25=.fsl 1 (els intc at')∧F 26=.int .i64 at'.length∧F 27=.int .i64 a∧S.obj 1=some (.row 1 [[.sl 2 0 0 G.length]]) ∧
  (∃ ks:List (Int × Int),ks.length=G.length∧S.obj 0=some (.row 2 (els keyc ks)))∧∃ o:List Nat,o.length=G.length∧o.take a=List.range a∧S.obj 2=some (.row 1 (els natc o))) (fun a=>at'.length - a) ?_ 0 _ _ ?_
 ·rintro a F S ⟨ha,h0,h5,h7,h8,h25,h26,h27,hb,⟨ks,hkl,hks⟩,o,hol,hot,hob⟩
  by_cases hlt:a < at'.length
  ·obtain ⟨x,hx⟩:∃ x,at'[a]?=some x:=⟨_,List.getElem?_eq_getElem hlt⟩
   have e4:=wrapS a (by omega)
   have hag:a < G.length:=by omega
   obtain ⟨rx,hrx⟩:∃ y,rk[a]?=some y:=⟨_,List.getElem?_eq_getElem (by omega)⟩
   obtain ⟨u,hu⟩:∃ u,o[a]?=some u:=⟨_,List.getElem?_eq_getElem (by omega)⟩
   obtain ⟨kx,hkx⟩:∃ u,ks[a]?=some u:=⟨_,List.getElem?_eq_getElem (by omega)⟩
   simp [h26,h27,hlt]
   simp [h25,h27,haf.idx hx,intc]
   have hsub0:Sub ⟨2,fun o=>if o=1 then S.obj 1 else none⟩ S:=by
    intro q x hq
    simp only at hq
    split at hq
    ·rename_i e;rw [e];exact hq
    ·cases hq
   have hsub:∀S'':St,S''.obj 1=some (.row 1 [[.sl 2 0 0 G.length]])→Sub ⟨2,fun o=>if o=1 then some (.row 1 [[.sl 2 0 0 G.length]]) else none⟩ S'':=by
    intro S'' h q x hq
    simp only at hq
    split at hq
    ·rename_i e;rw [e,h];exact hq
    ·cases hq
   have fin:∀z:Int,∃ a':Nat,at'.length - a' < at'.length - a∧a'≤at'.length∧(a:Int) + 1=(a':Int)∧(∃ ks':List (Int × Int),ks'.length=G.length∧(els keyc ks).set a [AV.int .i64 rx,.int .i64 z]=els keyc ks')∧∃ o':List Nat,o'.length=G.length∧o'.take a'=List.range a'∧(els natc o).set a [AV.int .i64 (a:Int)]=els natc o':=by
    intro z
    refine ⟨a + 1,by omega,by omega,by omega,⟨ks.set a (rx,z),by simp [hkl],by rw [← els_set];rfl⟩,o.set a a,by simp [hol],?_,by rw [← els_set];rfl⟩
    rw [set_take_succ (by omega),hot,List.range_succ]
   by_cases hx1:x=-1
   ·simp [hx1,h0,hv.len]
    refine Dra.autoR ⟨2,fun o=>if o=1 then S.obj 1 else none⟩ hsub0 [] [2] mix ?_ ?_
    ·kernel_rfl
    simp [classes,h5,h7,h8,hb,hks,hob,ix_sl hag,hrf.idx hrx,hkx,hu,intc,natc,keyc,h0,h25,h26,h27,e4,KDx]
    exact ⟨hsub _ (by simp [hb]),hsub _ (by simp [hb]),fin _⟩
   ·simp [hx1]
    refine Dra.autoR ⟨2,fun o=>if o=1 then S.obj 1 else none⟩ hsub0 [] [2] mix ?_ ?_
    ·kernel_rfl
    simp [classes,h5,h7,h8,hb,hks,hob,ix_sl hag,hrf.idx hrx,hkx,hu,intc,natc,keyc,h0,h25,h26,h27,e4,KDx]
    exact ⟨hsub _ (by simp [hb]),hsub _ (by simp [hb]),fin _⟩
  ·have:a=G.length:=by omega
   subst this
   simp [h26,h27,hlt,h8,h7]
   have hoR:o=List.range G.length:=by rw [← hot,List.take_of_length_le (by omega)]
   subst hoR
   have hq:∀a ∈ List.range G.length,∀b ∈ List.range G.length,∀l':List Nat,Cal P g 184 ([AV.int .i64 (a:Int),AV.int .i64 (b:Int)] ++ [AV.ptr 1 0 0]) (S.set 2 (.row 1 (els (cel fun k:Nat=>AV.int .i64 (k:Int)) l')))
     (fun v S'=>v=.int .i64 (cmpKey (ks.getD a (0,0)) (ks.getD b (0,0)))∧S'=S.set 2 (.row 1 (els (cel fun k:Nat=>AV.int .i64 (k:Int)) l'))):=by
    intro a ha b hb' l'
    have ha:=List.mem_range.1 ha
    have hb':=List.mem_range.1 hb'
    obtain ⟨ka,hka⟩:∃ u,ks[a]?=some u:=⟨_,List.getElem?_eq_getElem (by omega)⟩
    obtain ⟨kb,hkb⟩:∃ u,ks[b]?=some u:=⟨_,List.getElem?_eq_getElem (by omega)⟩
    refine rank_ScheduleF (kb:=1) (ko:=0) (ks:=ks) (by simp [hb,hkl]) (by simp [hks]) hka hkb ⟨?_,rfl⟩
    simp [List.getD_eq_getElem?_getD,hka,hkb]
   have hlen:(List.range G.length).length=G.length:=by simp
   rw [← hlen]
   refine sortF_int (α:=Nat) (c:=fun k:Nat=>AV.int .i64 (k:Int)) (fun _=>rfl) hob (by rw [hlen];omega) (fun a b=>cmpKey (ks.getD a (0,0)) (ks.getD b (0,0))) hq fun l' hl'=>?_
   simp [h8]
   refine ⟨_,⟨l',rfl,by simpa using hl'⟩,2,?_⟩
   have hll:l'.length=G.length:=by rw [hl'.length_eq];simp
   rw [← hll,natc_eq]
   have:=ints_pict (m:=0) (o:=2) (l:=l'.map fun k:Nat=>(k:Int)) (S:=S.set 2 (.row 1 (els (cel fun k:Nat=>AV.int .i64 (k:Int)) l'))) (by simp;rw [← natc_eq];rfl)
   simpa using this
 ·simp
  exact ⟨⟨List.replicate G.length (0,0),by simp,by simp [els,keyc]⟩,List.replicate G.length 0,by simp,by simp [els,natc]⟩
end Go.Proofs.YtbhkamemheaajaaGreatDoor.Vm
namespace Go.Proofs.YtbhkamemheaajaaGreatDoor.Vm
open Go Go.RowKit
variable {N:Nat} {g:Glob}
theorem mr_Len : mrow P 246 "Len" = some (0, some (334, false)) := by kernel_rfl
theorem mr_Less : mrow P 246 "Less" = some (0, some (335, false)) := by kernel_rfl
theorem mr_Swap : mrow P 246 "Swap" = some (0, some (338, false)) := by kernel_rfl
theorem mr_Push : mrow P 246 "Push" = some (0, some (337, true)) := by kernel_rfl
theorem mr_Pop : mrow P 246 "Pop" = some (0, some (336, true)) := by kernel_rfl
theorem mr_ptr:ptrTo P 246=some 247:=by kernel_rfl
theorem mr_size:sizeT P 247=some 1:=by kernel_rfl
theorem mr_agg:aggT P 247=some false:=by kernel_rfl
structure Hp (S:St) (H ho:Nat) (h:List Nat):Prop where
 box:S.obj H=some (.row 1 [[.sl 1 ho 0 h.length]])
 row:S.obj ho=some (.row 1 (els natc h))
 ne:H ≠ ho
 lH:H < S.next
 lo:ho < S.next
theorem Hp.load {S:St} {H ho:Nat} {h:List Nat} (hp:Hp S H ho h):sk (.load false 1) [.ptr H 0 0] S=some (.sl 1 ho 0 h.length,S):=by
 simp [hp.box]
theorem Hp.set {S:St} {H ho:Nat} {h h':List Nat} (hp:Hp S H ho h) (hl:h'.length=h.length):Hp (S.set ho (.row 1 (els natc h'))) H ho h' :=
 ⟨by simp [hp.ne,hp.box,hl],by simp,hp.ne,by simpa using hp.lH,by simpa using hp.lo⟩
theorem heap_Len {S : St} {H ho : Nat} {h : List Nat} {K : AV → St → Prop} (hp : Hp S H ho h) (hk : K (.int .i64 h.length) S) : CalI P g (.iface 246 (.ptr H 0 0)) "Len" [] S K := by
 refine CalI.v mr_Len mr_ptr mr_size mr_agg hp.load ?_
 refine c334.in (by simp) ?_
 simp [k334]
 exact hk
theorem heap_Less {S : St} {H ho a b : Nat} {h : List Nat} {K : AV → St → Prop} (hp : Hp S H ho h) (ha : a < h.length) (hb : b < h.length) (hk : ∀ t : Bool, K (.bool t) S) : CalI P g (.iface 246 (.ptr H 0 0)) "Less" [.int .i64 (a : Int), .int .i64 (b : Int)] S K := by
 refine CalI.v mr_Less mr_ptr mr_size mr_agg hp.load ?_
 refine c335.in (by simp) ?_
 obtain ⟨x,hx⟩:∃ x,h[a]?=some x:=⟨_,List.getElem?_eq_getElem ha⟩
 obtain ⟨y,hy⟩:∃ x,h[b]?=some x:=⟨_,List.getElem?_eq_getElem hb⟩
 simp [k335]
 refine Dra.auto [] mix ?_ ?_
 ·kernel_rfl
 simp [classes,ix_sl ha,ix_sl hb,hp.row,hx,hy,natc]
 exact hk _
theorem heap_Swap {S : St} {H ho a b : Nat} {h : List Nat} {K : AV → St → Prop} (hp : Hp S H ho h) (ha : a < h.length) (hb : b < h.length) (hk : ∀ h' : List Nat, h'.Perm h → K (.tuple []) (S.set ho (.row 1 (els natc h')))) : CalI P g (.iface 246 (.ptr H 0 0)) "Swap" [.int .i64 (a : Int), .int .i64 (b : Int)] S K := by
 refine CalI.v mr_Swap mr_ptr mr_size mr_agg hp.load ?_
 refine c338.in (by simp) ?_
 obtain ⟨x,hx⟩:∃ x,h[a]?=some x:=⟨_,List.getElem?_eq_getElem ha⟩
 obtain ⟨y,hy⟩:∃ x,h[b]?=some x:=⟨_,List.getElem?_eq_getElem hb⟩
 simp [k338]
 refine Dra.auto [] mix ?_ ?_
 ·kernel_rfl
 have fin:K (.tuple []) (S.set ho (.row 1 (els natc ((h.set a y).set b x)))):=by
  exact hk _ (swap_perm hx hy)
 by_cases hab:a=b
 ·subst hab
  rw [hx] at hy;cases hy
  have hself:((els natc h).set a [AV.int IntKind.i64 (x:Int)])[a]?=some [AV.int IntKind.i64 (x:Int)]:=by rw [List.getElem?_set_self (by simpa using ha)]
  simp [classes,ix_sl ha,hp.row,hx,natc,hself]
  rw [← els_set,← els_set] at fin
  simpa [set_set,natc] using fin
 ·simp [classes,ix_sl ha,ix_sl hb,hp.row,hx,hy,natc,hab]
  rw [← els_set,← els_set] at fin
  simpa [set_set,natc] using fin
theorem pk_assert {t:Nat} {ok:Bool} {z v:AV}:pk (.assert t ok z) [.iface t v]=some (if ok then .tuple [v,.bool true] else v):=by simp [pk]
theorem heap_PushM {S:St} {H ho x:Nat} {h:List Nat} {K:AV→St→Prop} (hp:Hp S H ho h) (hr:h.length + 1≤room)
  (hk : ∀ S', S'.next = S.next + 2 → Hp S' H (S.next + 1) (h ++ [x]) → (∀ q, q < S.next → q ≠ H → q ≠ ho → S'.obj q = S.obj q) → K (.tuple []) S') : CalI P g (.iface 246 (.ptr H 0 0)) "Push" [.iface 3 (.int .i64 (x : Int))] S K := by
 refine CalI.p mr_Push mr_ptr ?_
 refine c337.in (by simp) ?_
 have hr0:¬ room=0:=by simp [room]
 have l1:=hp.lH
 have l2:=hp.lo
 have n0:¬ H=S.next:=by omega
 have n1:¬ H=S.next + 1:=by omega
 have n2:¬ ho=S.next:=by omega
 have n3:=hp.ne
 simp [k337]
 refine Dra.auto [] mix ?_ ?_
 ·kernel_rfl
 simp [classes,hp.box,hp.row,pk_assert,hr0,n0,n1,n2,n3,hr]
 refine hk _ (by simp) ⟨by simp,?_,by omega,by simp;omega,by simp⟩ ?_
 ·simp [show ¬ S.next + 1=H by omega]
  rw [List.take_of_length_le (by simp)]
  simp [els,natc]
 ·intro q hq h1 h2
  simp [h1,h2,show ¬ q=S.next by omega,show ¬ q=S.next + 1 by omega]
theorem heap_PopM {S:St} {H ho x:Nat} {h:List Nat} {K:AV→St→Prop} (hp:Hp S H ho (h ++ [x])) (hl:h.length < 2 ^ 40)
  (hk : K (.iface 3 (.int .i64 (x : Int))) ((S.set H (.row 1 [[.sl 1 ho 0 h.length]])).set ho (.row 1 (els natc h)))) : CalI P g (.iface 246 (.ptr H 0 0)) "Pop" [] S K := by
 refine CalI.p mr_Pop mr_ptr ?_
 refine Cal.less ?_
 refine c336.in (by simp) ?_
 have hb:=hp.box
 have hrow:=hp.row
 simp only [List.length_append,List.length_singleton] at hb
 have e5:IntKind.i64.wrap (h.length:Int)=(h.length:Int):=wrap_in (by omega)
 have hix:pk (PK.indexAddr 1) [AV.sl 1 ho 0 (h.length + 1),AV.int IntKind.i64 (h.length:Int)]=some (.ptr ho (0 + h.length) 0):=ix_sl (by omega)
 have hsl:pk (.slice 1 false true false) [.sl 1 ho 0 (h.length + 1),.int .i64 (h.length:Int)]=some (.sl 1 ho 0 h.length):=sl_to (by omega)
 have hget:(els natc (h ++ [x]))[h.length]?=some [.int .i64 (x:Int)]:=by simp [els,natc]
 have hget2:∀h':h.length < (els natc (h ++ [x])).length,(els natc (h ++ [x]))[h.length]=[.int .i64 (x:Int)]:=fun h=>by simp [els,natc]
 simp [k336,hb,hrow,e5,hix,hget,hget2,hsl]
 have hcut:=Wk.cut (S:=S.set H (.row 1 [[.sl 1 ho 0 h.length]])) (o:=ho) (sz:=1) (es:=els natc (h ++ [x])) h.length (by simp [Ne.symm hp.ne,hrow])
 rw [els_take,List.take_left' rfl] at hcut
 exact ⟨_,hcut,hk⟩
theorem heap_up {S:St} {H ho j:Nat} {h:List Nat} {K:AV→St→Prop} (hp:Hp S H ho h) (hj:j < h.length) (hl:h.length < 2 ^ 30) (hk:∀h':List Nat,h'.Perm h→K (.tuple []) (S.set ho (.row 1 (els natc h')))):Cal P g 239 [.iface 246 (.ptr H 0 0),.int .i64 (j:Int)] S K:=by
 refine c239.in (by simp) ?_
 simp [k239]
 refine W.whileI (fun (j:Nat) F S'=>j < h.length∧F 0=.iface 246 (.ptr H 0 0)∧F 1=.int .i64 j∧∃ h':List Nat,h'.Perm h∧S'=S.set ho (.row 1 (els natc h'))) (fun j=>j) ?_ j _ _ ?_
 ·rintro j F S' ⟨hj,h0,h1,h',hpm,rfl⟩
  have hp':=hp.set hpm.length_eq
  have hl':=hpm.length_eq
  by_cases hj0:j=0
  ·subst hj0
   have e1:IntKind.i64.wrap (-1)=-1:=rfl
   have e2:IntKind.i64.wrap ((-1:Int).tdiv 2)=0:=rfl
   simp [h1,e1,e2]
   exact hk h' hpm
  ·have e1:IntKind.i64.wrap ((j:Int) - 1)=((j - 1:Nat):Int):=by rw [wrap_in (by omega)];omega
   obtain ⟨i,hi,hij⟩:∃ i:Nat,((j - 1:Nat):Int) / 2=(i:Int)∧i < j:=⟨(j - 1) / 2,by omega,by omega⟩
   have e2:IntKind.i64.wrap (i:Int)=i:=wrap_in (by omega)
   have e4:¬ (i:Int)=(j:Int):=by omega
   have e3:¬ i=j:=by omega
   simp [h1,e1,hi,e2,e3,e4,h0]
   refine heap_Less hp' (by omega) (by omega) fun t=>?_
   cases t
   ·simp
    exact hk h' hpm
   ·simp [h0,h1]
    refine heap_Swap hp' (by omega) (by omega) fun h2 hp2=>?_
    simp [h0]
    refine ⟨i,hij,by omega,rfl,h2,hp2.trans hpm,?_⟩
    rw [set_set]
 ·simp
  exact ⟨hj,h,.refl _,(St.set_same hp.row).symm⟩
theorem heap_down {S:St} {H ho n:Nat} {h:List Nat} {K:AV→St→Prop} (hp:Hp S H ho h) (hn:n≤h.length) (hl:h.length < 2 ^ 30) (hk:∀(h':List Nat) (t:Bool),h'.Perm h→K (.bool t) (S.set ho (.row 1 (els natc h')))):Cal P g 240 [.iface 246 (.ptr H 0 0),.int .i64 0,.int .i64 (n:Int)] S K:=by
 refine c240.in (by simp) ?_
 simp [k240]
 refine W.whileI (fun (i:Nat) F S'=>i≤n∧F 0=.iface 246 (.ptr H 0 0)∧F 1=.int .i64 0∧F 2=.int .i64 n∧F 7=.int .i64 i∧∃ h':List Nat,h'.Perm h∧S'=S.set ho (.row 1 (els natc h'))) (fun i=>n - i) ?_ 0 _ _ ?_
 ·rintro i F S' ⟨hi,h0,h1,h2,h7,h',hpm,rfl⟩
  have hp':=hp.set hpm.length_eq
  have hl':=hpm.length_eq
  have e1:IntKind.i64.wrap (2 * (i:Int))=2 * (i:Int):=wrap_in (by omega)
  obtain ⟨j,hj⟩:∃ j:Nat,2 * (i:Int) + 1=(j:Int):=⟨2 * i + 1,by omega⟩
  have e2:IntKind.i64.wrap (j:Int)=j:=wrap_in (by omega)
  have e3:=wrapS j (by omega)
  by_cases hjn:n≤j
  ·simp [h7,h2,e1,hj,e2,hjn,h1]
   exact hk h' _ hpm
  ·have hj0:¬ (j:Int) < 0:=by omega
   simp [h7,h2,e1,hj,e2,hjn,hj0,e3]
   by_cases hj2:(j:Int) + 1 < (n:Int)
   ·have hj2':j + 1 < n:=by omega
    simp [hj2,h0]
    refine heap_Less hp' (a:=j + 1) (b:=j) (by omega) (by omega) fun t=>?_
    cases t
    ·simp [h0,h7]
     refine heap_Less hp' (a:=j) (b:=i) (by omega) (by omega) fun t2=>?_
     cases t2
     ·simp [h1,h7]
      exact hk h' _ hpm
     ·simp [h0,h7]
      refine heap_Swap hp' (a:=i) (b:=j) (by omega) (by omega) fun h2' hp2=>?_
      simp [h0,h1,h2]
      exact ⟨j,by omega,by omega,by omega,h2',hp2.trans hpm,by rw [set_set]⟩
    ·simp [h0,h7]
     refine heap_Less hp' (a:=j + 1) (b:=i) (by omega) (by omega) fun t2=>?_
     cases t2
     ·simp [h1,h7]
      exact hk h' _ hpm
     ·simp [h0,h7]
      refine heap_Swap hp' (a:=i) (b:=j + 1) (by omega) (by omega) fun h2' hp2=>?_
      simp [h0,h1,h2]
      exact ⟨j + 1,by omega,by omega,by omega,h2',hp2.trans hpm,by rw [set_set]⟩
   ·simp [hj2,h0,h7]
    refine heap_Less hp' (a:=j) (b:=i) (by omega) (by omega) fun t2=>?_
    cases t2
    ·simp [h1,h7]
     exact hk h' _ hpm
    ·simp [h0,h7]
     refine heap_Swap hp' (a:=i) (b:=j) (by omega) (by omega) fun h2' hp2=>?_
     simp [h0,h1,h2]
     exact ⟨j,by omega,by omega,by omega,h2',hp2.trans hpm,by rw [set_set]⟩
 ·simp
  exact ⟨h,.refl _,(St.set_same hp.row).symm⟩
end Go.Proofs.YtbhkamemheaajaaGreatDoor.Vm
namespace Go.Proofs.YtbhkamemheaajaaGreatDoor.Vm
open Go Go.RowKit
variable {N:Nat} {g:Glob}
theorem heap_Push {S:St} {H ho x:Nat} {h:List Nat} {K:AV→St→Prop} (hp:Hp S H ho h) (hl:h.length < 2 ^ 20)
  (hk:∀S' h',Hp S' H (S.next + 1) h'→h'.Perm (h ++ [x])→S'.next=S.next + 2→(∀q,q < S.next→q ≠ H→q ≠ ho→S'.obj q=S.obj q)→K (.tuple []) S'):Cal P g 187 [.iface 246 (.ptr H 0 0),.iface 3 (.int .i64 (x:Int))] S K:=by
 refine c187.in (by simp) ?_
 have e1:IntKind.i64.wrap (h.length:Int)=(h.length:Int):=wrap_in (by omega)
 simp [k187]
 refine heap_PushM hp (by simp [room];omega) fun S1 a1 a2 a3=>?_
 simp
 refine heap_Len a2 ?_
 simp [e1]
 refine heap_up a2 (by simp) (by simp;omega) fun h' hpm=>?_
 simp
 refine hk _ h' (a2.set hpm.length_eq) hpm (by simp [a1]) fun q h1 h2 h3=>?_
 simp [show ¬ q=S.next + 1 by omega]
 exact a3 q h1 h2 h3
theorem heap_Pop {S:St} {H ho:Nat} {h:List Nat} {K:AV→St→Prop} (hp:Hp S H ho h) (hne:h ≠ []) (hl:h.length < 2 ^ 20)
  (hk:∀S' h' (x:Nat),Hp S' H ho h'→(h' ++ [x]).Perm h→S'.next=S.next→(∀q,q ≠ H→q ≠ ho→S'.obj q=S.obj q)→K (.iface 3 (.int .i64 (x:Int))) S'):Cal P g 189 [.iface 246 (.ptr H 0 0)] S K:=by
 refine c189.in (by simp) ?_
 have hpos:=List.length_pos_iff.2 hne
 have e1:IntKind.i64.wrap ((h.length:Int) - 1)=((h.length - 1:Nat):Int):=by rw [wrap_in (by omega)];omega
 simp [k189]
 refine heap_Len hp ?_
 simp [e1]
 refine heap_Swap hp (a:=0) (b:=h.length - 1) (by omega) (by omega) fun h1 hp1=>?_
 have a1:=hp.set hp1.length_eq
 have l1:=hp1.length_eq
 simp
 refine heap_down a1 (n:=h.length - 1) (by omega) (by omega) fun h2 t hp2=>?_
 have a2:=a1.set hp2.length_eq
 have l2:=hp2.length_eq
 simp
 rcases List.eq_nil_or_concat h2 with e | ⟨h3,x,e⟩
 ·subst e;simp at l2;omega
 ·rw [List.concat_eq_append] at e
  subst e
  refine heap_PopM a2 (by simp at l2;omega) ?_
  simp
  refine hk _ h3 x ⟨by simp [hp.ne],by simp,hp.ne,by simpa using hp.lH,by simpa using hp.lo⟩ (hp2.trans hp1) (by simp) fun q k1 k2=>by simp [k1,k2]
def KeysI (es:List (AV × AV)):Prop:=∀p ∈ es,∃ z,p.1=.int .i64 z
theorem KeysI.find {es:List (AV × AV)} (h:KeysI es) (i:Int):∃ r,findV (.int .i64 i) es=some r:=by
 induction es with
 | nil=>exact ⟨none,rfl⟩
 | cons p es ih =>
  obtain ⟨q,u⟩:=p
  obtain ⟨z,hz⟩:=h (q,u) (by simp)
  simp only at hz
  subst hz
  obtain ⟨r,hr⟩:=ih fun p hp=>h p (by simp [hp])
  simp only [findV,scalarEq,if_true]
  cases hb:(i == z)
  ·exact ⟨r,hr⟩
  ·exact ⟨some u,rfl⟩
theorem KeysI.put {es:List (AV × AV)} (h:KeysI es) (k:Int) (v:AV):∃ es',putV (.int .i64 k) v es=some es'∧KeysI es'∧∀i,findV (.int .i64 i) es'=if i=k then some (some v) else findV (.int .i64 i) es:=by
 induction es with
 | nil =>
  refine ⟨[(.int .i64 k,v)],rfl,fun p hp=>?_,fun i=>?_⟩
  ·simp at hp;exact ⟨k,by rw [hp]⟩
  ·simp only [findV,scalarEq,if_true]
   by_cases hik:i=k
   ·simp [hik]
   ·have:(i == k)=false:=by simpa using hik
    simp [this,hik]
 | cons p es ih =>
  obtain ⟨q,u⟩:=p
  obtain ⟨z,hz⟩:=h (q,u) (by simp)
  simp only at hz
  subst hz
  obtain ⟨es',h1,h2,h3⟩:=ih fun p hp=>h p (by simp [hp])
  simp only [putV,scalarEq,if_true]
  by_cases hkz:k=z
  ·subst hkz
   refine ⟨(.int .i64 k,v) :: es,by simp,fun p hp=>?_,fun i=>?_⟩
   ·rcases List.mem_cons.1 hp with rfl | hp
    ·exact ⟨k,rfl⟩
    ·exact h p (by simp [hp])
   ·simp only [findV,scalarEq,if_true]
    by_cases hik:i=k
    ·simp [hik]
    ·have:(i == k)=false:=by simpa using hik
     simp [this,hik]
  ·have hb:(k == z)=false:=by simpa using hkz
   refine ⟨(.int .i64 z,u) :: es',by simp [hb,h1],fun p hp=>?_,fun i=>?_⟩
   ·rcases List.mem_cons.1 hp with rfl | hp
    ·exact ⟨z,rfl⟩
    ·exact h2 p hp
   ·simp only [findV,scalarEq,if_true,h3 i]
    by_cases hiz:i=z
    ·have:¬ i=k:=fun e=>hkz (e.symm.trans hiz)
     subst hiz
     simp [this]
    ·have:(i == z)=false:=by simpa using hiz
     simp [this]
def todo (ord h:List Nat) (i:Nat):Prop:=∃ k,k ∈ h∧ord[k]?=some i
structure Wo (n:Nat) (ord:List Nat) (S:St) (W A I H ho:Nat) (ov:AV) (h:List Nat):Prop where
 obj:S.obj W=some (.row 4 [[ov,.map A,.map I,.iface 246 (.ptr H 0 0)]])
 hp:Hp S H ho h
 at':∃ ea,S.obj A=some (.map ea)∧KeysI ea∧∀i,i < n→∃ k:Nat,findV (.int .i64 (i:Int)) ea=some (some (.int .i64 (k:Int)))∧ord[k]?=some i
 in':∃ ei,S.obj I=some (.map ei)∧KeysI ei∧∀i:Nat,i < n→(findV (.int .i64 (i:Int)) ei=some none∧¬ todo ord h i) ∨ ∃ b:Bool,findV (.int .i64 (i:Int)) ei=some (some (.bool b))∧(b=true ↔ todo ord h i)
 ids:A ≠ I∧W ≠ A∧W ≠ I∧W ≠ H∧W ≠ ho∧A ≠ H∧A ≠ ho∧I ≠ H∧I ≠ ho
 lt:W < S.next∧A < S.next∧I < S.next
 orow:(ov=.nilsl∧ord=[]) ∨ ∃ q,ov=.sl 1 q 0 ord.length∧q < S.next∧S.obj q=some (.row 1 (els natc ord))∧q ≠ W∧q ≠ A∧q ≠ I∧q ≠ H∧q ≠ ho
 perm:ord.Perm (List.range n)
 nodup:h.Nodup
 hlt:∀k ∈ h,k < n
theorem work_made {S:St} {W:Nat} {a b c:AV} {t:Nat} {v:AV} {K:AV→St→Prop} (h:S.obj W=some (.row 4 [[a,b,c,.iface t v]])) (hk:K (.bool true) S):Cal P g 186 [.ptr W 0 0] S K:=by
 refine c186.in (by simp) ?_
 simp [k186,h]
 exact hk
theorem work_Len {n:Nat} {ord:List Nat} {S:St} {W A I H ho:Nat} {ov:AV} {h:List Nat} {K:AV→St→Prop} (hw:Wo n ord S W A I H ho ov h) (hk:K (.int .i64 h.length) S):Cal P g 188 [.ptr W 0 0] S K:=by
 refine c188.in (by simp) ?_
 simp [k188]
 refine work_made hw.obj ?_
 simp [hw.obj]
 refine heap_Len hw.hp ?_
 simp
 exact hk
end Go.Proofs.YtbhkamemheaajaaGreatDoor.Vm
namespace Go.Proofs.YtbhkamemheaajaaGreatDoor.Vm
open Go Go.RowKit
variable {N:Nat} {g:Glob}
theorem Wo.len {n:Nat} {ord:List Nat} {S:St} {W A I H ho:Nat} {ov:AV} {h:List Nat} (hw:Wo n ord S W A I H ho ov h):ord.length=n:=by rw [hw.perm.length_eq];simp
theorem nodup_le:∀(n:Nat) (h:List Nat),h.Nodup→(∀k ∈ h,k < n)→h.length≤n
 | 0,h,_,hl=>by
  cases h with
  | nil=>simp
  | cons a h=>exact absurd (hl a (by simp)) (by omega)
 | n + 1,h,hn,hl=>by
  by_cases hm:n ∈ h
  ·have h1:=nodup_le n (h.erase n) (hn.erase n) fun k hk=>by
    have h2:=(hn.mem_erase_iff.1 hk)
    have:=hl k h2.2
    have:=h2.1
    omega
   rw [List.length_erase_of_mem hm] at h1
   omega
  ·have h1:=nodup_le n h hn fun k hk=>by
    have:=hl k hk
    have:k ≠ n:=fun e=>hm (e ▸ hk)
    omega
   omega
theorem Wo.hl {n:Nat} {ord:List Nat} {S:St} {W A I H ho:Nat} {ov:AV} {h:List Nat} (hw:Wo n ord S W A I H ho ov h):h.length≤n:=nodup_le n h hw.nodup hw.hlt
theorem ord_inj {n:Nat} {ord:List Nat} (hp:ord.Perm (List.range n)) {k l i:Nat} (h1:ord[k]?=some i) (h2:ord[l]?=some i):k=l:=by
 have hn:ord.Nodup:=hp.nodup_iff.2 List.nodup_range
 obtain ⟨a,b⟩:=List.getElem?_eq_some_iff.1 h1
 obtain ⟨c,d⟩:=List.getElem?_eq_some_iff.1 h2
 exact (List.getElem_inj hn).1 (b.trans d.symm)
def WoF (S S':St) (I H ho:Nat):Prop:=S.next≤S'.next∧∀q,q < S.next→q ≠ I→q ≠ H→q ≠ ho→S'.obj q=S.obj q
theorem work_Put {n i:Nat} {ord:List Nat} {S:St} {W A I H ho:Nat} {ov:AV} {h:List Nat} {K:AV→St→Prop} (hw:Wo n ord S W A I H ho ov h) (hi:i < n) (hn:n≤64)
  (hk:∀S' ho' h' b,Wo n ord S' W A I H ho' ov h'→(∀j,todo ord h' j ↔ todo ord h j ∨ j=i)→WoF S S' I H ho→(ho'=ho ∨ S.next≤ho')→h'.length≤h.length + 1→K (.bool b) S'):Cal P g 124 [.ptr W 0 0,.int .i64 (i:Int)] S K:=by
 have hhl:=hw.hl
 obtain ⟨obj,hp,⟨ea,a1,a2,a3⟩,⟨ei,b1,b2,b3⟩,⟨d1,d2,d3,d4,d5,d6,d7,d8,d9⟩,⟨l1,l2,l3⟩,oo,pm,nd,hlt⟩:=id hw
 refine c124.in (by simp) ?_
 simp [k124]
 refine work_made obj ?_
 obtain ⟨r,hr⟩:=b2.find (i:Int)
 obtain ⟨k,e1,e2⟩:=a3 i hi
 obtain ⟨ei',g1,g2,g3⟩:=b2.put (i:Int) (.bool true)
 have hkn:k < n:=by
  have:=(List.getElem?_eq_some_iff.1 e2).1
  rw [hw.len] at this;exact this
 have hcase:(r=some (.bool true)∧todo ord h i) ∨ ((r=none ∨ r=some (.bool false))∧¬ todo ord h i):=by
  rcases b3 i hi with ⟨f1,f2⟩ | ⟨b,f1,f2⟩
  ·rw [hr] at f1;cases f1
   exact .inr ⟨.inl rfl,f2⟩
  ·rw [hr] at f1;cases f1
   cases b
   ·exact .inr ⟨.inr rfl,fun h'=>by cases f2.2 h'⟩
   ·exact .inl ⟨rfl,f2.1 rfl⟩
 rcases hcase with ⟨rfl,f3⟩ | ⟨hr2,f2⟩
 ·simp [obj,b1,hr]
  exact hk S ho h false hw (fun j=>⟨.inl,fun h'=>h'.elim id fun e=>e ▸ f3⟩) ⟨Nat.le_refl _,fun _ _ _ _ _=>rfl⟩ (.inl rfl) (by omega)
 ·have hk0:k ∉ h:=fun h'=>f2 ⟨k,h',e2⟩
  have hpS:Hp (S.set I (.map ei')) H ho h:=⟨by simp [Ne.symm d8,hp.box],by simp [Ne.symm d9,hp.row],hp.ne,by simpa using hp.lH,by simpa using hp.lo⟩
  rcases hr2 with rfl | rfl <;> simp [obj,b1,hr,a1,e1,g1,d3]
  all_goals
  refine heap_Push hpS (by omega) fun S' h' k1 k2 k3 k4=>?_
  simp at k1 k3 k4
  have k5:∀q,q < S.next→q ≠ I→q ≠ H→q ≠ ho→S'.obj q=S.obj q:=fun q h1 h2 h3 h4=>by
   have:=k4 q h1 h3 h4
   rwa [if_neg h2] at this
  have hmem:∀j,j ∈ h' ↔ j ∈ h ∨ j=k:=fun j=>by rw [k2.mem_iff];simp
  have htd:∀j,todo ord h' j ↔ todo ord h j ∨ j=i:=by
   intro j
   constructor
   ·rintro ⟨l,h1,h2⟩
    rcases (hmem l).1 h1 with h3 | rfl
    ·exact .inl ⟨l,h3,h2⟩
    ·rw [e2] at h2;cases h2;exact .inr rfl
   ·rintro (⟨l,h1,h2⟩ | rfl)
    ·exact ⟨l,(hmem l).2 (.inl h1),h2⟩
    ·exact ⟨k,(hmem k).2 (.inr rfl),e2⟩
  simp
  refine hk S' (S.next + 1) h' true ⟨?_,k1,⟨ea,?_,a2,a3⟩,⟨ei',?_,g2,?_⟩,⟨d1,d2,d3,d4,by omega,d6,by omega,d8,by omega⟩,⟨by omega,by omega,by omega⟩,?_,pm,?_,?_⟩ htd ⟨by omega,k5⟩ (.inr (by omega)) (by rw [k2.length_eq];simp)
  ·rw [k5 W l1 d3 d4 d5];exact obj
  ·rw [k5 A l2 d1 d6 d7];exact a1
  ·have:=k4 I l3 d8 d9
   rwa [if_pos rfl] at this
  ·intro j hj
   rw [g3]
   by_cases hji:(j:Int)=(i:Int)
   ·rw [if_pos hji]
    exact .inr ⟨true,rfl,by simp only [true_iff];exact (htd j).2 (.inr (by omega))⟩
   ·rw [if_neg hji]
    rcases b3 j hj with ⟨m1,m2⟩ | ⟨b,m1,m2⟩
    ·exact .inl ⟨m1,fun h'=>((htd j).1 h').elim m2 fun e=>hji (by omega)⟩
    ·exact .inr ⟨b,m1,m2.trans ⟨fun h'=>(htd j).2 (.inl h'),fun h'=>((htd j).1 h').elim id fun e=>absurd (by omega) hji⟩⟩
  ·rcases oo with h | ⟨q,rfl,o1,o2,o3,o4,o5,o6,o7⟩
   ·exact .inl h
   ·exact .inr ⟨q,rfl,by omega,by rw [k5 q o1 o5 o6 o7];exact o2,o3,o4,o5,o6,by omega⟩
  ·rw [k2.nodup_iff,List.nodup_append]
   exact ⟨nd,by simp,fun x hx y hy e=>by simp at hy;subst hy;subst e;exact hk0 hx⟩
  ·intro x hx
   rcases (hmem x).1 hx with h | rfl
   ·exact hlt x h
   ·exact hkn
theorem work_Take {n:Nat} {ord:List Nat} {S:St} {W A I H ho:Nat} {ov:AV} {h:List Nat} {K:AV→St→Prop} (hw:Wo n ord S W A I H ho ov h) (hn:n≤64)
  (hk0:h=[]→K (.tuple [.int .i64 0,.bool false]) S)
  (hk:∀S' h' i,Wo n ord S' W A I H ho ov h'→i < n→todo ord h i→(∀j,todo ord h' j ↔ todo ord h j∧j ≠ i)→WoF S S' I H ho→h'.length + 1=h.length→K (.tuple [.int .i64 (i:Int),.bool true]) S'):Cal P g 125 [.ptr W 0 0] S K:=by
 have hhl:=hw.hl
 obtain ⟨obj,hp,⟨ea,a1,a2,a3⟩,⟨ei,b1,b2,b3⟩,⟨d1,d2,d3,d4,d5,d6,d7,d8,d9⟩,⟨l1,l2,l3⟩,oo,pm,nd,hlt⟩:=id hw
 refine c125.in (by simp) ?_
 simp [k125]
 refine work_Len hw ?_
 by_cases hne:h=[]
 ·subst hne
  simp
  exact hk0 rfl
 ·have hlen:¬ h.length=0:=fun e=>hne (List.length_eq_zero_iff.1 e)
  simp [hne,obj]
  refine heap_Pop hp hne (by omega) fun S' h' k k1 k2 k3 k4=>?_
  have hkh:k ∈ h:=k2.mem_iff.1 (by simp)
  have hkn:=hlt k hkh
  have hol:=hw.len
  obtain ⟨i,hi⟩:∃ i,ord[k]?=some i:=⟨_,List.getElem?_eq_getElem (by omega)⟩
  have hin:i < n:=by
   have:=pm.mem_iff.1 (List.mem_of_getElem? hi)
   exact List.mem_range.1 this
  have hmem:∀j,j ∈ h ↔ j ∈ h' ∨ j=k:=fun j=>by rw [← k2.mem_iff];simp
  have hnd:(h' ++ [k]).Nodup:=k2.nodup_iff.2 nd
  rw [List.nodup_append] at hnd
  have hk':k ∉ h':=fun hx=>hnd.2.2 k hx k (by simp) rfl
  have htd:∀j,todo ord h' j ↔ todo ord h j∧j ≠ i:=by
   intro j
   constructor
   ·rintro ⟨l,h1,h2⟩
    refine ⟨⟨l,(hmem l).2 (.inl h1),h2⟩,fun e=>?_⟩
    subst e
    have:=ord_inj pm h2 hi
    exact hk' (this ▸ h1)
   ·rintro ⟨⟨l,h1,h2⟩,hji⟩
    rcases (hmem l).1 h1 with h3 | rfl
    ·exact ⟨l,h3,h2⟩
    ·rw [hi] at h2;cases h2;exact absurd rfl hji
  rcases oo with ⟨_,h⟩ | ⟨q,rfl,o1,o2,o3,o4,o5,o6,o7⟩
  ·rw [h] at hol;simp at hol;omega
  obtain ⟨ei',g1,g2,g3⟩:=b2.put (i:Int) (.bool false)
  have oW:S'.obj W=_:=(k4 W d4 d5).trans obj
  have oI:S'.obj I=_:=(k4 I d8 d9).trans b1
  have oq:S'.obj q=_:=(k4 q o6 o7).trans o2
  have hko:k < ord.length:=by omega
  simp [pk_assert,oW,ix_sl hko,oq,hi,natc,oI,g1]
  refine hk _ h' i ⟨?_,⟨by simp [Ne.symm d8,k1.box],by simp [Ne.symm d9,k1.row],k1.ne,by simpa using k1.lH,by simpa using k1.lo⟩,⟨ea,?_,a2,a3⟩,⟨ei',?_,g2,?_⟩,⟨d1,d2,d3,d4,d5,d6,d7,d8,d9⟩,⟨?_,?_,?_⟩,?_,pm,hnd.1,fun x hx=>hlt x ((hmem x).2 (.inl hx))⟩ hin ⟨k,hkh,hi⟩ htd ⟨by simp [k3],?_⟩ (by rw [← k2.length_eq];simp)
  ·simp [d3,oW]
  ·simp [d1]
   rw [k4 A d6 d7];exact a1
  ·simp
  ·intro j hj
   rw [g3]
   by_cases hji:(j:Int)=(i:Int)
   ·rw [if_pos hji]
    refine .inr ⟨false,rfl,?_⟩
    constructor
    ·intro h;cases h
    ·intro h'
     exact absurd (by omega) ((htd j).1 h').2
   ·rw [if_neg hji]
    have hji':j ≠ i:=fun e=>hji (by omega)
    rcases b3 j hj with ⟨m1,m2⟩ | ⟨b,m1,m2⟩
    ·exact .inl ⟨m1,fun h'=>m2 ((htd j).1 h').1⟩
    ·exact .inr ⟨b,m1,m2.trans ⟨fun h'=>(htd j).2 ⟨h',hji'⟩,fun h'=>((htd j).1 h').1⟩⟩
  ·simp [k3];exact l1
  ·simp [k3];exact l2
  ·simp [k3];exact l3
  ·exact .inr ⟨q,rfl,by simp [k3];exact o1,by simp [o5,oq],o3,o4,o5,o6,o7⟩
  ·intro x hx h1 h2 h3
   simp [h1]
   exact k4 x h2 h3
end Go.Proofs.YtbhkamemheaajaaGreatDoor.Vm
namespace Go.Proofs.YtbhkamemheaajaaGreatDoor.Vm
open Go Go.RowKit
variable {N:Nat} {g:Glob}
structure NwI (S:St) (l:List Int) (v w:AV) (j:Nat) (LF:AFrame) (k:Nat) (S':St):Prop where
 next:S'.next=j + 1 + 1 + 1 + 1 + 1 + 1 + 1 + 1
 up:Up S S'
 lp:S'.obj (j + 1 + 1 + 1 + 1 + 1 + 1 + 1)=some (.loop 26 #[17,18] LF (rngA Tryz.f122 0) (rngB Tryz.f122 0) .ready)
 bv:S'.obj (j + 1 + 1 + 1 + 1 + 1 + 1)=some (.row 1 [[v]])
 bx:S'.obj (j + 1 + 1 + 1 + 1 + 1)=some (.row 1 [[.ptr (j + 1 + 1 + 1 + 1) 0 0]])
 bW:S'.obj (j + 1 + 1 + 1 + 1)=some (.row 4 [[w,.map j,.map (j + 1),.iface 246 (.ptr (j + 1 + 1 + 1) 0 0)]])
 bH:S'.obj (j + 1 + 1 + 1)=some (.row 1 [[.sl 1 (j + 1 + 1) 0 0]])
 bo:S'.obj (j + 1 + 1)=some (.row 1 [])
 bI:S'.obj (j + 1)=some (.map [])
 row:(w=.nilsl∧l=[]) ∨ ∃ o,w=.sl 1 o 0 l.length∧o < j∧S'.obj o=some (.row 1 (els intc l))
 bA:∃ ea,S'.obj j=some (.map ea)∧KeysI ea∧∀(m:Nat) (x:Int),l.length - k≤m→l[m]?=some x→∃ m':Nat,findV (.int .i64 x) ea=some (some (.int .i64 (m':Int)))∧l[m']?=some x
theorem work_New {n:Nat} {ord:List Nat} {v:AV} {S:St} {K:AV→St→Prop} (hv:v=.fsl 1 (els natc ord)) (hp:ord.Perm (List.range n)) (hn:n≤64)
  (hk:∀S' W A I H ho ov,Wo n ord S' W A I H ho ov []→Up S S'→(S.next≤W∧S.next≤A∧S.next≤I∧S.next≤H∧S.next≤ho)→K (.ptr W 0 0) S'):Cal P g 122 [v] S K:=by
 have hol:ord.length=n:=by rw [hp.length_eq];simp
 obtain ⟨l,hl⟩:∃ l:List Int,l=ord.map fun k:Nat=>(k:Int):=⟨_,rfl⟩
 have hll:l.length=n:=by rw [hl];simp [hol]
 have hvl:FSl intc 1 v l:=by rw [hv,natc_eq,← hl];exact FSl.mk
 refine c122.in (by simp) ?_
 simp [k122]
 refine slices_Clone_int hvl (by omega) (Up.refl S) fun w S1 hw=>?_
 obtain ⟨w1,w2,w3⟩:=hw
 have hwo:w.one=true:=by rcases w1 with ⟨rfl,_⟩ | ⟨o,rfl,_⟩ <;> rfl
 simp [one_cells hwo,hwo]
 refine BackwardInt_fn hvl.cells ?_
 simp
 refine W.rangeC (f:=230) (captured:=[.ptr (S1.next + 1 + 1 + 1 + 1 + 1 + 1) 0 0]) (by simp) ?_
 simp
 generalize hLF:(upd (upd (upd (upd (upd (upd (upd (upd (upd (upd (upd (upd (upd (entry [v]) 2 AV.nilptr) 6 v) 7 w) 8 (AV.map S1.next)) 9 (AV.map (S1.next + 1))) 10 (AV.sl 1 (S1.next + 1 + 1) 0 0)) 11 (AV.ptr (S1.next + 1 + 1 + 1) 0 0)) 12 (AV.iface 246 (AV.ptr (S1.next + 1 + 1 + 1) 0 0))) 13 (AV.agg [w,AV.map S1.next,AV.map (S1.next + 1),AV.iface 246 (AV.ptr (S1.next + 1 + 1 + 1) 0 0)])) 14 (AV.ptr (S1.next + 1 + 1 + 1 + 1) 0 0)) 3 (AV.ptr (S1.next + 1 + 1 + 1 + 1 + 1) 0 0)) 15 v) 16 (AV.func (Fn.func 230) [] [AV.ptr (S1.next + 1 + 1 + 1 + 1 + 1 + 1) 0 0]))=LF
 have lf3:LF 3=.ptr (S1.next + 1 + 1 + 1 + 1 + 1) 0 0:=by rw [← hLF];simp
 have hw1:(w=.nilsl∧l=[]) ∨ ∃ o,w=.sl 1 o 0 l.length∧S.next≤o∧o < S1.next∧S1.obj o=some (.row 1 (els intc l)):=by
  rcases w1 with h | ⟨o,rfl,h1,h2⟩
  ·exact .inl h
  ·exact .inr ⟨o,rfl,w3 o _ rfl,h1,h2⟩
 have hup:=w2.1
 have hup2:=w2.2
 refine Backward_int hvl (by omega) (NwI S l v w S1.next LF) ?_ ?_ ?_ ?_
 ·refine ⟨by simp,⟨by simp;omega,fun q hq=>?_⟩,by simp,by simp,by simp,by simp,by simp,by simp,by simp,?_,[],by simp [show ¬ S1.next=S1.next + 1 + 1 + 1 + 1 + 1 + 1 + 1 by omega,show ¬ S1.next=S1.next + 1 + 1 + 1 + 1 + 1 + 1 by omega,show ¬ S1.next=S1.next + 1 + 1 + 1 + 1 + 1 by omega,show ¬ S1.next=S1.next + 1 + 1 + 1 + 1 by omega,show ¬ S1.next=S1.next + 1 + 1 + 1 by omega,show ¬ S1.next=S1.next + 1 + 1 by omega],fun p hp=>by simp at hp,fun m x h1 h2=>?_⟩
  ·simp [show ¬ q=S1.next + 1 + 1 + 1 + 1 + 1 + 1 + 1 by omega,show ¬ q=S1.next + 1 + 1 + 1 + 1 + 1 + 1 by omega,show ¬ q=S1.next + 1 + 1 + 1 + 1 + 1 by omega,show ¬ q=S1.next + 1 + 1 + 1 + 1 by omega,show ¬ q=S1.next + 1 + 1 + 1 by omega,show ¬ q=S1.next + 1 + 1 by omega,show ¬ q=S1.next + 1 by omega,show ¬ q=S1.next by omega]
   exact hup2 q hq
  ·rcases hw1 with h | ⟨o,rfl,h0,h1,h2⟩
   ·exact .inl h
   ·refine .inr ⟨o,rfl,h1,?_⟩
    simp [show ¬ o=S1.next + 1 + 1 + 1 + 1 + 1 + 1 + 1 by omega,show ¬ o=S1.next + 1 + 1 + 1 + 1 + 1 + 1 by omega,show ¬ o=S1.next + 1 + 1 + 1 + 1 + 1 by omega,show ¬ o=S1.next + 1 + 1 + 1 + 1 by omega,show ¬ o=S1.next + 1 + 1 + 1 by omega,show ¬ o=S1.next + 1 + 1 by omega,show ¬ o=S1.next + 1 by omega,show ¬ o=S1.next by omega]
    exact h2
  ·have:=(List.getElem?_eq_some_iff.1 h2).1
   omega
 ·intro k S' h
  exact h.bv
 ·rintro k x S' hkl hx ⟨b1,b2,b3,b4,b5,b6,b7,b8,b9,b10,ea,b11,b12,b13⟩ K' hK'
  obtain ⟨ea',g1,g2,g3⟩:=b12.put x (.int .i64 ((l.length - 1 - k:Nat):Int))
  simp
  refine Yie.in b3 (by simp) (by simp) c122A0 c122B0 ?_
  have n5:¬ S1.next + 1 + 1 + 1 + 1 + 1=S1.next + 1 + 1 + 1 + 1 + 1 + 1 + 1:=by omega
  have n4:¬ S1.next + 1 + 1 + 1 + 1=S1.next + 1 + 1 + 1 + 1 + 1 + 1 + 1:=by omega
  have n0:¬ S1.next=S1.next + 1 + 1 + 1 + 1 + 1 + 1 + 1:=by omega
  simp [k122A0,k122B0,puts,lf3,b3,b5,b6,b11,n5,n4,n0,Ne.symm n0,g1]
  refine hK' _ ⟨by simp [b1],⟨by simp;exact b2.1,fun q hq=>?_⟩,by simp,?_,?_,?_,?_,?_,?_,?_,ea',by simp [n0],g2,fun m y h1 h2=>?_⟩
  ·simp [show ¬ q=S1.next + 1 + 1 + 1 + 1 + 1 + 1 + 1 by omega,show ¬ q=S1.next by omega]
   exact b2.2 q hq
  ·simp [show ¬ S1.next + 1 + 1 + 1 + 1 + 1 + 1=S1.next by omega,b4]
  ·simp [show ¬ S1.next + 1 + 1 + 1 + 1 + 1=S1.next by omega,n5,b5]
  ·simp [show ¬ S1.next + 1 + 1 + 1 + 1=S1.next by omega,n4,b6]
  ·simp [show ¬ S1.next + 1 + 1 + 1=S1.next by omega,show ¬ S1.next + 1 + 1 + 1=S1.next + 1 + 1 + 1 + 1 + 1 + 1 + 1 by omega,b7]
  ·simp [show ¬ S1.next + 1 + 1=S1.next by omega,show ¬ S1.next + 1 + 1=S1.next + 1 + 1 + 1 + 1 + 1 + 1 + 1 by omega,b8]
  ·simp [show ¬ S1.next + 1=S1.next + 1 + 1 + 1 + 1 + 1 + 1 + 1 by omega,b9]
  ·rcases b10 with h | ⟨o,rfl,h1,h2⟩
   ·exact .inl h
   ·exact .inr ⟨o,rfl,h1,by simp [show ¬ o=S1.next by omega,show ¬ o=S1.next + 1 + 1 + 1 + 1 + 1 + 1 + 1 by omega,h2]⟩
  ·rw [g3]
   by_cases hyx:y=x
   ·rw [if_pos hyx]
    exact ⟨l.length - 1 - k,rfl,by rw [hyx];exact hx⟩
   ·rw [if_neg hyx]
    refine b13 m y ?_ h2
    by_cases hm:m=l.length - 1 - k
    ·rw [hm,hx] at h2;cases h2;exact absurd rfl hyx
    ·omega
 ·rintro S' ⟨b1,b2,b3,b4,b5,b6,b7,b8,b9,b10,ea,b11,b12,b13⟩
  refine ⟨b3,?_⟩
  simp [b5]
  have hnt:∀j,¬ todo ord [] j:=fun j ⟨k,h,_⟩=>by simp at h
  refine hk (S'.drop (S1.next + 1 + 1 + 1 + 1 + 1 + 1 + 1)) (S1.next + 1 + 1 + 1 + 1) S1.next (S1.next + 1) (S1.next + 1 + 1 + 1) (S1.next + 1 + 1) w ⟨?_,⟨?_,?_,by omega,?_,?_⟩,⟨ea,?_,b12,fun i hi=>?_⟩,⟨[],?_,fun p hp=>by simp at hp,fun i hi=>.inl ⟨rfl,hnt i⟩⟩,⟨by omega,by omega,by omega,by omega,by omega,by omega,by omega,by omega,by omega⟩,⟨?_,?_,?_⟩,?_,hp,by simp,by simp⟩ ⟨?_,fun q hq=>?_⟩ ⟨by omega,by omega,by omega,by omega,by omega⟩
  ·simp [b6]
  ·simp [b7]
  ·simp [b8,els]
  ·simp [b1]
  ·simp [b1]
  ·simp [b11];omega
  ·have hip:i ∈ ord:=hp.mem_iff.2 (List.mem_range.2 hi)
   obtain ⟨m,hm,hme⟩:=List.mem_iff_getElem.1 hip
   have hlm:l[m]?=some (i:Int):=by rw [hl,List.getElem?_map,List.getElem?_eq_getElem hm,hme];rfl
   obtain ⟨m',h1,h2⟩:=b13 m _ (by omega) hlm
   refine ⟨m',h1,?_⟩
   rw [hl,List.getElem?_map] at h2
   cases ho:ord[m']? with
   | none=>rw [ho] at h2;cases h2
   | some z =>
    rw [ho] at h2
    simp at h2
    have:z=i:=by omega
    rw [this]
  ·simp [b9]
  ·simp [b1]
  ·simp [b1];omega
  ·simp [b1]
  ·rcases b10 with ⟨h1,h2⟩ | ⟨o,rfl,h1,h2⟩
   ·left
    rw [h2] at hll
    exact ⟨h1,List.length_eq_zero_iff.1 (by rw [hol];simpa using hll.symm)⟩
   ·refine .inr ⟨o,by rw [hll,hol],by simp [b1];omega,?_,by omega,by omega,by omega,by omega,by omega⟩
    simp [show ¬ o=S1.next + 1 + 1 + 1 + 1 + 1 + 1 + 1 by omega]
    rw [h2,natc_eq,← hl]
  ·simp;exact b2.1
  ·simp [show ¬ q=S1.next + 1 + 1 + 1 + 1 + 1 + 1 + 1 by omega]
   exact b2.2 q hq
end Go.Proofs.YtbhkamemheaajaaGreatDoor.Vm
