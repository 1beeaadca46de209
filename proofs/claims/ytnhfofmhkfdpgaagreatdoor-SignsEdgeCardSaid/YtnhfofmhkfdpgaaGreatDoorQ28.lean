/- A part of the proof: Oq Or Ot Os. -/
import Derived.KernelRfl
import Derived.Test.YtnhfofmhkfdpgaaGreatDoorQ27
set_option linter.unusedVariables false
set_option linter.unusedSimpArgs false
set_option linter.constructorNameAsVariable false
namespace Go.Proofs.YtnhfofmhkfdpgaaGreatDoor.Vm
open Go Go.RowKit
set_option maxRecDepth 100000
variable {N:Nat} {g:Glob}
theorem xK5 {v:AV} {G:List (List Int)} (hv:GrV v G) (hG:G.length<=128) (hl:∀l ∈ G,l.length < 8000):RetE P g false 227 [v] (fun y=>∃ (L:List (List Int)) (r:List Int),y=.tuple [encG (cleanG L),.fsl 1 (els intc r)]/\Shrunk G.length L r):=by
 refine RetE.in (cF0 (by kernel_rfl)) (nF (by kernel_rfl)) (vO ?_)
 have hroom:G.length<=room:=by simp [room];omega
 have hCl:(cleanG G).length=G.length:=by simp [cleanG]
 have hCm:∀l ∈ cleanG G,l.length < 8000/\∀x ∈ l,0<=x/\x < G.length:=by
  intro l h
  simp only [cleanG,List.mem_map] at h
  obtain ⟨m,hm,rfl⟩:=h
  exact ⟨Nat.lt_of_le_of_lt (xAT _ _) (hl m hm),fun x hx=>(xAq.1 hx).2⟩
 have hcv:=xCo (cleanG G)
 conv=>arg 3;reduce
 simp
 refine (xNf hv hG (fun l h=>by have:=hl l h;omega)).use (n:=9) ?_ ?_ ?_ <;> simp [xAc hv.stab,solids,hv.solid]
 rintro pv Ps hPv hPs
 have e0:∀n:Nat,List.replicate n [AV.int IntKind.i64 0]=els intc (List.replicate n 0):=fun n=>xAh (e:=intc)
 simp [hv.len,hroom,hPv.len,e0]
 have hp0:=hPs.len
 refine W.whileI (fun (k:Nat) F S=>k<=Ps.length/\F 0=v/\F 4=pv/\F 5=.sl 1 0 0 G.length/\F 20=pv/\F 21=.int .i64 Ps.length/\F 22=.int .i64 k/\S.next=1/\∃ r:List Int,r.length=G.length/\S.obj 0=some (.row 1 (els intc r))/\∀x ∈ r,0<=x/\x < Ps.length) (fun k=>Ps.length - k) ?_ 0 _ _ ?_
 ·rintro k F S ⟨hk,h0,h4,h5,h20,h21,h22,hn,r,hr,hro,hrx⟩
  by_cases hlt:k < Ps.length
  ·obtain ⟨l,hx⟩:∃ l,Ps[k]?=some l:=⟨_,xgG hlt⟩
   obtain ⟨_,hlx,hll⟩:=hPs.each l (xmG hx)
   have hlf:FSl intc 1 (.fsl 1 (els intc l)) l:=FSl.mk
   have e4:=wrapS k (by omega)
   simp [h21,h22,hlt]
   simp [h20,h22,hPv.idx hx,partc]
   refine W.whileI (fun (j:Nat) F S=>j<=l.length/\F 0=v/\F 4=pv/\F 5=.sl 1 0 0 G.length/\F 6=.int .i64 k/\F 20=pv/\F 21=.int .i64 Ps.length/\F 22=.int .i64 k/\F 27=.fsl 1 (els intc l)/\F 28=.int .i64 l.length/\F 29=.int .i64 j/\S.next=1/\∃ r:List Int,r.length=G.length/\S.obj 0=some (.row 1 (els intc r))/\∀x ∈ r,0<=x/\x < Ps.length) (fun j=>l.length - j) ?_ 0 _ _ ?_
   ·rintro j F S ⟨hj,h0,h4,h5,h6,h20,h21,h22,h27,h28,h29,hn,r,hr,hro,hrx⟩
    by_cases hlj:j < l.length
    ·obtain ⟨x,hxj⟩:∃ x,l[j]?=some x:=⟨_,xgG hlj⟩
     have e5:=wrapS j (by omega)
     obtain ⟨hx0,hxn⟩:=hlx x (xmG hxj)
     obtain ⟨b,rfl⟩:∃ b:Nat,x=(b:Int):=⟨x.toNat,by omega⟩
     have hbn:b < G.length:=by omega
     obtain ⟨y,hy⟩:∃ y,r[b]?=some y:=⟨_,xgG (by omega)⟩
     simp [h28,h29,hlj]
     simp [h27,h29,hlf.idx hxj,intc,h5,h6,xAd hbn,hro,hy,h0,h4,h20,h21,h22,e5]
     refine ⟨j + 1,by omega,by omega,by omega,hn,r.set b (k:Int),by simp [hr],?_,?_⟩
     ·rw [<- xAg];rfl
     ·intro z hz
      rcases List.mem_or_eq_of_mem_set hz with h | rfl
      ·exact hrx z h
      ·omega
    ·have:j=l.length:=by omega
     subst this
     simp [h28,h29,h0,h4,h5,h20,h21,h22,e4]
     exact ⟨k + 1,by omega,by omega,by omega,hn,r,hr,hro,hrx⟩
   ·simp [h0,h4,h5,h20,h21,h22]
    exact ⟨hn,r,hr,hro,hrx⟩
  ·have hpr:Ps.length<=room:=by omega
   simp [h21,h22,hlt,h4,hPv.len,hpr,h0]
   refine (xAE hv (by omega) (fun l h=>by have:=hl l h;omega)).use (n:=9) ?_ rfl ?_ <;> simp [xAc hv.stab]
   have hR0:RowsV 2 (S.new (.row 1 (List.replicate Ps.length [.nilsl]))) 1 (List.replicate Ps.length [.nilsl]) (List.replicate Ps.length []):=by
    have:=RowsV.start (S:=S) (by simp) Ps.length
    rw [hn] at this
    exact this
   generalize cleanG G=C at *
   generalize encG C=cv at *
   simp [hcv.len,hn,hCl]
   refine W.whileI (fun (a:Nat) F S=>a<=G.length/\F 5=.sl 1 0 0 G.length/\F 10=.sl 1 1 0 Ps.length/\F 43=cv/\F 44=.int .i64 G.length/\F 45=.int .i64 a/\S.obj 0=some (.row 1 (els intc r))/\∃ es L,RowsV 2 S 1 es L/\L.length=Ps.length/\∀m ∈ L,m.length<=a * 8000) (fun a=>G.length - a) ?_ 0 _ _ ?_
   ·rintro a F S ⟨ha,h5,h10,h43,h44,h45,hro,es,L,hR,hLl,hLb⟩
    by_cases hlt:a < G.length
    ·obtain ⟨l,hx⟩:∃ l,C[a]?=some l:=⟨_,xgG (by omega)⟩
     obtain ⟨w,hw,hix⟩:=hcv.idx hx
     obtain ⟨hll,hlx⟩:=hCm l (xmG hx)
     have e4:=wrapS a (by omega)
     obtain ⟨ra,hra⟩:∃ y,r[a]?=some y:=⟨_,xgG (by omega)⟩
     obtain ⟨hra0,hran⟩:=hrx ra (xmG hra)
     obtain ⟨ka,rfl⟩:∃ b:Nat,ra=(b:Int):=⟨ra.toNat,by omega⟩
     have hka:ka < Ps.length:=by omega
     simp [h44,h45,hlt]
     simp [h43,h45,hix,hw.len]
     refine W.whileI (fun (k:Nat) F S=>k<=l.length/\F 5=.sl 1 0 0 G.length/\F 10=.sl 1 1 0 Ps.length/\F 11=.int .i64 a/\F 43=cv/\F 44=.int .i64 G.length/\F 45=.int .i64 a/\F 50=w/\F 51=.int .i64 l.length/\F 52=.int .i64 k/\S.obj 0=some (.row 1 (els intc r))/\∃ es L,RowsV 2 S 1 es L/\L.length=Ps.length/\∀m ∈ L,m.length<=a * 8000 + k) (fun k=>l.length - k) ?_ 0 _ _ ?_
     ·rintro k F S ⟨hk,h5,h10,h11,h43,h44,h45,h50,h51,h52,hro,es,L,hR,hLl,hLb⟩
      by_cases hlk:k < l.length
      ·obtain ⟨x,hxk⟩:∃ x,l[k]?=some x:=⟨_,xgG hlk⟩
       have e5:=wrapS k (by omega)
       obtain ⟨hx0,hxn⟩:=hlx x (xmG hxk)
       obtain ⟨b,rfl⟩:∃ b:Nat,x=(b:Int):=⟨x.toNat,by omega⟩
       have hbn:b < G.length:=by omega
       obtain ⟨rb,hrb⟩:∃ y,r[b]?=some y:=⟨_,xgG (by omega)⟩
       simp [h51,h52,hlk]
       simp [h50,h52,hw.idx hxk,intc]
       refine Dra.auto [] mix ?_ ?_
       ·kernel_rfl
       simp [classes,h5,h11,xAd hlt,xAd hbn,hro,hra,hrb,intc]
       by_cases heq:(ka:Int)=rb
       ·simp [heq,h5,h10,h11,h43,h44,h45,h50,h51,h52,e5]
        refine ⟨k + 1,by omega,by omega,by omega,hro,es,L,hR,hLl,fun m hm=>?_⟩
        have:=hLb m hm;omega
       ·simp [heq]
        obtain ⟨u,m,hu,hm,hu1⟩:=hR.idx (k:=ka) (by omega)
        have hmb:=hLb m (xmG hm)
        obtain ⟨S',q1,q2,q3,q4⟩:=(hR.new (.row 1 [[.int .i64 rb]])).app (a:=rb) hu hm (by simp [room];omega)
        have hob:=q3 0 (by omega)
        have hob1:=q3 1 (by omega)
        have hS1:=hR.obj
        have hn1:=hR.le
        simp [show ¬ 0=S.next by omega,hro] at hob
        simp [show ¬ 1=S.next by omega,hS1] at hob1
        have hkae:ka < es.length:=by rw [hR.len];omega
        refine Dra.autoR ⟨1,fun o=>if o=0 then S.obj 0 else none⟩ (fun q x h=>?_) [] [4] mix ?_ ?_
        ·simp only at h
         split at h
         ·rename_i e;rw [e];exact h
         ·cases h
        ·kernel_rfl
        simp [classes,h5,h10,h11,xAd hlt,xAd hbn,xAd hka,hro,hra,hrb,hS1,hu,intc,KDx]
        have hsub:∀S'':St,S''.obj 0=some (.row 1 (els intc r))->Sub ⟨1,fun o=>if o=0 then some (.row 1 (els intc r)) else none⟩ S'':=by
         intro S'' h q x hq
         simp only at hq
         split at hq
         ·rename_i e;rw [e,h];exact hq
         ·cases hq
        simp [q1,hob1,hu,h52,h43,h44,h45,h50,h51,e5]
        refine ⟨hsub _ hob,k + 1,by omega,by omega,by omega,hob,_,_,q4,by simp [hLl],fun m' hm'=>?_⟩
        rcases List.mem_or_eq_of_mem_set hm' with h | rfl
        ·have:=hLb m' h;omega
        ·simp;omega
      ·have:k=l.length:=by omega
       subst this
       simp [h51,h52,h5,h10,h43,h44,h45,e4]
       refine ⟨a + 1,by omega,by omega,by omega,hro,es,L,hR,hLl,fun m hm=>?_⟩
       have:=hLb m hm;omega
     ·simp [h5,h10,h43,h44,h45]
      exact ⟨hro,es,L,hR,hLl,hLb⟩
    ·simp [h44,h45,hlt,h10]
     have hp1:=hR.pict (m:=6)
     rw [hLl] at hp1
     have hLs:∀l ∈ L,l.length < 1048576:=fun l h=>by have:=hLb l h;omega
     refine (xAE (xIo L) (by omega) (fun l h=>by have:=hLs l h;omega)).use (n:=9) (by simp only [mapOpt,hp1]) rfl ?_
     simp [h5]
     refine ⟨_,⟨L,r,rfl,by omega,hLs,hr,fun x hx=>by have:=hrx x hx;omega⟩,3,?_⟩
     have hp2:=xBM (m:=0) hro
     rw [hr] at hp2
     have hp3:pict S [] 2 (encG (cleanG L))=some (encG (cleanG L)):=xAc rfl
     rw [xHo]
     simp only [mapOpt,hp2,hp3];rfl
   ·simp
    exact ⟨h5,by simp [hn,hro],_,List.replicate Ps.length [],hR0,by simp,fun m hm=>(List.mem_replicate.1 hm).2⟩
 ·simp
  refine ⟨_,by simp,rfl,fun x hx=>?_⟩
  have hx':=List.mem_replicate.1 hx
  rw [hx'.2]
  have:=hPs.some (by omega)
  have:=List.length_pos_iff.2 this
  omega
theorem xK6 {v:AV} {G:List (List Int)} (hv:GrV v G) (hG:G.length<=128) (hl:∀l ∈ G,l.length < 8000):RetE P g false 173 [v] (fun y=>∃ o:List Int,y=.fsl 1 (els intc o)/\o.length=G.length):=by
 refine RetE.in (cF0 (by kernel_rfl)) (nF (by kernel_rfl)) (vO ?_)
 have hroom:G.length<=room:=by simp [room];omega
 conv=>arg 3;reduce
 simp
 refine (xK5 hv hG hl).use (n:=9) (by simp [xAc hv.stab]) (by simp [solids,hv.solid]) ?_
 rintro _ ⟨L,r,rfl,hS⟩
 simp
 have hLl:(cleanG L).length=L.length:=by simp [cleanG]
 have h1:=hS.len
 refine (xOP (xCo (cleanG L)) (by omega) ?_).use (n:=9) ?_ ?_ ?_
 ·intro l h
  rw [hLl]
  simp only [cleanG,List.mem_map] at h
  obtain ⟨m,hm,rfl⟩:=h
  exact ⟨Nat.lt_of_le_of_lt (xAT _ _) (hS.short m hm),fun x hx=>(xAq.1 hx).2⟩
 ·simp [encG]
 ·simp [solids,encG]
 rintro y ⟨q,rfl,hq⟩
 have hrl:=hS.rlen
 have hrf:FSl intc 1 (.fsl 1 (els intc r)) r:=FSl.mk
 have hqf:FSl intc 1 (.fsl 1 (els intc q)) q:=FSl.mk
 have e0:∀n:Nat,List.replicate n [AV.int IntKind.i64 0]=els intc (List.replicate n 0):=fun n=>xAh (e:=intc)
 simp [hv.len,hroom,e0]
 refine W.whileI (fun (a:Nat) F S=>a<=r.length/\F 5=.fsl 1 (els intc q)/\F 6=.sl 1 0 0 G.length/\F 19=.fsl 1 (els intc r)/\F 20=.int .i64 r.length/\F 21=.int .i64 a/\∃ o:List Int,o.length=G.length/\S.obj 0=some (.row 1 (els intc o))) (fun a=>r.length - a) ?_ 0 _ _ ?_
 ·rintro a F S ⟨ha,h5,h6,h19,h20,h21,o,ho,hob⟩
  by_cases hlt:a < r.length
  ·obtain ⟨x,hx⟩:∃ x,r[a]?=some x:=⟨_,xgG hlt⟩
   obtain ⟨hx0,hxn⟩:=hS.rng x (xmG hx)
   obtain ⟨b,rfl⟩:∃ b:Nat,x=(b:Int):=⟨x.toNat,by omega⟩
   obtain ⟨y,hy⟩:∃ y,q[b]?=some y:=⟨_,xgG (by omega)⟩
   obtain ⟨u,hu⟩:∃ u,o[a]?=some u:=⟨_,xgG (by omega)⟩
   have e4:=wrapS a (by omega)
   have hag:a < G.length:=by omega
   simp [h20,h21,hlt]
   simp [h19,h21,hrf.idx hx,intc,h5,hqf.idx hy,h6,xAd hag,hob,hu,h20,e4]
   refine ⟨a + 1,by omega,by omega,by omega,o.set a y,by simp [ho],?_⟩
   rw [<- xAg];rfl
  ·simp [h20,h21,hlt,h6]
   refine ⟨_,⟨o,rfl,ho⟩,2,?_⟩
   rw [<- ho]
   exact xBM hob
 ·simp
  exact ⟨_,by simp,rfl⟩
theorem xG7 {v:AV} {G:List (List Int)} (hv:GrV v G) (hG:G.length<=128) (hl:∀l ∈ G,l.length < 8000) (hR:RetE P g false 173 [v] (fun y=>∃ o:List Int,y=.fsl 1 (els intc o)/\o.length=G.length)) (a0:Nat):RetE P g false 120 [v,.int .i64 (a0:Int)] (fun y=>∃ o:List Nat,y=.fsl 1 (els natc o)/\o.Perm (List.range G.length)):=by
 refine RetE.in (cF0 (by kernel_rfl)) (nF (by kernel_rfl)) (vO ?_)
 have hroom:G.length<=room:=by simp [room];omega
 conv=>arg 3;reduce
 simp
 refine hR.use (n:=9) (by simp [xAc hv.stab]) (by simp [solids,hv.solid]) ?_
 rintro _ ⟨rk,rfl,hrk⟩
 simp
 refine (xGs hv (by omega) (fun l h=>by have:=hl l h;omega) a0).use (n:=9) (by simp [xAc hv.stab]) (by simp [solids,hv.solid,AV.solid]) ?_
 rintro ov ⟨ol,hov,hol⟩
 simp [hv.len]
 refine (xGr hov (by omega) G.length (by omega)).use (n:=9) (by simp [xAc hov.stab]) (by simp [solids,hov.solid,AV.solid]) ?_
 rintro _ ⟨at',rfl,hat⟩
 have hrf:FSl intc 1 (.fsl 1 (els intc rk)) rk:=FSl.mk
 have haf:FSl intc 1 (.fsl 1 (els intc at')) at':=FSl.mk
 simp [hv.len,hroom]
 refine W.whileI (fun (a:Nat) F S=>a<=at'.length/\F 0=v/\F 5=.fsl 1 (els intc rk)/\F 7=.ptr 1 0 0/\F 8=.sl 1 2 0 G.length/\F 25=.fsl 1 (els intc at')/\F 26=.int .i64 at'.length/\F 27=.int .i64 a/\3<=S.next/\S.obj 1=some (.row 1 [[.sl 2 0 0 G.length]]) /\
  (∃ ks:List (Int × Int),ks.length=G.length/\S.obj 0=some (.row 2 (els keyc ks)))/\∃ o:List Nat,o.length=G.length/\o.take a=List.range a/\S.obj 2=some (.row 1 (els natc o))) (fun a=>at'.length - a) ?_ 0 _ _ ?_
 ·rintro a F S ⟨ha,h0,h5,h7,h8,h25,h26,h27,hsn,hb,⟨ks,hkl,hks⟩,o,hol,hot,hob⟩
  by_cases hlt:a < at'.length
  ·obtain ⟨x,hx⟩:∃ x,at'[a]?=some x:=⟨_,xgG hlt⟩
   have e4:=wrapS a (by omega)
   have hag:a < G.length:=by omega
   obtain ⟨rx,hrx⟩:∃ y,rk[a]?=some y:=⟨_,xgG (by omega)⟩
   obtain ⟨u,hu⟩:∃ u,o[a]?=some u:=⟨_,xgG (by omega)⟩
   obtain ⟨kx,hkx⟩:∃ u,ks[a]?=some u:=⟨_,xgG (by omega)⟩
   simp [h26,h27,hlt]
   simp [h25,h27,haf.idx hx,intc]
   have hsub0:Sub ⟨2,fun o=>if o=1 then S.obj 1 else none⟩ S:=by
    intro q x hq
    simp only at hq
    split at hq
    ·rename_i e;rw [e];exact hq
    ·cases hq
   have hsub:∀S'':St,S''.obj 1=some (.row 1 [[.sl 2 0 0 G.length]])->Sub ⟨2,fun o=>if o=1 then some (.row 1 [[.sl 2 0 0 G.length]]) else none⟩ S'':=by
    intro S'' h q x hq
    simp only at hq
    split at hq
    ·rename_i e;rw [e,h];exact hq
    ·cases hq
   have fin:∀z:Int,∃ a':Nat,at'.length - a' < at'.length - a/\a'<=at'.length/\(a:Int) + 1=(a':Int)/\(∃ ks':List (Int × Int),ks'.length=G.length/\(els keyc ks).set a [AV.int .i64 rx,.int .i64 z]=els keyc ks')/\∃ o':List Nat,o'.length=G.length/\o'.take a'=List.range a'/\(els natc o).set a [AV.int .i64 (a:Int)]=els natc o':=by
    intro z
    refine ⟨a + 1,by omega,by omega,by omega,⟨ks.set a (rx,z),by simp [hkl],by rw [<- xAg];rfl⟩,o.set a a,by simp [hol],?_,by rw [<- xAg];rfl⟩
    rw [xAo (by omega),hot,List.range_succ]
   by_cases hx1:x=-1
   ·simp [hx1,h0,hv.len]
    refine Dra.autoR ⟨2,fun o=>if o=1 then S.obj 1 else none⟩ hsub0 [] [2] mix ?_ ?_
    ·kernel_rfl
    simp [classes,h5,h7,h8,hb,hks,hob,xAd hag,hrf.idx hrx,hkx,hu,intc,natc,keyc,h0,h25,h26,h27,e4,hsn,KDx]
    exact ⟨hsub _ (by simp [hb]),fin _⟩
   ·simp [hx1]
    refine Dra.autoR ⟨2,fun o=>if o=1 then S.obj 1 else none⟩ hsub0 [] [2] mix ?_ ?_
    ·kernel_rfl
    simp [classes,h5,h7,h8,hb,hks,hob,xAd hag,hrf.idx hrx,hkx,hu,intc,natc,keyc,h0,h25,h26,h27,e4,hsn,KDx]
    exact ⟨hsub _ (by simp [hb]),fin _⟩
  ·have:a=G.length:=by omega
   subst this
   simp [h26,h27,hlt,h8,h7]
   have hoR:o=List.range G.length:=by rw [<- hot,List.take_of_length_le (by omega)]
   subst hoR
   have hC:Cmp g (fun k:Nat=>AV.int .i64 (k:Int)) 177 [AV.ptr 1 0 0] (List.range G.length) 2 S (fun a b=>cmpKey (ks.getD a (0,0)) (ks.getD b (0,0))):=by
    refine ⟨fun _=>rfl,by omega,by simp;omega,fun a ha b hb' l' S' hs=>?_⟩
    have ha:=List.mem_range.1 ha
    have hb':=List.mem_range.1 hb'
    obtain ⟨ka,hka⟩:∃ u,ks[a]?=some u:=⟨_,xgG (by omega)⟩
    obtain ⟨kb,hkb⟩:∃ u,ks[b]?=some u:=⟨_,xgG (by omega)⟩
    have o1:=hs.1.2 1 (by omega) (by omega)
    have o0:=hs.1.2 0 (by omega) (by omega)
    refine xDH (kb:=1) (ko:=0) (ks:=ks) (by rw [o1,hb,<- hkl]) (by rw [o0,hks]) hka hkb ⟨?_,rfl⟩
    simp [List.getD_eq_getElem?_getD,hka,hkb]
   have hlen:(List.range G.length).length=G.length:=by simp
   rw [<- hlen]
   refine xPa famI hC hob fun l' S' hl' hs'=>?_
   simp [h8]
   refine ⟨_,⟨l',rfl,by simpa using hl'⟩,2,?_⟩
   have hll:l'.length=G.length:=by rw [hl'.length_eq];simp
   rw [<- hll,xEQ]
   have:=xBM (m:=0) (o:=2) (l:=l'.map fun k:Nat=>(k:Int)) (S:=S') (by rw [hs'.2,<- xEQ];rfl)
   simpa using this
 ·simp
  exact ⟨⟨List.replicate G.length (0,0),by simp,by simp [els,keyc]⟩,List.replicate G.length 0,by simp,by simp [els,natc]⟩
theorem xFD {v:AV} {G:List (List Int)} (hv:GrV v G) (hG:G.length<=128) (hl:∀l ∈ G,l.length < 8000) (a0:Nat):RetE P g false 120 [v,.int .i64 (a0:Int)] (fun y=>∃ o:List Nat,y=.fsl 1 (els natc o)/\o.Perm (List.range G.length)) :=
 xG7 hv hG hl (xK6 hv hG hl) a0
end Go.Proofs.YtnhfofmhkfdpgaaGreatDoor.Vm
namespace Go.Proofs.YtnhfofmhkfdpgaaGreatDoor.Vm
set_option maxRecDepth 100000
open Go Go.RowKit
variable {N:Nat} {g:Glob}
theorem xDU:∀(l out:List Int),l.Pairwise (·<=·)->out.Pairwise (· < ·)->(∀y ∈ out,∀x ∈ l,y<=x)->(l.foldl addNew out).Pairwise (· < ·)
 | [],out,_,h,_=>h
 | x :: l,out,hl,ho,hb=>by
  rw [List.foldl_cons]
  rw [List.pairwise_cons] at hl
  by_cases he:out.getLast?=some x
  ·rw [addNew,if_pos he]
   exact xDU l out hl.2 ho fun y hy z hz=>hb y hy z (by simp [hz])
  ·rw [addNew,if_neg he]
   refine xDU l _ hl.2 ?_ fun y hy z hz=>?_
   ·rw [List.pairwise_append]
    refine ⟨ho,by simp,fun y hy z hz=>?_⟩
    rw [List.mem_singleton] at hz
    subst hz
    have h1:=hb y hy z (by simp)
    rcases Int.lt_or_eq_of_le h1 with h | h
    ·exact h
    ·subst h
     exfalso
     apply he
     obtain ⟨k,hk⟩:=List.getElem?_of_mem hy
     obtain ⟨hk1,hk2⟩:=xgS hk
     rw [List.getLast?_eq_getElem?]
     by_cases hkl:k=out.length - 1
     ·rw [<- hkl];exact hk
     ·have h3:out[out.length - 1]'(by omega) ∈ out:=List.getElem_mem _
      have h4:=hb _ h3 y (by simp)
      have h5:=List.pairwise_iff_getElem.1 ho k (out.length - 1) hk1 (by omega) (by omega)
      omega
   ·rw [List.mem_append,List.mem_singleton] at hy
    rcases hy with hy | rfl
    ·exact hb y hy z (by simp [hz])
    ·exact hl.1 z hz
theorem xPb (n:Nat) (l:List Int):(cleanL n l).Pairwise (· < ·):=by
 refine xDU _ [] ?_ List.Pairwise.nil fun y hy=>by simp at hy
 have hp:(sorted (l.filter (inGr n))).Pairwise fun x y=>decide (x<=y)=true:=List.pairwise_mergeSort (fun a b c h1 h2=>by simp at *;omega) (fun a b=>by simp;omega) _
 exact hp.imp fun h=>by simpa using h
theorem xK7 {l:List Int} (h:l.Pairwise (· < ·)) {k:Nat} {x:Int} (hx:l[k]?=some x):¬ x ∈ l.take k:=by
 intro hm
 obtain ⟨i,hi⟩:=List.getElem?_of_mem hm
 rw [List.getElem?_take] at hi
 split at hi
 ·rename_i hik
  obtain ⟨h1,h2⟩:=xgS hi
  obtain ⟨h3,h4⟩:=xgS hx
  have:=List.pairwise_iff_getElem.1 h i k h1 h3 hik
  omega
 ·cases hi
structure TurnedN (C L:List (List Int)):Prop where
 len:L.length=C.length
 sub:∀l ∈ L,∀x ∈ l,0<=x/\x < C.length
 short:∀l ∈ L,l.length<=C.length
 all:∀(a b:Nat) (l:List Int),C[a]?=some l->(b:Int) ∈ l->∃ m,L[b]?=some m/\(a:Int) ∈ m
theorem xK8 {v:AV} {G:List (List Int)} (hv:GrV v G) (hG:G.length<=128) (hl:∀l ∈ G,l.length < 2 ^ 30):RetE P g true 118 [v] (fun y=>∃ L:List (List Int),y=.fsl 1 (els (fun l=>[encF intc 1 l]) L)/\TurnedN (cleanG G) L):=by
 refine RetE.inP (cF0 (by kernel_rfl)) (nF (by kernel_rfl)) (vO ?_)
 have hroom:G.length<=room:=by simp [room];omega
 conv=>arg 3;reduce
 simp [hv.len,hroom]
 refine (xAE hv (by omega) (fun l h=>by have:=hl l h;omega)).use (n:=9) ?_ rfl ?_ <;> simp [xAc hv.stab,hv.cells]
 have hcv:=xCo (cleanG G)
 have hCl:(cleanG G).length=G.length:=by simp [cleanG]
 have hCm:∀l ∈ cleanG G,l.length < 2 ^ 30/\l.Pairwise (· < ·)/\∀x ∈ l,0<=x/\x < (cleanG G).length:=by
  intro l h
  rw [hCl]
  simp only [cleanG,List.mem_map] at h
  obtain ⟨m,hm,rfl⟩:=h
  exact ⟨Nat.lt_of_le_of_lt (xAT _ _) (hl m hm),xPb _ _,fun x hx=>(xAq.1 hx).2⟩
 generalize cleanG G=C at *
 generalize encG C=cv at *
 simp [hcv.len]
 have hC64:C.length<=128:=by omega
 rw [<- hCl]
 refine W.whileI (fun (a:Nat) F S=>a<=C.length/\F 3=.sl 1 0 0 C.length/\F 12=cv/\F 13=.int .i64 C.length/\F 14=.int .i64 a /\
  ∃ es L,RowsV 1 S 0 es L/\L.length=C.length/\(∀m ∈ L,m.length<=a)/\(∀m ∈ L,∀x ∈ m,0<=x/\x < C.length)/\∀(a' b:Nat) (l:List Int),a' < a->C[a']?=some l->(b:Int) ∈ l->∃ m,L[b]?=some m/\(a':Int) ∈ m) (fun a=>C.length - a) ?_ 0 _ _ ?_
 ·rintro a F S ⟨ha,h3,h12,h13,h14,es,L,hR,hLl,hLb,hLx,hLa⟩
  by_cases hlt:a < C.length
  ·obtain ⟨l,hx⟩:∃ l,C[a]?=some l:=⟨_,xgG hlt⟩
   obtain ⟨w,hw,hix⟩:=hcv.idx hx
   obtain ⟨hll,hup,hlx⟩:=hCm l (xmG hx)
   have e4:=wrapS a (by omega)
   simp [h13,h14,hlt]
   simp [h12,h14,hix,hw.len]
   refine W.whileI (fun (k:Nat) F S=>k<=l.length/\F 3=.sl 1 0 0 C.length/\F 4=.int .i64 a/\F 12=cv/\F 13=.int .i64 C.length/\F 14=.int .i64 a/\F 19=w/\F 20=.int .i64 l.length/\F 21=.int .i64 k /\
    ∃ es L,RowsV 1 S 0 es L/\L.length=C.length/\(∀(b:Nat) m,L[b]?=some m->m.length<=a + if (b:Int) ∈ l.take k then 1 else 0)/\(∀m ∈ L,∀x ∈ m,0<=x/\x < C.length)/\(∀(a' b:Nat) (l:List Int),a' < a->C[a']?=some l->(b:Int) ∈ l->∃ m,L[b]?=some m/\(a':Int) ∈ m) /\
     ∀b:Nat,(b:Int) ∈ l.take k->∃ m,L[b]?=some m/\(a:Int) ∈ m) (fun k=>l.length - k) ?_ 0 _ _ ?_
   ·rintro k F S ⟨hk,h3,h4,h12,h13,h14,h19,h20,h21,es,L,hR,hLl,hLb,hLx,hLa,hLk⟩
    by_cases hlk:k < l.length
    ·obtain ⟨x,hxk⟩:∃ x,l[k]?=some x:=⟨_,xgG hlk⟩
     have e5:=wrapS k (by omega)
     obtain ⟨hx0,hxn⟩:=hlx x (xmG hxk)
     obtain ⟨b,rfl⟩:∃ b:Nat,x=(b:Int):=⟨x.toNat,by omega⟩
     have hbn:b < C.length:=by omega
     obtain ⟨u,m,hu,hm,hu1⟩:=hR.idx (k:=b) (by omega)
     have hnin:¬ (b:Int) ∈ l.take k:=xK7 hup hxk
     have hmb:=hLb b m hm
     rw [if_neg hnin] at hmb
     obtain ⟨S',q1,q2,q3,q4⟩:=(hR.new (.row 1 [[.int .i64 (a:Int)]])).app (a:=(a:Int)) hu hm (by simp [room];omega)
     have hob:=q3 0 (by omega)
     have hS0:=hR.obj
     have hn1:=hR.le
     simp [show ¬ 0=S.next by omega,hS0] at hob
     simp [h20,h21,hlk]
     simp [h19,h21,hw.idx hxk,intc,h3,h4,xAd hbn,hS0,hu]
     have hbe:b < es.length:=by rw [hR.len];omega
     obtain ⟨t1,t2,t3⟩:=Turned.grow (x:=(a:Int)) (B:=a + 1) hm
     simp [q1,hob,hu,h12,h13,h14,e5]
     refine ⟨k + 1,by omega,by omega,by omega,_,_,q4,by simp [hLl],fun b' m' hm'=>?_,?_,?_,?_⟩
     ·by_cases hbb:b'=b
      ·subst hbb
       rw [List.getElem?_set_self (xgS hm).1] at hm'
       cases hm'
       rw [xAe hxk,if_pos (by simp)]
       simp;omega
      ·rw [List.getElem?_set_ne (Ne.symm hbb)] at hm'
       have h8:=hLb b' m' hm'
       have e:((b':Int) ∈ l.take (k + 1))=((b':Int) ∈ l.take k):=by
        rw [xAe hxk]
        simp
        omega
       simp only [e]
       exact h8
     ·intro m' hm' y hy
      rcases (t3 m' hm').1 y hy with rfl | ⟨l0,h0,hy0⟩
      ·omega
      ·exact hLx l0 h0 y hy0
     ·intro a' b' l' ha' hl' hb'
      obtain ⟨m1,c1,c2⟩:=hLa a' b' l' ha' hl' hb'
      obtain ⟨m2,c3,c4⟩:=t1 b' m1 c1
      exact ⟨m2,c3,c4 _ c2⟩
     ·intro b' hb'
      rw [xAe hxk,List.mem_append,List.mem_singleton] at hb'
      rcases hb' with hb' | hb'
      ·obtain ⟨m1,c1,c2⟩:=hLk b' hb'
       obtain ⟨m2,c3,c4⟩:=t1 b' m1 c1
       exact ⟨m2,c3,c4 _ c2⟩
      ·have:b'=b:=by omega
       subst this
       exact t2
    ·have:k=l.length:=by omega
     subst this
     simp [h20,h21,h3,h12,h13,h14,e4]
     refine ⟨a + 1,by omega,by omega,by omega,es,L,hR,hLl,fun m hm=>?_,hLx,?_⟩
     ·obtain ⟨b,hb⟩:=List.getElem?_of_mem hm
      have:=hLb b m hb
      split at this <;> omega
     ·intro a' b' l' ha' hl' hb'
      by_cases haa:a'=a
      ·subst haa
       rw [hx] at hl';cases hl'
       exact hLk b' (by rw [List.take_length];exact hb')
      ·exact hLa a' b' l' (by omega) hl' hb'
   ·simp [h3,h12,h13,h14]
    exact ⟨es,L,hR,hLl,fun b m hm=>hLb m (xmG hm),hLx,hLa⟩
  ·have:a=C.length:=by omega
   subst this
   simp [h13,h14,h3]
   refine ⟨rfl,_,⟨L,rfl,hLl,fun l h x hx=>hLx l h x hx,hLb,fun a b l ha hb=>hLa a b l ((xgS ha).1) ha hb⟩,3,?_⟩
   have:=hR.news.pict (m:=0)
   rw [hLl] at this
   exact this
 ·simp
  refine ⟨_,List.replicate C.length [],RowsV.start (S:=St.empty) (by simp) C.length,by simp,fun m hm=>by rw [(List.mem_replicate.1 hm).2],fun m hm x hx=>?_⟩
  rw [(List.mem_replicate.1 hm).2] at hx
  simp at hx
end Go.Proofs.YtnhfofmhkfdpgaaGreatDoor.Vm
namespace Go.Proofs.YtnhfofmhkfdpgaaGreatDoor.Vm
open Go Go.RowKit
set_option maxRecDepth 100000
variable {N:Nat} {g:Glob}
set_option maxRecDepth 100000
section
variable {α:Type} {E:El α} {Y:Sys α}
theorem xEW {o ib B:Nat} {x:List α} {ord:List Nat} {S0 S:St} {Wp A I H ho:Nat} {ov:AV} {h:List Nat} {K:AV->St->Prop} (hl:Y.n<=100) (hw:Wo Y.n ord S Wp A I H ho ov h) (hA:B<=A) (hI:B<=I) (hH:B<=H) (hh:B<=ho) (hm:Y.Mid x (fun j=>todo ord h j))
  (row:S.obj o=some (.row 2 (els E.e x))) (inn:S.obj ib=some (.row 1 (els boolc (List.replicate Y.n true)))) (lt:o < ib/\ib < B/\B<=S.next/\B<=Wp) (keep:∀q,q < ib->q ≠ o->S.obj q=S0.obj q)
  (hk:∀S' h' t (c:Int),GRun Y E o ib B x h' t S0 S' Wp->(∀i:Nat,t=some i->c=(i:Int))->h'.length + (if t.isSome then 1 else 0)<=h.length->K (.tuple [.int .i64 c,.bool t.isSome]) S'):Cal P g 122 [.ptr Wp 0 0] S K:=by
 refine xGt hw (by omega) (fun h0=>?_) fun S' h' i k1 k2 k3 k4 k5 k6=>?_
 ·subst h0
  have hnt:∀j,¬ todo ord [] j:=fun j ⟨k,h,_⟩=>by simp at h
  refine hk S [] none 0 ⟨⟨ord,A,I,H,ho,ov,hw,hA,hI,hH,hh,?_,fun _=>hnt⟩,(fun i h=>by cases h),row,inn,lt,keep⟩ (fun i h=>by cases h) (by simp)
  have e:(fun j=>todo ord [] j \/ (none:Option Nat)=some j)=fun j=>todo ord [] j:=by funext j;simp
  rw [e];exact hm
 ·have hq:∀q,q < B->S'.obj q=S.obj q:=fun q hq=>k5.2 q (by omega) (by omega) (by omega) (by omega)
  refine hk S' h' (some i) i ⟨⟨ord,A,I,H,ho,ov,k1,hA,hI,hH,hh,?_,(fun h=>by cases h)⟩,(fun j h=>by cases h;exact k2),by rw [hq o (by omega)];exact row,by rw [hq ib (by omega)];exact inn,⟨lt.1,lt.2.1,by have:=k5.1;omega,lt.2.2.2⟩,fun q h1 h2=>by rw [hq q (by omega)];exact keep q h1 h2⟩ (fun j h=>by cases h;rfl) (by simp;omega)
  have e:(fun j=>todo ord h' j \/ some i=some j)=fun j=>todo ord h j:=by
   funext j
   simp only [k4,xoI,eq_iff_iff]
   constructor
   ·rintro (h | rfl)
    ·exact h.1
    ·exact k3
   ·intro h
    by_cases hj:i=j
    ·exact .inr hj
    ·exact .inl ⟨h,fun e=>hj e.symm⟩
  rw [e];exact hm
theorem xFv {f fs:Nat} {z:AV} {evV rv gv:AV} {G:List (List Int)} {o:Nat} {S:St} {K:AV->St->Prop} (hc:Fun' P f 111 [.tmp 10] (runCode z)) (hl:Y.n<=100) (hrl:lenV rv=some Y.n) (hrp:pict S [] 9 rv=some gv) (hgr:GrV gv G) (hG:G.length=Y.n)
  (hout:∀m ∈ G,m.length < 2 ^ 30/\∀j ∈ m,0<=j/\j < Y.n) (hrd:∀(k:Nat) (m:List Int),G[k]?=some m->Y.rd k=m) (hE:GEv g Y E evV fs o S) (ho:S.obj o=some (.row 2 (els E.e (List.replicate Y.n Y.bot)))) (hos:o < S.next) {allv:AV} (hal:lenV allv=some Y.n) (hai:∀S',Up S S'->∀a:Nat,a < Y.n->∃ pt,pk (.indexAddr 1) [allv,.int .i64 (a:Int)]=some pt/\sk (.load false 1) [pt] S'=some (.int .i64 (a:Int),S'))
  (hk:∀S',S'.obj o=some (.row 2 (els E.e Y.sol))->S.next<=S'.next->(∀q,q < S.next->q ≠ o->S'.obj q=S.obj q)->K (.anyi .i64) S') :
  Cal P g f [rv,allv,.sl 2 o 0 Y.n,evV,.func (.func fs) [] []] S K:=by
 refine Cal.post ?_
 have hroom:Y.n<=room:=by simp [room];omega
 refine hc.in (by simp) ?_
 simp [runCode]
 refine (xK8 hgr (by omega) (fun m hm=>(hout m hm).1)).use (n:=9) (by simp [mapOpt,hrp]) (by simp) ?_
 rintro _ ⟨L,rfl,hT⟩
 have hLl:L.length=Y.n:=by rw [hT.len];simp [cleanG,hG]
 have hLs:∀m ∈ L,m.length<=100/\∀x ∈ m,0<=x/\x < Y.n:=by
  intro m hm
  have h1:=hT.short m hm
  have h2:=hT.sub m hm
  simp [cleanG,hG] at h1 h2
  exact ⟨by omega,h2⟩
 have hTa:∀(i k:Nat) (c:List Int),G[k]?=some c->(i:Int) ∈ c->∃ m,L[i]?=some m/\(k:Int) ∈ m:=by
  intro i k c hc hi
  have h1:=(hout c (xmG hc)).2 _ hi
  refine hT.all k i (cleanL G.length c) ?_ ?_
  ·simp [cleanG,hc]
  ·rw [xAq]
   exact ⟨hi,by omega,by omega⟩
 clear hT
 simp [hrl,hroom,hal]
 have e1:∀n:Nat,List.replicate n [AV.bool false]=els boolc (List.replicate n false):=fun n=>xAh (e:=boolc)
 refine W.whileI (fun (a:Nat) F S'=>a<=Y.n/\F 0=rv/\F 2=.sl 2 o 0 Y.n/\F 3=evV/\F 4=.func (.func fs) [] []/\F 11=.fsl 1 (els (fun m=>[encF intc 1 m]) L)/\F 12=.sl 1 S.next 0 Y.n /\
  F 29=allv/\F 30=.int .i64 Y.n/\F 31=.int .i64 a/\S'.next=S.next + 1/\Up S S'/\∃ m:List Bool,m.length=Y.n/\S'.obj S.next=some (.row 1 (els boolc m))/\m.take a=List.replicate a true) (fun a=>Y.n - a) ?_ 0 _ _ ?_
 ·rintro a F S' ⟨ha,h0,h2,h3,h4,h11,h12,h29,h30,h31,hn,hup,m,hm,hob,hmt⟩
  by_cases hlt:a < Y.n
  ·have e4:=wrapS a (by omega)
   obtain ⟨u,hu⟩:∃ u,m[a]?=some u:=⟨_,xgG (by omega)⟩
   obtain ⟨pt,hp1,hp2⟩:=hai S' hup a hlt
   simp [h30,h31,hlt]
   simp [h29,h31,hp1,hp2,h0,hrl,hlt]
   simp [h12,xAd hlt,hob,hu,boolc,h0,h2,h3,h4,h11,h29,h30,h31,e4]
   refine ⟨a + 1,by omega,by omega,by omega,hn,⟨by simpa using hup.1,fun q hq=>by simp [show ¬ q=S.next by omega];exact hup.2 q hq⟩,m.set a true,by simp [hm],by rw [<- xAg];rfl,?_⟩
   rw [xAo (by omega),hmt,List.replicate_succ']
  ·have:a=Y.n:=by omega
   subst this
   have hmR:m=List.replicate Y.n true:=by rw [<- hmt,List.take_of_length_le (by omega)]
   subst hmR
   simp [h30,h31,h11]
   refine (xFD (xIo L) (by omega) (fun m hm=>by have:=(hLs m hm).1;omega) 0).use (n:=9) (by simp) (by simp [solids,AV.solid]) ?_
   rintro _ ⟨ord,rfl,hord⟩
   rw [hLl] at hord
   simp
   refine xLV rfl hord (by omega) fun S2 Wp A I H hh ov hw hup2 hids=>?_
   have hn2:=hup2.1
   have hob2:S2.obj S.next=some (.row 1 (els boolc (List.replicate Y.n true))):=by rw [hup2.2 _ (by omega)];exact hob
   have hro2:S2.obj o=some (.row 2 (els E.e (List.replicate Y.n Y.bot))):=by rw [hup2.2 o (by omega),hup.2 o hos];exact ho
   have hke2:∀q,q < S.next->q ≠ o->S2.obj q=S.obj q:=fun q h1 _=>by rw [hup2.2 q (by omega),hup.2 q h1]
   have hBh:S.next + 1<=Wp/\S.next + 1<=A/\S.next + 1<=I/\S.next + 1<=H/\S.next + 1<=hh:=by rw [hn] at hids;exact hids
   have hntd:∀j,¬ todo ord [] j:=fun j ⟨k,h,_⟩=>by simp at h
   simp [h12]
   refine W.whileI (fun (a:Nat) F S'=>a<=Y.n/\F 2=.sl 2 o 0 Y.n/\F 3=evV/\F 4=.func (.func fs) [] []/\F 11=.fsl 1 (els (fun m=>[encF intc 1 m]) L)/\F 12=.sl 1 S.next 0 Y.n/\F 15=.ptr Wp 0 0 /\
    F 50=.sl 1 S.next 0 Y.n/\F 51=.int .i64 Y.n/\F 52=.int .i64 a/\GPut Y E o S.next (S.next + 1) (List.replicate Y.n Y.bot) ord Wp A I H ov (fun a j=>j < a) a S S') (fun a=>Y.n - a) ?_ 0 _ _ ?_
   ·rintro a F S3 ⟨ha,h2,h3,h4,h11,h12,h15,h50,h51,h52,ho3,h',hw3,hb3,ht3,hr3,hi3,hn3,hk3⟩
    by_cases hlt:a < Y.n
    ·have e4:=wrapS a (by omega)
     have hr:(List.replicate Y.n true)[a]?=some true:=by simp [hlt]
     simp [h51,h52,hlt]
     simp [h50,h52,xAd hlt,hi3,hr,boolc,h15]
     refine xFL hw3 hlt (by omega) fun S4 ho4 h4' b k1 k2 k3 k4 k5=>?_
     obtain ⟨m1,m2,m3,m4⟩:=xEo (o:=o) (ib:=S.next) (B:=S.next + 1) k3 k4 ⟨by omega,by omega,hn3⟩ hBh.2.2.1 hBh.2.2.2.1 hb3 hk3
     simp [h2,h3,h4,h11,h12,h15,h50,h51,h52,e4]
     refine ⟨a + 1,by omega,by omega,by omega,ho4,h4',k1,m3,fun j=>?_,by rw [m1];exact hr3,by rw [m2];exact hi3,by have:=k3.1;omega,m4⟩
     rw [k2,ht3];omega
    ·have:a=Y.n:=by omega
     subst this
     simp [h51,h52,hlt,h15]
     have hmid:Y.Mid (List.replicate Y.n Y.bot) (fun j=>todo ord h' j):=by
      have:=Sys.Mid.start (Y:=Y)
      have e:(fun i=>i < Y.n)=fun j=>todo ord h' j:=by funext j;exact propext (ht3 j).symm
      rwa [e] at this
     refine xEW (S0:=S) hl hw3 hBh.2.1 hBh.2.2.1 hBh.2.2.2.1 hb3 hmid hr3 hi3 ⟨hos,Nat.lt_succ_self _,hn3,hBh.1⟩ hk3 fun S4 h4' t c hR hc hlen=>?_
     simp
     refine W.whileI (fun (z:List α × List Nat × Option Nat) F S'=>F 2=.sl 2 o 0 Y.n/\F 3=evV/\F 4=.func (.func fs) [] []/\F 11=.fsl 1 (els (fun m=>[encF intc 1 m]) L)/\F 12=.sl 1 S.next 0 Y.n/\F 15=.ptr Wp 0 0 /\
      (∃ c,F 18=.int .i64 c)/\(∃ c:Int,F 19=.int .i64 c/\∀i:Nat,z.2.2=some i->c=(i:Int))/\F 20=.bool z.2.2.isSome/\GRun Y E o S.next (S.next + 1) z.1 z.2.1 z.2.2 S S' Wp) (fun z=>Y.gap z.1 * 1000 + z.2.1.length + (if z.2.2.isSome then 1 else 0)) ?_ (List.replicate Y.n Y.bot,h4',t) _ _ ?_
     ·rintro ⟨x,h,t⟩ F S4 ⟨h2,h3,h4,h11,h12,h15,⟨c,h18⟩,⟨i',h19,hti⟩,h20,hR⟩
      simp only at hti h20 hR
      obtain ⟨⟨ord,A,I,H,ho',ov,hw,hA,hI,hH,hh,hm,htn⟩,hil,row,inn,hlt,keep⟩:=hR
      cases t with
      | none =>
       simp [h20]
       have e:x=Y.sol:=(hm.done fun j hj=>by rcases hj with hj | hj;exact htn rfl j hj;cases hj).sol
       subst e
       exact .inr ⟨.anyi .i64,.inl ⟨_,_,h18,rfl⟩,S4,Wk.refl S4,hk S4 row (by omega) keep⟩
      | some i =>
       have hin:=hil i rfl
       have:=hti i rfl
       subst this
       obtain ⟨s,hs,hso⟩:=hm.fit.at hin
       have hxl:=hm.fit.len
       have hto:=hm.fit.ev hin
       simp [h20,h18,h2,h19,xAd hin,row,hs,h3,El.e,E.o1,E.o2]
       generalize hS5:(S4.new (.row 2 [[z,.nilsl]])).set S4.next (.row 2 [[E.c1 s,E.c2 s]])=S5
       have hn5:S5.next=S4.next + 1:=by rw [<- hS5];simp
       have hq5:∀p,p < S4.next->S5.obj p=S4.obj p:=fun p hp=>by rw [<- hS5];simp [show ¬ p=S4.next by omega]
       have hb5:S5.obj S4.next=some (.row 2 [[E.c1 s,E.c2 s]]):=by rw [<- hS5];simp
       clear hS5
       refine hE.ev S5 x i _ hm.fit hin (by omega) (by rw [hq5 o (by omega)];exact row) (fun q h1 h2=>by rw [hq5 q (by omega)];exact keep q h1 h2) fun S6 hup6=>?_
       have hn6:=hup6.1
       have hq6:∀p,p < S4.next->S6.obj p=S4.obj p:=fun p hp=>by rw [hup6.2 p (by omega),hq5 p hp]
       have hb6:S6.obj S4.next=some (.row 2 [[E.c1 s,E.c2 s]]):=by rw [hup6.2 _ (by omega)];exact hb5
       have hr6:S6.obj o=some (.row 2 (els E.e x)):=by rw [hq6 o (by omega)];exact row
       have hes:(els E.e x).set i [E.c1 (Y.ev x i),E.c2 (Y.ev x i)]=els E.e (x.set i (Y.ev x i)):=xAg (e:=E.e)
       simp [h2,h19,xAd hin,hr6,hs,El.e,E.o1,E.o2,hes]
       generalize hS7:S6.set o (.row 2 (els E.e (x.set i (Y.ev x i))))=S7
       have hn7:S7.next=S6.next:=by rw [<- hS7];simp
       have hr7:S7.obj o=some (.row 2 (els E.e (x.set i (Y.ev x i)))):=by rw [<- hS7];simp
       have hq7:∀p,p < S4.next->p ≠ o->S7.obj p=S4.obj p:=fun p hp hpo=>by rw [<- hS7];simp [hpo,hq6 p hp]
       have hb7:S7.obj S4.next=some (.row 2 [[E.c1 s,E.c2 s]]):=by rw [<- hS7];simp [show ¬ S4.next=o by omega,hb6]
       clear hS7
       have hw7:=hw.keep2 (S':=S7) row (by omega) fun p hp h=>hq7 p hp h
       have inn7:S7.obj S.next=some (.row 1 (els boolc (List.replicate Y.n true))):=by rw [hq7 S.next (by omega) (by omega)];exact inn
       have keep7:∀q,q < S.next->q ≠ o->S7.obj q=S.obj q:=fun q h1 h2=>by rw [hq7 q (by omega) h2];exact keep q h1 h2
       have hg7:(x.set i (Y.ev x i))[i]?=some (Y.ev x i):=List.getElem?_set_self (by omega)
       obtain ⟨tt,htt,hsame⟩:=hE.same s (Y.ev x i) hso hto
       have p1:∀n a,pict S7 [] (n + 1) (E.c1 a)=some (E.c1 a):=fun n a=>xAc (E.s1 a)
       have p2:∀n a,pict S7 [] (n + 1) (E.c2 a)=some (E.c2 a):=fun n a=>xAc (E.s2 a)
       refine Dra.auto [] mix ?_ ?_
       ·kernel_rfl
       simp [classes,h4,h2,h19,hb7,xAd hin,hr7,hg7,El.e]
       refine hsame.b (n:=9) (by simp [mapOpt,p1,p2,El.e]) rfl ?_
       simp
       have hgap:s ≠ Y.ev x i->Y.gap (x.set i (Y.ev x i)) < Y.gap x:=fun hne=>Sys.gap_set hm.fit.ok hs hto (hm.pre i s hs) hne
       cases tt with
       | true =>
        have hse:s=Y.ev x i:=htt.1 rfl
        have hm2:Y.Mid (x.set i (Y.ev x i)) (fun j=>todo ord h j):=hm.step hs (fun k hk=>by
         by_cases hki:k=i
         ·exact .inl hki
         ·exact .inr fun hh=>by rcases hh with hh | hh;exact hk hh;cases hh;exact hki rfl) (fun hne=>absurd hse hne)
        have hgs:Y.gap (x.set i (Y.ev x i))=Y.gap x:=by rw [<- hse,set_same hs]
        simp [h15]
        refine xEW (S0:=S) hl hw7 hA hI hH hh hm2 hr7 inn7 ⟨hlt.1,hlt.2.1,by omega,hlt.2.2.2⟩ keep7 fun S8 h8 t8 c8 hR8 hc8 hlen8=>?_
        simp [h2,h3,h4,h11,h12,h15]
        exact ⟨x.set i (Y.ev x i),h8,t8,by omega,hc8,rfl,hR8⟩
       | false =>
        have hse:s ≠ Y.ev x i:=fun h=>by cases htt.2 h
        have hgl:=hgap hse
        simp [h11,h19]
        obtain ⟨m,hmi⟩:∃ m,L[i]?=some m:=⟨_,xgG (by omega)⟩
        have hLm:=hLs m (xmG hmi)
        have hmf:FSl intc 1 (encF intc 1 m) m:=xAl
        have hrf:FSl (fun m=>[encF intc 1 m]) 1 (.fsl 1 (els (fun m=>[encF intc 1 m]) L)) L:=FSl.mk
        simp [hrf.idx hmi,hmf.len]
        refine W.whileI (fun (a:Nat) F S'=>a<=m.length/\F 2=.sl 2 o 0 Y.n/\F 3=evV/\F 4=.func (.func fs) [] []/\F 11=.fsl 1 (els (fun m=>[encF intc 1 m]) L)/\F 12=.sl 1 S.next 0 Y.n/\F 15=.ptr Wp 0 0 /\
         (∃ c,F 18=.int .i64 c)/\F 96=encF intc 1 m/\F 97=.int .i64 m.length/\F 98=.int .i64 a/\GPut Y E o S.next (S.next + 1) (x.set i (Y.ev x i)) ord Wp A I H ov (fun a j=>todo ord h j \/ (j:Int) ∈ m.take a) a S S') (fun a=>m.length - a) ?_ 0 _ _ ?_
        ·rintro a F S8 ⟨ha,h2,h3,h4,h11,h12,h15,⟨c,h18⟩,h96,h97,h98,ho8,h8,hw8,hb8,ht8,hr8,hi8,hn8,hk8⟩
         by_cases hlta:a < m.length
         ·have e4:=wrapS a (by omega)
          obtain ⟨r,hr⟩:∃ r,m[a]?=some r:=⟨_,xgG hlta⟩
          have hr0:=hLm.2 r (xmG hr)
          obtain ⟨r,rfl⟩:∃ k:Nat,r=(k:Int):=⟨r.toNat,by omega⟩
          have hrl:r < Y.n:=by omega
          have hrt:(List.replicate Y.n true)[r]?=some true:=by simp [hrl]
          simp [h97,h98,hlta]
          simp [h96,h98,hmf.idx hr,h12,xAd hrl,hi8,hrt,boolc,intc,h15]
          refine xFL hw8 hrl (by omega) fun S9 ho9 h9 b9 k1 k2 k3 k4 k5=>?_
          obtain ⟨m1,m2,m3,m4⟩:=xEo (o:=o) (ib:=S.next) (B:=S.next + 1) k3 k4 ⟨by omega,by omega,hn8⟩ hI hH hb8 hk8
          simp [h2,h3,h4,h11,h12,h15,h18,h96,h97,h98,e4]
          refine ⟨a + 1,by omega,by omega,by omega,ho9,h9,k1,m3,fun j=>?_,by rw [m1];exact hr8,by rw [m2];exact hi8,by have:=k3.1;omega,m4⟩
          show todo ord h9 j ↔ (todo ord h j \/ (j:Int) ∈ m.take (a + 1))
          rw [k2,ht8]
          show (todo ord h j \/ (j:Int) ∈ m.take a) \/ j=r ↔ _
          rw [List.take_add_one,hr]
          have e:((j:Int)=(r:Int)) ↔ j=r:=by omega
          simp [or_assoc,e]
         ·have:a=m.length:=by omega
          subst this
          simp [h97,h98,hlta,h15]
          have hm2:Y.Mid (x.set i (Y.ev x i)) (fun j=>todo ord h8 j):=hm.step hs (fun k hk=>by
           by_cases hki:k=i
           ·exact .inl hki
           ·refine .inr fun hh=>?_
            rcases hh with hh | hh
            ·exact hk ((ht8 k).2 (.inl hh))
            ·cases hh;exact hki rfl) (fun hne k hkn hi=>by
             obtain ⟨c,hc⟩:∃ c,G[k]?=some c:=⟨_,xgG (by omega)⟩
             rw [hrd k c hc] at hi
             obtain ⟨m',q1,q2⟩:=hTa i k c hc hi
             rw [hmi] at q1;cases q1
             exact (ht8 k).2 (.inr (by simpa using q2)))
          have hl8:=hw8.hl
          refine xEW (S0:=S) hl hw8 hA hI hH hb8 hm2 hr8 hi8 ⟨hlt.1,hlt.2.1,hn8,hlt.2.2.2⟩ hk8 fun S9 h9 t9 c9 hR9 hc9 hlen9=>?_
          simp [h2,h3,h4,h11,h12,h15,h18]
          refine ⟨x.set i (Y.ev x i),h9,t9,?_,hc9,rfl,hR9⟩
          omega
        ·simp [h2,h3,h4,h11,h12,h15]
         exact ⟨ho',h,hw7,hh,fun j=>by simp,hr7,inn7,by omega,keep7⟩
     ·simp [h2,h3,h4,h11,h12,h15]
      exact ⟨hc,hR⟩
   ·simp [h2,h3,h4,h11,h12]
    exact ⟨hh,[],hw,hBh.2.2.2.2,fun j=>⟨fun h=>absurd h (hntd j),fun h=>absurd h (by omega)⟩,hro2,hob2,by omega,hke2⟩
 ·simp [e1]
  exact ⟨Up.new _ _,List.replicate Y.n false,by simp,rfl⟩
end
end Go.Proofs.YtnhfofmhkfdpgaaGreatDoor.Vm
