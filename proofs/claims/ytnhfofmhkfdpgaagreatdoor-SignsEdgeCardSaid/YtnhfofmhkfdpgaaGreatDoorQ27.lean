/- A part of the proof: Od Oe Of Og Ow Oh Op. -/
import Derived.KernelRfl
import Derived.Test.YtnhfofmhkfdpgaaGreatDoorQ26
set_option linter.unusedVariables false
set_option linter.unusedSimpArgs false
set_option linter.constructorNameAsVariable false
namespace Go.Proofs.YtnhfofmhkfdpgaaGreatDoor.Vm
open Go Go.RowKit
set_option maxRecDepth 100000
set_option maxHeartbeats 4000000
variable {N:Nat} {g:Glob}
section
variable {α:Type} {c:α->AV} {f:Nat} {cap:List AV} {L:List α} {o:Nat} {S:St} {cm:α->α->Int}
theorem xR4 {nf:Nat->Nat} (H:SFam nf) (hC:Cmp g c f cap L o S cm) {lo hi first:Nat} (hb:first + hi<=L.length) (hlo:lo < 2 ^ 41) {l:List α} {S1:St} {K:AV->St->Prop} (hl:l.Perm L) (hS:Srt c S o l S1)
  (hk:∀l' S',l'.Perm L->Srt c S o l' S'->K (.tuple []) S'):Cal P g (nf 6) [.sl 1 o 0 L.length,.int .i64 (lo:Int),.int .i64 (hi:Int),.int .i64 (first:Int),.func (.func f) [] cap] S1 K:=by
 refine H.c6.in (by simp) ?_
 have hc1:=hC.one
 have hcc:=hC.cells
 have hlen:=hC.len
 simp [sk6]
 refine W.whileI (fun (r:Nat) F S'=>r < 2 ^ 41/\F 0=.sl 1 o 0 L.length/\F 2=.int .i64 hi/\F 3=.int .i64 first/\F 4=.func (.func f) [] cap/\F 10=.int .i64 r/\∃ l':List α,l'.Perm L/\Srt c S o l' S') (fun r=>hi - r) ?_ lo _ _ ?_
 ·rintro r F S' ⟨hr,h0,h2,h3,h4,h10,l',hp,hs⟩
  have hpl:=hp.length_eq
  have ho:=hs.2
  obtain ⟨ch,hch⟩:∃ ch:Nat,ch=2 * r + 1:=⟨_,rfl⟩
  have e1:IntKind.i64.wrap (IntKind.i64.wrap (2 * (r:Int)) + 1)=(ch:Int):=by
   have e0:IntKind.i64.wrap (2 * (r:Int))=2 * (r:Int):=xAa (by omega)
   rw [e0,xAa (by omega)];omega
  simp [h10,h2,e1]
  by_cases hge:hi<=ch
  ·simp [hge]
   exact hk l' S' hp hs
  ·have e3:=wrapS ch (by omega)
   obtain ⟨u,hu⟩:∃ u:Nat,u=first + ch:=⟨_,rfl⟩
   obtain ⟨w,hw⟩:∃ w:Nat,w=u + 1:=⟨_,rfl⟩
   obtain ⟨z,hz⟩:∃ z:Nat,z=first + r:=⟨_,rfl⟩
   have e4:IntKind.i64.wrap ((first:Int) + (ch:Int))=(u:Int):=by rw [xAa (by omega)];omega
   have e5:IntKind.i64.wrap ((u:Int) + 1)=(w:Int):=by rw [xAa (by omega)];omega
   have e6:IntKind.i64.wrap ((first:Int) + (r:Int))=(z:Int):=by rw [xAa (by omega)];omega
   have e7:IntKind.i64.wrap ((first:Int) + ((ch:Int) + 1))=(w:Int):=by rw [xAa (by omega)];omega
   have hul:u < L.length:=by omega
   have hzl:z < L.length:=by omega
   obtain ⟨xu,hxu⟩:∃ x,l'[u]?=some x:=⟨_,xgG (by omega)⟩
   obtain ⟨xz,hxz⟩:∃ x,l'[z]?=some x:=⟨_,xgG (by omega)⟩
   have hum:xu ∈ L:=hp.mem_iff.1 (xmG hxu)
   have hzm:xz ∈ L:=hp.mem_iff.1 (xmG hxz)
   simp [hge]
   refine Dra.auto [19] mix ?_ ?_
   ·kernel_rfl
   by_cases h1:ch + 1 < hi
   ·have hwl:w < L.length:=by omega
    have h1':(ch:Int) + 1 < (hi:Int):=by omega
    obtain ⟨xw,hxw⟩:∃ x,l'[w]?=some x:=⟨_,xgG (by omega)⟩
    have hwm:xw ∈ L:=hp.mem_iff.1 (xmG hxw)
    simp (config:={ maxSteps:=2000000 }) [classes,h0,h2,h3,h4,e3,h1',e4,e5,xAd hul,xAd hwl,hxu,hxw,cel,ho]
    refine ⟨_,_,hC.cal xu hum xw hwm l' S' hs,?_⟩
    simp
    by_cases hc:cm xu xw < 0
    ·simp [hc,e3]
     refine Dra.auto [13] mix ?_ ?_
     ·kernel_rfl
     simp [classes,h0,h3,h4,h10,e4,e6,e7,xAd hzl,xAd hwl,hxz,hxw,cel,ho]
     refine ⟨_,_,hC.cal xz hzm xw hwm l' S' hs,?_⟩
     simp
     by_cases hd:cm xz xw < 0
     ·have hne:¬ z=w:=by omega
      have hg1:=xAV (c:=c) (l:=l') (a:=z) (by omega) hxw
      simp [hd]
      refine Dra.auto [] mix ?_ ?_
      ·kernel_rfl
      simp [classes,h0,h3,h4,h10,e4,e6,e7,xAd hzl,xAd hwl,hxz,hxw,cel,ho,hc1,hcc,hg1,xAk,h2]
      exact ⟨ch + 1,by omega,by omega,by first | omega | rfl,_,(xAn hxz hxw).trans hp,hs.swp⟩
     ·simp [hd]
      exact hk l' S' hp hs
    ·simp [hc]
     refine Dra.auto [13] mix ?_ ?_
     ·kernel_rfl
     simp [classes,h0,h3,h4,h10,e4,e6,e7,xAd hzl,xAd hul,hxz,hxu,cel,ho]
     refine ⟨_,_,hC.cal xz hzm xu hum l' S' hs,?_⟩
     simp
     by_cases hd:cm xz xu < 0
     ·have hne:¬ z=u:=by omega
      have hg1:=xAV (c:=c) (l:=l') (a:=z) (by omega) hxu
      simp [hd]
      refine Dra.auto [] mix ?_ ?_
      ·kernel_rfl
      simp [classes,h0,h3,h4,h10,e4,e6,e7,xAd hzl,xAd hul,hxz,hxu,cel,ho,hc1,hcc,hg1,xAk,h2]
      exact ⟨ch,by omega,by omega,by first | omega | rfl,_,(xAn hxz hxu).trans hp,hs.swp⟩
     ·simp [hd]
      exact hk l' S' hp hs
   ·have h1':¬ (ch:Int) + 1 < (hi:Int):=by omega
    simp [classes,h0,h2,h3,h4,e3,h1',e4,e5]
    refine Dra.auto [13] mix ?_ ?_
    ·kernel_rfl
    simp [classes,h0,h3,h4,h10,e4,e6,e7,xAd hzl,xAd hul,hxz,hxu,cel,ho]
    refine ⟨_,_,hC.cal xz hzm xu hum l' S' hs,?_⟩
    simp
    by_cases hd:cm xz xu < 0
    ·have hne:¬ z=u:=by omega
     have hg1:=xAV (c:=c) (l:=l') (a:=z) (by omega) hxu
     simp [hd]
     refine Dra.auto [] mix ?_ ?_
     ·kernel_rfl
     simp [classes,h0,h3,h4,h10,e4,e6,e7,xAd hzl,xAd hul,hxz,hxu,cel,ho,hc1,hcc,hg1,xAk,h2]
     exact ⟨ch,by omega,by omega,by first | omega | rfl,_,(xAn hxz hxu).trans hp,hs.swp⟩
    ·simp [hd]
     exact hk l' S' hp hs
 ·simp
  exact ⟨hlo,l,hl,hS⟩
end
end Go.Proofs.YtnhfofmhkfdpgaaGreatDoor.Vm
namespace Go.Proofs.YtnhfofmhkfdpgaaGreatDoor.Vm
open Go Go.RowKit
set_option maxRecDepth 100000
variable {N:Nat} {g:Glob}
section
variable {α:Type} {c:α->AV} {f:Nat} {cap:List AV} {L:List α} {o:Nat} {S:St} {cm:α->α->Int}
theorem xVK {nf:Nat->Nat} (H:SFam nf) (hC:Cmp g c f cap L o S cm) {a b:Nat} (hab:a < b) (hb:b<=L.length) {l:List α} {S1:St} {K:AV->St->Prop} (hl:l.Perm L) (hS:Srt c S o l S1)
  (hk:∀l' S',l'.Perm L->Srt c S o l' S'->K (.tuple []) S'):Cal P g (nf 7) [.sl 1 o 0 L.length,.int .i64 (a:Int),.int .i64 (b:Int),.func (.func f) [] cap] S1 K:=by
 refine H.c7.in (by simp) ?_
 have hc1:=hC.one
 have hcc:=hC.cells
 have hlen:=hC.len
 obtain ⟨hi,hhi⟩:∃ hi:Nat,hi=b - a:=⟨_,rfl⟩
 have e1:IntKind.i64.wrap ((b:Int) - (a:Int))=(hi:Int):=by rw [xAa (by omega)];omega
 have e2:IntKind.i64.wrap ((hi:Int) - 1)=((hi - 1:Nat):Int):=by rw [xAa (by omega)];omega
 obtain ⟨m,hm⟩:∃ m:Nat,m=(hi - 1) / 2:=⟨_,rfl⟩
 have e3:IntKind.i64.wrap (((hi - 1:Nat):Int).tdiv 2)=(m:Int):=by
  have:((hi - 1:Nat):Int).tdiv 2=(m:Int):=by rw [hm];rfl
  rw [this,xAa (by omega)]
 have e3':IntKind.i64.wrap (((hi - 1:Nat):Int) / 2)=(m:Int):=by
  have:((hi - 1:Nat):Int) / 2=(m:Int):=by rw [hm];rfl
  rw [this,xAa (by omega)]
 simp [sk7,e1,e2,e3,e3']
 refine W.whileI (fun (i:Int) F S'=>-1<=i/\i < hi/\F 0=.sl 1 o 0 L.length/\F 3=.func (.func f) [] cap/\F 8=.int .i64 a/\F 9=.int .i64 0/\F 10=.int .i64 hi/\F 11=.int .i64 i/\∃ l':List α,l'.Perm L/\Srt c S o l' S') (fun i=>(i + 1).toNat) ?_ (m:Int) _ _ ?_
 ·rintro i F S' ⟨hi1,hi2,h0,h3,h8,h9,h10,h11,l',hp,hs⟩
  simp [h11]
  by_cases hge:0<=i
  ·obtain ⟨n,rfl⟩:∃ n:Nat,i=(n:Int):=⟨i.toNat,by omega⟩
   have e4:IntKind.i64.wrap ((n:Int) - 1)=(n:Int) - 1:=xAa (by omega)
   simp [h0,h3,h8,h10,h11]
   refine xR4 H hC (lo:=n) (hi:=hi) (first:=a) (by omega) (by omega) hp hs fun l2 S2 hp2 hs2=>?_
   simp [h0,h3,h8,h9,h10,h11,e4]
   exact ⟨(n:Int) - 1,by omega,by omega,by omega,rfl,l2,hp2,hs2⟩
  ·simp [hge,h10,e2]
   refine W.whileI (fun (i:Int) F S'=>-1<=i/\i < hi/\F 0=.sl 1 o 0 L.length/\F 3=.func (.func f) [] cap/\F 8=.int .i64 a/\F 9=.int .i64 0/\F 12=.int .i64 i/\∃ l':List α,l'.Perm L/\Srt c S o l' S') (fun i=>(i + 1).toNat) ?_ ((hi - 1:Nat):Int) _ _ ?_
   ·clear h0 h3 h8 h9 h10 h11 hp hs l' hge hi1 hi2
    rintro i F S' ⟨hi1,hi2,h0,h3,h8,h9,h12,l',hp,hs⟩
    have hpl:=hp.length_eq
    have ho:=hs.2
    simp [h12]
    by_cases hge:0<=i
    ·obtain ⟨n,rfl⟩:∃ n:Nat,i=(n:Int):=⟨i.toNat,by omega⟩
     have e4:IntKind.i64.wrap ((n:Int) - 1)=(n:Int) - 1:=xAa (by omega)
     obtain ⟨u,hu⟩:∃ u:Nat,u=a + n:=⟨_,rfl⟩
     have e5:IntKind.i64.wrap ((a:Int) + (n:Int))=(u:Int):=by rw [xAa (by omega)];omega
     have hul:u < L.length:=by omega
     have hal:a < L.length:=by omega
     obtain ⟨xu,hxu⟩:∃ x,l'[u]?=some x:=⟨_,xgG (by omega)⟩
     obtain ⟨xa,hxa⟩:∃ x,l'[a]?=some x:=⟨_,xgG (by omega)⟩
     have hg1:=xAV (c:=c) (l:=l') (a:=a) (by omega) hxu
     simp
     refine Dra.auto [] mix ?_ ?_
     ·kernel_rfl
     simp [classes,h0,h8,h12,e5,xAd hul,xAd hal,hxu,hxa,cel,ho,hc1,hcc,hg1,xAk,h9,h3]
     refine xR4 H hC (lo:=0) (hi:=n) (first:=a) (by omega) (by omega) ((xAn hxa hxu).trans hp) hs.swp fun l2 S2 hp2 hs2=>?_
     simp [h0,h3,h8,h9,h12,e4]
     exact ⟨(n:Int) - 1,by omega,by omega,by omega,rfl,l2,hp2,hs2⟩
    ·simp [hge]
     exact hk l' S' hp hs
   ·simp [h0,h3,h8,h9]
    exact ⟨by omega,l',hp,hs⟩
 ·simp
  exact ⟨by omega,l,hl,hS⟩
end
theorem xO7 (a b:Int) (h:0<=b):∃ z:Int,ishift .shl .u64 a b=some (.int .u64 z):=⟨_,by unfold ishift;rw [if_neg (by omega)]⟩
theorem xS6 (a b:Int) (h:0<=b):∃ z:Int,ishift .shr .u64 a b=some (.int .u64 z):=⟨_,by unfold ishift;rw [if_neg (by omega)]⟩
theorem xK4 (a b:Int):∃ m:Nat,m < 2 ^ 64/\ixor .u64 a b=(m:Int):=by
 have h:=(BitVec.ofInt 64 a ^^^ BitVec.ofInt 64 b).isLt
 refine ⟨(BitVec.ofInt 64 a ^^^ BitVec.ofInt 64 b).toNat,h,?_⟩
 show IntKind.u64.wrap ((BitVec.ofInt 64 a ^^^ BitVec.ofInt 64 b).toNat:Int)=_
 exact xB6 ⟨by omega,by omega⟩
theorem xQ6 {q n:Nat} {S:St} {K:AV->St->Prop} (hq:S.obj q=some (.row 1 [[.int .u64 (n:Int)]])) (hk:∀m:Nat,m < 2 ^ 64->K (.int .u64 (m:Int)) (S.set q (.row 1 [[.int .u64 (m:Int)]]))):Cal P g 239 [.ptr q 0 0] S K:=by
 refine Cal.inF (by kernel_rfl) ?_
 obtain ⟨z1,hz1⟩:=xO7 n 13 (by omega)
 obtain ⟨m1,hm1,hx1⟩:=xK4 n z1
 obtain ⟨z2,hz2⟩:=xS6 m1 7 (by omega)
 obtain ⟨m2,hm2,hx2⟩:=xK4 m1 z2
 obtain ⟨z3,hz3⟩:=xO7 m2 17 (by omega)
 obtain ⟨m3,hm3,hx3⟩:=xK4 m2 z3
 conv=>arg 3;reduce
 simp
 refine Dra.auto [] mix ?_ ?_
 ·kernel_rfl
 simp [classes,hq,hz1,hx1]
 refine Dra.auto [] mix ?_ ?_
 ·kernel_rfl
 simp [classes,hq,hz2,hx2]
 refine Dra.auto [] mix ?_ ?_
 ·kernel_rfl
 simp [classes,hq,hz3,hx3,xAk]
 exact hk m3 hm3
theorem xEV:∀n:Nat,n ≠ 0->n < 2 ^ 64->2 ^ Lib.bitLen n<=2 * n
 | 0,h,_=>absurd rfl h
 | n + 1,_,hn=>by
  rw [Lib.bitLen_half (n + 1) (by omega) hn]
  by_cases h1:(n + 1) / 2=0
  ·rw [h1]
   have:Lib.bitLen 0=0:=rfl
   rw [this]
   omega
  ·have:=xEV ((n + 1) / 2) h1 (by omega)
   rw [Nat.pow_add]
   omega
theorem xO8 {n:Nat} (h0:n ≠ 0) (h:n < 2 ^ 40):Lib.bitLen n < 42:=by
 have h1:=xEV n h0 (by omega)
 apply Classical.byContradiction
 intro hno
 have:2 ^ 42<=2 ^ Lib.bitLen n:=Nat.pow_le_pow_right (by omega) (by omega)
 omega
theorem xS7 {k:Nat} (h:k < 64):ishift .shl .u64 1 (k:Int)=some (.int .u64 ((2 ^ k:Nat):Int)):=by
 unfold ishift
 rw [if_neg (by omega)]
 have e:min ((k:Int).toNat) IntKind.u64.bits=k:=by
  have:IntKind.u64.bits=64:=rfl
  rw [this];omega
 simp only [e]
 have h2:2 ^ k < 2 ^ 64:=Nat.pow_lt_pow_right (by omega) h
 have e2:(1:Int) * 2 ^ k=((2 ^ k:Nat):Int):=by simp
 rw [e2]
 generalize 2 ^ k=w at h2 ⊢
 rw [xB6 ⟨by omega,by omega⟩]
theorem xQ7 {n w:Nat} (h0:n ≠ 0) (h:n < 2 ^ 40) (hw:2 ^ Lib.bitLen n=w):Ret P g false 238 [.int .i64 (n:Int)] (.int .u64 (w:Int)):=by
 refine Ret.inF (by kernel_rfl) ?_
 conv=>arg 3;reduce
 simp
 have ew:IntKind.u64.wrap (n:Int)=n:=xB6 (by omega)
 have hb:=xO8 h0 h
 have hs:=xS7 (k:=Lib.bitLen n) (by omega)
 rw [hw] at hs
 rw [ew]
 refine (bits_Len n (by omega)).use (n:=9) (by simp [mapOpt]) rfl ?_
 simp [hs]
 exact RK.eq rfl rfl
section
variable {α:Type} {c:α->AV} {f:Nat} {cap:List AV} {L:List α} {o:Nat} {S:St} {cm:α->α->Int}
theorem xS8 {nf:Nat->Nat} (H:SFam nf) (hC:Cmp g c f cap L o S cm) {a b:Nat} (hab:a + 8<=b) (hb:b<=L.length) {l:List α} {S1:St} {K:AV->St->Prop} (hl:l.Perm L) (hS:Srt c S o l S1)
  (hk:∀l' S',l'.Perm L->Srt c S o l' S'->K (.tuple []) S'):Cal P g (nf 8) [.sl 1 o 0 L.length,.int .i64 (a:Int),.int .i64 (b:Int),.func (.func f) [] cap] S1 K:=by
 refine H.c8.in (by simp) ?_
 have hc1:=hC.one
 have hcc:=hC.cells
 have hlen:=hC.len
 obtain ⟨n,hn⟩:∃ n:Nat,n=b - a:=⟨_,rfl⟩
 obtain ⟨w,hw⟩:∃ w:Nat,2 ^ Lib.bitLen n=w:=⟨_,rfl⟩
 have hw2:w<=2 * n:=by rw [<- hw];exact xEV n (by omega) (by omega)
 have hw0:0 < w:=by rw [<- hw];exact Nat.pow_pos (by omega)
 have e1:IntKind.i64.wrap ((b:Int) - (a:Int))=(n:Int):=by rw [xAa (by omega)];omega
 have e2:IntKind.u64.wrap (n:Int)=n:=xB6 (by omega)
 obtain ⟨d,hd⟩:∃ d:Nat,d=n / 4:=⟨_,rfl⟩
 have e3:IntKind.i64.wrap ((n:Int).tdiv 4)=(d:Int):=by
  have:(n:Int).tdiv 4=(d:Int):=by rw [hd];rfl
  rw [this,xAa (by omega)]
 have e3':IntKind.i64.wrap ((n:Int) / 4)=(d:Int):=by
  have:(n:Int) / 4=(d:Int):=by rw [hd];rfl
  rw [this,xAa (by omega)]
 obtain ⟨d2,hd2⟩:∃ d2:Nat,d2=d * 2:=⟨_,rfl⟩
 have e4:IntKind.i64.wrap ((d:Int) * 2)=(d2:Int):=by rw [xAa (by omega)];omega
 obtain ⟨u,hu⟩:∃ u:Nat,u=a + d2:=⟨_,rfl⟩
 have e5:IntKind.i64.wrap ((a:Int) + (d2:Int))=(u:Int):=by rw [xAa (by omega)];omega
 have e6:IntKind.i64.wrap ((u:Int) - 1)=((u - 1:Nat):Int):=by rw [xAa (by omega)];omega
 have e7:=wrapS u (by omega)
 simp [sk8,e1,show (8:Int)<=(n:Int) by omega,e2]
 refine (xQ7 (n:=n) (by omega) (by omega) hw).use (n:=9) (by simp [mapOpt]) rfl ?_
 simp [e3,e3',e4,e5,e6]
 have hn1:=hS.1.1
 have hq:=hS.new hC (.row 1 [[.int .u64 0]])
 have hq2:=hq.set (q:=S1.next) hn1 hC (.row 1 [[.int .u64 (n:Int)]])
 refine W.whileI (fun (i:Nat) F S'=>u - 1<=i/\i<=u + 2/\F 0=.sl 1 o 0 L.length/\F 1=.int .i64 a/\F 8=.int .i64 n/\F 9=.ptr S1.next 0 0/\F 10=.int .u64 w/\F 11=.int .i64 i/\(∃ m:Nat,S'.obj S1.next=some (.row 1 [[.int .u64 (m:Int)]]))/\∃ l':List α,l'.Perm L/\Srt c S o l' S') (fun i=>u + 2 - i) ?_ (u - 1) _ _ ?_
 ·rintro i F S' ⟨hi1,hi2,h0,h1,h8,h9,h10,h11,⟨m,hm⟩,l',hp,hs⟩
  have hpl:=hp.length_eq
  simp [h1,h8,h11,e3,e3',e4,e5,e7]
  by_cases hle:i<=u + 1
  ·have e8:=wrapS i (by omega)
   have e9:IntKind.u64.wrap ((w:Int) - 1)=((w - 1:Nat):Int):=by rw [xB6 (by omega)];omega
   simp [hle,show (i:Int)<=(u:Int) + 1 by omega,h9]
   refine xQ6 hm fun m' hm'=>?_
   have hs2:=hs.set (q:=S1.next) hn1 hC (.row 1 [[.int .u64 (m':Int)]])
   obtain ⟨v,hv⟩:∃ v:Nat,v=m' &&& (w - 1):=⟨_,rfl⟩
   have hvw:v<=w - 1:=by rw [hv];exact Nat.and_le_right
   have e10:iand .u64 (m':Int) ((w - 1:Nat):Int)=(v:Int):=by rw [u64and m' (w - 1) hm' (by omega),hv]
   have e11:IntKind.i64.wrap (v:Int)=(v:Int):=xAa (by omega)
   simp [h8,h10,e9,e10,e11]
   have hno:¬ S1.next=o:=by have:=hC.lt;omega
   have hon:¬ o=S1.next:=by have:=hC.lt;omega
   have ho:=hs.2
   have hil:i < L.length:=by omega
   obtain ⟨xi,hxi⟩:∃ x,l'[i]?=some x:=⟨_,xgG (by omega)⟩
   by_cases hge:n<=v
   ·have e12:IntKind.i64.wrap ((v:Int) - (n:Int))=((v - n:Nat):Int):=by rw [xAa (by omega)];omega
    obtain ⟨z,hz⟩:∃ z:Nat,z=a + (v - n):=⟨_,rfl⟩
    have e13:IntKind.i64.wrap ((a:Int) + ((v - n:Nat):Int))=(z:Int):=by rw [xAa (by omega)];omega
    have hzl:z < L.length:=by omega
    obtain ⟨xz,hxz⟩:∃ x,l'[z]?=some x:=⟨_,xgG (by omega)⟩
    have hg1:=xAV (c:=c) (l:=l') (a:=i) (by omega) hxz
    simp [hge,e12,h8]
    refine Dra.auto [] mix ?_ ?_
    ·kernel_rfl
    simp [classes,h0,h1,h11,e13,xAd hil,xAd hzl,hxi,hxz,cel,ho,hon,hc1,hcc,hg1,xAk,h8,h9,h10,e8,hno]
    exact ⟨i + 1,by omega,by omega,by omega,by omega,⟨m',rfl⟩,_,(xAn hxi hxz).trans hp,hs2.swp⟩
   ·obtain ⟨z,hz⟩:∃ z:Nat,z=a + v:=⟨_,rfl⟩
    have e13:IntKind.i64.wrap ((a:Int) + (v:Int))=(z:Int):=by rw [xAa (by omega)];omega
    have hzl:z < L.length:=by omega
    obtain ⟨xz,hxz⟩:∃ x,l'[z]?=some x:=⟨_,xgG (by omega)⟩
    have hg1:=xAV (c:=c) (l:=l') (a:=i) (by omega) hxz
    simp [hge]
    refine Dra.auto [] mix ?_ ?_
    ·kernel_rfl
    simp [classes,h0,h1,h11,e13,xAd hil,xAd hzl,hxi,hxz,cel,ho,hon,hc1,hcc,hg1,xAk,h8,h9,h10,e8,hno]
    exact ⟨i + 1,by omega,by omega,by omega,by omega,⟨m',rfl⟩,_,(xAn hxi hxz).trans hp,hs2.swp⟩
  ·simp [hle,show ¬ (i:Int)<=(u:Int) + 1 by omega]
   exact hk l' S' hp hs
 ·simp
  exact ⟨by omega,⟨n,rfl⟩,l,hl,hq2⟩
end
end Go.Proofs.YtnhfofmhkfdpgaaGreatDoor.Vm
namespace Go.Proofs.YtnhfofmhkfdpgaaGreatDoor.Vm
open Go Go.RowKit
set_option maxRecDepth 100000
set_option maxHeartbeats 4000000
variable {N:Nat} {g:Glob}
section
variable {α:Type} {c:α->AV} {f:Nat} {cap:List AV} {L:List α} {o:Nat} {S:St} {cm:α->α->Int}
theorem xS9 {nf:Nat->Nat} (H:SFam nf) (hC:Cmp g c f cap L o S cm) {a b:Nat} (hab:a + 8<=b) (hb:b<=L.length) {l:List α} {S1:St} {K:AV->St->Prop} (hl:l.Perm L) (hS:Srt c S o l S1)
  (hk:∀(S':St) (m:Nat) (h:Int),a<=m->m < b->Srt c S o l S'->K (.tuple [.int .i64 (m:Int),.int .i64 h]) S'):Cal P g (nf 9) [.sl 1 o 0 L.length,.int .i64 (a:Int),.int .i64 (b:Int),.func (.func f) [] cap] S1 K:=by
 refine H.c9.in (by simp) ?_
 have hlen:=hC.len
 obtain ⟨n,hn⟩:∃ n:Nat,n=b - a:=⟨_,rfl⟩
 have e1:IntKind.i64.wrap ((b:Int) - (a:Int))=(n:Int):=by rw [xAa (by omega)];omega
 obtain ⟨d,hd⟩:∃ d:Nat,d=n / 4:=⟨_,rfl⟩
 have e3:IntKind.i64.wrap ((n:Int).tdiv 4)=(d:Int):=by
  have:(n:Int).tdiv 4=(d:Int):=by rw [hd];rfl
  rw [this,xAa (by omega)]
 have e3':IntKind.i64.wrap ((n:Int) / 4)=(d:Int):=by
  have:(n:Int) / 4=(d:Int):=by rw [hd];rfl
  rw [this,xAa (by omega)]
 obtain ⟨d2,hd2⟩:∃ d2:Nat,d2=d * 2:=⟨_,rfl⟩
 obtain ⟨d3,hd3⟩:∃ d3:Nat,d3=d * 3:=⟨_,rfl⟩
 have w1:IntKind.i64.wrap (d:Int)=(d:Int):=xAa (by omega)
 have w2:IntKind.i64.wrap ((d:Int) * 2)=(d2:Int):=by rw [xAa (by omega)];omega
 have w3:IntKind.i64.wrap ((d:Int) * 3)=(d3:Int):=by rw [xAa (by omega)];omega
 obtain ⟨i,hi⟩:∃ i:Nat,i=a + d:=⟨_,rfl⟩
 obtain ⟨j,hj⟩:∃ j:Nat,j=a + d2:=⟨_,rfl⟩
 obtain ⟨k,hk3⟩:∃ k:Nat,k=a + d3:=⟨_,rfl⟩
 have v1:IntKind.i64.wrap ((a:Int) + (d:Int))=(i:Int):=by rw [xAa (by omega)];omega
 have v2:IntKind.i64.wrap ((a:Int) + (d2:Int))=(j:Int):=by rw [xAa (by omega)];omega
 have v3:IntKind.i64.wrap ((a:Int) + (d3:Int))=(k:Int):=by rw [xAa (by omega)];omega
 have hI:a + 1<=i/\i + 2<=b:=by omega
 have hJ:a + 1<=j/\j + 2<=b:=by omega
 have hK:a + 1<=k/\k + 2<=b:=by omega
 have h8:(8:Int)<=(n:Int):=by omega
 clear hi hj hk3 hd2 hd3 hd hn
 have hn1:=hS.1.1
 have hq:=hS.new hC (.row 1 [[.int .i64 0]])
 have hqo:(S1.new (.row 1 [[.int .i64 0]])).obj S1.next=some (.row 1 [[.int .i64 0]]):=by simp
 simp [sk9,e1,e3,e3',w1,w2,w3,v1,v2,v3]
 by_cases h50:(50:Int)<=(n:Int)
 ·simp [h8,h50]
  refine xEU H hC (a:=i) (q:=S1.next) (by omega) (by omega) hl hq hn1 hqo fun S2 i2 n2 hi1 hi2 hs2 ho2 _=>?_
  simp
  refine xEU H hC (a:=j) (q:=S1.next) (by omega) (by omega) hl hs2 hn1 ho2 fun S3 j2 n3 hj1 hj2 hs3 ho3 _=>?_
  simp
  refine xEU H hC (a:=k) (q:=S1.next) (by omega) (by omega) hl hs3 hn1 ho3 fun S4 k2 n4 hk1 hk2 hs4 ho4 _=>?_
  simp
  refine xIz H hC (a:=i2) (b:=j2) (d:=k2) (q:=S1.next) (by omega) (by omega) (by omega) hl hs4 hn1 ho4 fun S5 m n5 hm hmm hs5 ho5 _=>?_
  simp [ho5]
  by_cases z0:n5=0
  ·simp [z0]
   exact hk S5 m 1 (by omega) (by omega) hs5
  ·by_cases z1:n5=12
   ·simp [z0,z1]
    exact hk S5 m 2 (by omega) (by omega) hs5
   ·simp [z0,z1]
    exact hk S5 m 0 (by omega) (by omega) hs5
 ·simp [h8,h50]
  refine xIz H hC (a:=i) (b:=j) (d:=k) (q:=S1.next) (by omega) (by omega) (by omega) hl hq hn1 hqo fun S5 m n5 hm hmm hs5 ho5 _=>?_
  simp [ho5]
  by_cases z0:n5=0
  ·simp [z0]
   exact hk S5 m 1 (by omega) (by omega) hs5
  ·by_cases z1:n5=12
   ·simp [z0,z1]
    exact hk S5 m 2 (by omega) (by omega) hs5
   ·simp [z0,z1]
    exact hk S5 m 0 (by omega) (by omega) hs5
end
section
variable {α:Type} {c:α->AV} {f:Nat} {cap:List AV} {L:List α} {o:Nat} {S:St} {cm:α->α->Int}
structure PI (c:α->AV) (f:Nat) (cap:List AV) (L:List α) (o:Nat) (S:St) (a b i n:Nat) (F:AFrame) (S':St):Prop where
 i1:a + 1<=i
 i2:i<=b
 h0:F 0=.sl 1 o 0 L.length
 h1:F 1=.int .i64 a
 h2:F 2=.int .i64 b
 h3:F 3=.func (.func f) [] cap
 h9:F 9=.int .i64 i
 h10:F 10=.int .i64 n
 ex:∃ l':List α,l'.Perm L/\Srt c S o l' S'
theorem xO9 {nf:Nat->Nat} (H:SFam nf) (hC:Cmp g c f cap L o S cm) {a b:Nat} (hab:a < b) (hb:b<=L.length) {l:List α} {S1:St} {K:AV->St->Prop} (hl:l.Perm L) (hS:Srt c S o l S1)
  (hk:∀l' S' t,l'.Perm L->Srt c S o l' S'->K (.bool t) S'):Cal P g (nf 11) [.sl 1 o 0 L.length,.int .i64 (a:Int),.int .i64 (b:Int),.func (.func f) [] cap] S1 K:=by
 refine H.c11.in (by simp) ?_
 have hc1:=hC.one
 have hcc:=hC.cells
 have hlen:=hC.len
 have e1:=wrapS a (by omega)
 have e2:IntKind.i64.wrap ((b:Int) - (a:Int))=((b - a:Nat):Int):=by rw [xAa (by omega)];omega
 simp [sk11,e1]
 refine W.whileI (fun (n:Nat) F S'=>n<=5/\∃ i,PI c f cap L o S a b i n F S') (fun n=>5 - n) ?_ 0 _ _ ?_
 ·rintro n F S' ⟨hn,i,i1,i2,h0,h1,h2,h3,h9,h10,l',hp,hs⟩
  have e8:=wrapS n (by omega)
  simp [h10]
  by_cases hlt:(n:Int) < 5
  ·simp [hlt]
   refine W.cutL 2 (fun F S'=>∃ i,PI c f cap L o S a b i n F S') ?_ ?_
   ·refine W.whileI (fun (i:Nat) F S'=>PI c f cap L o S a b i n F S') (fun i=>b - i) ?_ i _ _ ?_
    ·clear h0 h1 h2 h3 h9 h10 hp hs l' i1 i2
     rintro i F S' ⟨i1,i2,h0,h1,h2,h3,h9,h10,l',hp,hs⟩
     have hpl:=hp.length_eq
     have ho:=hs.2
     have e4:=wrapS i (by omega)
     have e5:IntKind.i64.wrap ((i:Int) - 1)=((i - 1:Nat):Int):=by rw [xAa (by omega)];omega
     simp
     refine Dra.auto [14] mix ?_ ?_
     ·kernel_rfl
     by_cases hib:i < b
     ·have hil:i < L.length:=by omega
      have hil1:i - 1 < L.length:=by omega
      obtain ⟨x,hx⟩:∃ x,l'[i]?=some x:=⟨_,xgG (by omega)⟩
      obtain ⟨y,hy⟩:∃ y,l'[i - 1]?=some y:=⟨_,xgG (by omega)⟩
      have hxm:x ∈ L:=hp.mem_iff.1 (xmG hx)
      have hym:y ∈ L:=hp.mem_iff.1 (xmG hy)
      simp [classes,h9,h2,hib,h0,h3,e5,xAd hil,xAd hil1,hx,hy,cel,ho]
      refine ⟨_,_,hC.cal x hxm y hym l' S' hs,?_⟩
      simp
      by_cases hc:cm x y < 0
      ·simp [hc]
       exact ⟨i,⟨by omega,by omega,by simp [h0],by simp [h1],by simp [h2],by simp [h3],by simp [h9],by simp [h10],l',hp,hs⟩⟩
      ·simp [hc,h9,e4]
       exact ⟨i + 1,by omega,⟨by omega,by omega,by simp [h0],by simp [h1],by simp [h2],by simp [h3],by simp,by simp [h10],l',hp,hs⟩⟩
     ·simp [classes,h9,h2,hib]
      exact ⟨i,⟨by omega,by omega,by simp [h0],by simp [h1],by simp [h2],by simp [h3],by simp [h9],by simp [h10],l',hp,hs⟩⟩
    ·exact ⟨by omega,by omega,by simp [h0],by simp [h1],by simp [h2],by simp [h3],by simp [h9],by simp [h10],l',hp,hs⟩
   ·clear h0 h1 h2 h3 h9 h10 hp hs l' i1 i2 i
    rintro F S' ⟨i,i1,i2,h0,h1,h2,h3,h9,h10,l',hp,hs⟩
    have hpl:=hp.length_eq
    have ho:=hs.2
    have e5:IntKind.i64.wrap ((i:Int) - 1)=((i - 1:Nat):Int):=by rw [xAa (by omega)];omega
    simp [h9,h2]
    by_cases hib:i=b
    ·simp [hib]
     exact hk l' S' true hp hs
    ·have hibl:i < b:=by omega
     simp [show ¬ (i:Int)=(b:Int) by omega,h1,h2,e2]
     by_cases h50:((b - a:Nat):Int) < 50
     ·simp [h50]
      exact hk l' S' false hp hs
     ·have hil:i < L.length:=by omega
      have hil1:i - 1 < L.length:=by omega
      obtain ⟨x,hx⟩:∃ x,l'[i]?=some x:=⟨_,xgG (by omega)⟩
      obtain ⟨y,hy⟩:∃ y,l'[i - 1]?=some y:=⟨_,xgG (by omega)⟩
      have hg1:=xAV (c:=c) (l:=l') (a:=i) (p:=i - 1) (by omega) hy
      have hs2:=hs.swp (i:=i) (j:=i - 1) (x:=x) (y:=y)
      have hp2:=(xAn hx hy).trans hp
      have e6:IntKind.i64.wrap ((i:Int) - (a:Int))=((i - a:Nat):Int):=by rw [xAa (by omega)];omega
      simp [h50]
      refine Dra.auto [] mix ?_ ?_
      ·kernel_rfl
      simp [classes,h0,h1,h9,e5,e6,xAd hil,xAd hil1,hx,hy,cel,hc1,hcc,ho,hg1,xAk]
      clear hs hp hx hy hg1 ho
      generalize (l'.set i y).set (i - 1) x=l2 at *
      generalize S'.set o _=S2 at *
      refine Bra.cut (fun F' S''=>PI c f cap L o S a b i n F' S'') ?_ ?_
      ·by_cases h2':(2:Int)<=((i - a:Nat):Int)
       ·simp [h2',h9,e5]
        refine W.whileI (fun (j:Nat) F'' S''=>j<=i/\F'' 11=.int .i64 j/\PI c f cap L o S a b i n F'' S'') (fun j=>j) ?_ (i - 1) _ _ ?_
        ·clear h0 h1 h2 h3 h9 h10 hp2 hs2 hpl l2 l'
         rintro j F S' ⟨hjb,hj,_,_,h0,h1,h2,h3,h9,h10,l',hp,hs⟩
         have hpl:=hp.length_eq
         have ho:=hs.2
         simp [hj,h2]
         by_cases hc0:1<=j
         ·have hjl:j < L.length:=by omega
          have hjl1:j - 1 < L.length:=by omega
          have f5:IntKind.i64.wrap ((j:Int) - 1)=((j - 1:Nat):Int):=by rw [xAa (by omega)];omega
          have f6:=wrapS j (by omega)
          obtain ⟨x,hx⟩:∃ x,l'[j]?=some x:=⟨_,xgG (by omega)⟩
          obtain ⟨y,hy⟩:∃ y,l'[j - 1]?=some y:=⟨_,xgG (by omega)⟩
          have hxm:x ∈ L:=hp.mem_iff.1 (xmG hx)
          have hym:y ∈ L:=hp.mem_iff.1 (xmG hy)
          have hg2:=xAV (c:=c) (l:=l') (a:=j) (by omega) hy
          simp [hc0,show (1:Int)<=(j:Int) by omega]
          refine Dra.auto [10] mix ?_ ?_
          ·kernel_rfl
          simp [classes,h0,h3,hj,f5,xAd hjl,xAd hjl1,hx,hy,cel,ho]
          refine ⟨_,_,hC.cal x hxm y hym l' S' hs,?_⟩
          simp
          by_cases hc:cm x y < 0
          ·have hg1:=xAV (c:=c) (l:=l') (a:=j) (p:=j - 1) (by omega) hy
           simp [hc]
           refine Dra.auto [] mix ?_ ?_
           ·kernel_rfl
           simp [classes,h0,hj,f5,f6,xAd hjl,xAd hjl1,hx,hy,cel,hc1,hcc,ho,hg1,xAk]
           exact ⟨j - 1,by omega,by omega,by first | rfl | omega | simp,⟨by omega,by omega,by simp [h0],by simp [h1],by simp [h2],by simp [h3],by simp [h9],by simp [h10],_,(xAn hx hy).trans hp,hs.swp⟩⟩
          ·simp [hc]
           exact ⟨by omega,by omega,by simp [h0],by simp [h1],by simp [h2],by simp [h3],by simp [h9],by simp [h10],l',hp,hs⟩
         ·simp [show ¬ (1:Int)<=(j:Int) by omega]
          exact ⟨by omega,by omega,by simp [h0],by simp [h1],by simp [h2],by simp [h3],by simp [h9],by simp [h10],l',hp,hs⟩
        ·exact ⟨by omega,by simp,⟨by omega,by omega,by simp [h0],by simp [h1],by simp [h2],by simp [h3],by simp [h9],by simp [h10],l2,hp2,hs2⟩⟩
       ·simp [h2']
        exact ⟨by omega,by omega,by simp [h0],by simp [h1],by simp [h2],by simp [h3],by simp [h9],by simp [h10],l2,hp2,hs2⟩
      ·clear h0 h1 h2 h3 h9 h10 hs2 hp2 hpl l2 l'
       rintro F S' ⟨_,_,h0,h1,h2,h3,h9,h10,l',hp,hs⟩
       have e7:IntKind.i64.wrap ((b:Int) - (i:Int))=((b - i:Nat):Int):=by rw [xAa (by omega)];omega
       have e9:=wrapS i (by omega)
       simp [h2,h9,e7]
       refine Bra.cut (fun F' S''=>PI c f cap L o S a b i n F' S'') ?_ ?_
       ·by_cases h2':(2:Int)<=((b - i:Nat):Int)
        ·simp [h2',h9,e9]
         refine W.whileI (fun (j:Nat) F'' S''=>(i + 1<=j/\j<=b)/\F'' 12=.int .i64 j/\PI c f cap L o S a b i n F'' S'') (fun j=>b - j) ?_ (i + 1) _ _ ?_
         ·clear h0 h1 h2 h3 h9 h10 hp hs l'
          rintro j F S' ⟨⟨hj1,hjb⟩,hj,_,_,h0,h1,h2,h3,h9,h10,l',hp,hs⟩
          have hpl:=hp.length_eq
          have ho:=hs.2
          simp [hj,h2]
          by_cases hc0:j < b
          ·have hjl:j < L.length:=by omega
           have hjl1:j - 1 < L.length:=by omega
           have f5:IntKind.i64.wrap ((j:Int) - 1)=((j - 1:Nat):Int):=by rw [xAa (by omega)];omega
           have f6:=wrapS j (by omega)
           obtain ⟨x,hx⟩:∃ x,l'[j]?=some x:=⟨_,xgG (by omega)⟩
           obtain ⟨y,hy⟩:∃ y,l'[j - 1]?=some y:=⟨_,xgG (by omega)⟩
           have hxm:x ∈ L:=hp.mem_iff.1 (xmG hx)
           have hym:y ∈ L:=hp.mem_iff.1 (xmG hy)
           have hg2:=xAV (c:=c) (l:=l') (a:=j) (by omega) hy
           simp [hc0,show (1:Int)<=(j:Int) by omega]
           refine Dra.auto [10] mix ?_ ?_
           ·kernel_rfl
           simp [classes,h0,h3,hj,f5,xAd hjl,xAd hjl1,hx,hy,cel,ho]
           refine ⟨_,_,hC.cal x hxm y hym l' S' hs,?_⟩
           simp
           by_cases hc:cm x y < 0
           ·have hg1:=xAV (c:=c) (l:=l') (a:=j) (p:=j - 1) (by omega) hy
            simp [hc]
            refine Dra.auto [] mix ?_ ?_
            ·kernel_rfl
            simp [classes,h0,hj,f5,f6,xAd hjl,xAd hjl1,hx,hy,cel,hc1,hcc,ho,hg1,xAk]
            exact ⟨j + 1,by omega,⟨by omega,by omega⟩,by first | rfl | omega | simp,⟨by omega,by omega,by simp [h0],by simp [h1],by simp [h2],by simp [h3],by simp [h9],by simp [h10],_,(xAn hx hy).trans hp,hs.swp⟩⟩
           ·simp [hc]
            exact ⟨by omega,by omega,by simp [h0],by simp [h1],by simp [h2],by simp [h3],by simp [h9],by simp [h10],l',hp,hs⟩
          ·simp [hc0]
           exact ⟨by omega,by omega,by simp [h0],by simp [h1],by simp [h2],by simp [h3],by simp [h9],by simp [h10],l',hp,hs⟩
         ·exact ⟨⟨by omega,by omega⟩,by simp,⟨by omega,by omega,by simp [h0],by simp [h1],by simp [h2],by simp [h3],by simp [h9],by simp [h10],l',hp,hs⟩⟩
        ·simp [h2']
         exact ⟨by omega,by omega,by simp [h0],by simp [h1],by simp [h2],by simp [h3],by simp [h9],by simp [h10],l',hp,hs⟩
       ·clear h0 h1 h2 h3 h9 h10 hs hp l'
        rintro F S' ⟨_,_,h0,h1,h2,h3,h9,h10,l',hp,hs⟩
        simp [h10,e8]
        exact ⟨n + 1,by omega,by omega,i,⟨by omega,by omega,by simp [h0],by simp [h1],by simp [h2],by simp [h3],by simp [h9],by simp,l',hp,hs⟩⟩
  ·simp [hlt]
   exact hk l' S' false hp hs
 ·simp
  exact ⟨a + 1,⟨by omega,by omega,by simp,by simp,by simp,by simp,by simp,by simp,l,hl,hS⟩⟩
end
end Go.Proofs.YtnhfofmhkfdpgaaGreatDoor.Vm
namespace Go.Proofs.YtnhfofmhkfdpgaaGreatDoor.Vm
open Go Go.RowKit
set_option maxRecDepth 100000
set_option maxHeartbeats 8000000
variable {N:Nat} {g:Glob}
theorem vc.cut {P:Program} {a b:VCode} {F:AFrame} {S:St} {Q:Res->Prop} (R:AFrame->St->Prop) (h:vc P g a F S (KSeqOf R Q)) (hR:∀F S,R F S->vc P g b F S Q):vc P g (.seq a b) F S Q:=by
 show vc P g a F S (KSeqOf (fun F S=>vc P g b F S Q) Q)
 refine xCO (fun r hr=>?_) h
 cases r with
 | val v S=>exact hr
 | code e F S =>
  cases e with
  | normal=>exact hR F S hr
  | ret=>exact hr
  | exit id=>exact hr
@[simp] theorem xQ8 {R Q F S}:KSeqOf R Q (.code .normal F S)=R F S:=_root_.id rfl
@[simp] theorem xT7 {R Q F S}:KSeqOf R Q (.code .ret F S)=Q (.code .ret F S):=_root_.id rfl
@[simp] theorem xTa {R Q id F S}:KSeqOf R Q (.code (.exit id) F S)=Q (.code (.exit id) F S):=_root_.id rfl
section
variable {α:Type} {c:α->AV} {f:Nat} {cap:List AV} {L:List α} {o:Nat} {S:St} {cm:α->α->Int}
structure PQ (c:α->AV) (f:Nat) (cap:List AV) (L:List α) (o:Nat) (S:St) (a b:Nat) (F:AFrame) (S':St):Prop where
 h0:F 0=.sl 1 o 0 L.length
 h1:F 1=.int .i64 a
 h2:F 2=.int .i64 b
 h4:F 4=.func (.func f) [] cap
 h3:∃ lim:Int,F 3=.int .i64 lim
 h10:∃ t,F 10=.bool t
 h11:∃ t,F 11=.bool t
 ex:∃ l':List α,l'.Perm L/\Srt c S o l' S'
theorem xXN {nf:Nat->Nat} (H:SFam nf) (hC:Cmp g c f cap L o S cm):∀(k a b:Nat) (lim:Int),b - a < k->a<=b->b<=L.length->∀{l:List α} {S1:St} {K:AV->St->Prop},l.Perm L->Srt c S o l S1 ->
  (∀l' S',l'.Perm L->Srt c S o l' S'->K (.tuple []) S')->Cal P g (nf 10) [.sl 1 o 0 L.length,.int .i64 (a:Int),.int .i64 (b:Int),.int .i64 lim,.func (.func f) [] cap] S1 K:=by
 intro k
 induction k with
 | zero=>intro a b lim h;omega
 | succ k ih =>
 intro a0 b0 lim0 hab0 hle0 hb0 l S1 K hl hS hk
 refine H.c10.in (by simp) ?_
 have hlen:=hC.len
 simp [sk10]
 refine W.whileI (fun (z:Nat × Nat) F S'=>z.1<=z.2/\z.2<=L.length/\z.2 - z.1 < k + 1/\PQ c f cap L o S z.1 z.2 F S') (fun z=>z.2 - z.1) ?_ (a0,b0) _ _ ?_
 ·rintro ⟨a,b⟩ F S' ⟨hle,hb,hkb,h0,h1,h2,h4,⟨lim,h3⟩,⟨t1,h10⟩,⟨t2,h11⟩,l',hp,hs⟩
  simp only at hle hb hkb h0 h1 h2 h4 h3 h10 h11
  obtain ⟨n,hn⟩:∃ n:Nat,n=b - a:=⟨_,rfl⟩
  have e1:IntKind.i64.wrap ((b:Int) - (a:Int))=(n:Int):=by rw [xAa (by omega)];omega
  simp [h1,h2,e1]
  by_cases h12:(n:Int)<=12
  ·simp [h12,h0,h1,h2,h4]
   refine xQ4 H hC hle hb hp hs fun l2 S2 hp2 hs2=>?_
   simp
   exact hk l2 S2 hp2 hs2
  ·simp [h12,h3]
   by_cases hl0:lim=0
   ·simp [hl0,h0,h1,h2,h4]
    refine xVK H hC (by omega) hb hp hs fun l2 S2 hp2 hs2=>?_
    simp
    exact hk l2 S2 hp2 hs2
   ·simp [hl0,h10]
    refine Bra.cut (fun F' S''=>PQ c f cap L o S a b F' S''/\F' 12=.int .i64 n) ?_ ?_
    ·cases t1 with
     | true =>
      simp
      exact ⟨by simp [h0],by simp [h1],by simp [h2],by simp [h4],⟨lim,by simp [h3]⟩,⟨true,by simp [h10]⟩,⟨t2,by simp [h11]⟩,l',hp,hs⟩
     | false =>
      simp [h0,h1,h2,h3,h4]
      refine xS8 H hC (by omega) hb hp hs fun l2 S2 hp2 hs2=>?_
      simp [h3]
      exact ⟨by simp [h0],by simp [h1],by simp [h2],by simp [h4],⟨IntKind.i64.wrap (lim - 1),by simp [h3]⟩,⟨false,by simp [h10]⟩,⟨t2,by simp [h11]⟩,l2,hp2,hs2⟩
    ·clear h0 h1 h2 h3 h4 h10 h11 hp hs l' hl0 t1 t2 lim
     rintro F S' ⟨⟨h0,h1,h2,h4,⟨lim,h3⟩,⟨t1,h10⟩,⟨t2,h11⟩,l',hp,hs⟩,h12'⟩
     simp [h0,h1,h2,h4]
     refine xS9 H hC (by omega) hb hp hs fun S2 m h hm1 hm2 hs2=>?_
     simp
     refine Bra.cut (fun F' S''=>PQ c f cap L o S a b F' S''/\F' 12=.int .i64 n/\(∃ m:Nat,a<=m/\m < b/\F' 13=.int .i64 m)/\∃ h:Int,F' 14=.int .i64 h) ?_ ?_
     ·by_cases hh:h=2
      ·have e2:IntKind.i64.wrap ((b:Int) - 1)=((b - 1:Nat):Int):=by rw [xAa (by omega)];omega
       have e3:IntKind.i64.wrap ((m:Int) - (a:Int))=((m - a:Nat):Int):=by rw [xAa (by omega)];omega
       have e4:IntKind.i64.wrap (((b - 1:Nat):Int) - ((m - a:Nat):Int))=((b - 1 - (m - a):Nat):Int):=by rw [xAa (by omega)];omega
       simp [hh,h0,h1,h2,h4]
       refine xO6 H hC (by omega) hb hp hs2 fun l3 S3 hp3 hs3=>?_
       simp [h1,h2,e2,e3,e4]
       exact ⟨⟨by simp [h0],by simp [h1],by simp [h2],by simp [h4],⟨lim,by simp [h3]⟩,⟨t1,by simp [h10]⟩,⟨t2,by simp [h11]⟩,l3,hp3,hs3⟩,by simp [h12'],b - 1 - (m - a),by omega,by omega,by simp⟩
      ·simp [hh]
       exact ⟨⟨by simp [h0],by simp [h1],by simp [h2],by simp [h4],⟨lim,by simp [h3]⟩,⟨t1,by simp [h10]⟩,⟨t2,by simp [h11]⟩,l',hp,hs2⟩,by simp [h12'],m,hm1,hm2,by simp⟩
     ·clear h0 h1 h2 h3 h4 h10 h11 hp hs hs2 l' t1 t2 lim hm1 hm2 m h h12'
      rintro F S' ⟨⟨h0,h1,h2,h4,⟨lim,h3⟩,⟨t1,h10⟩,⟨t2,h11⟩,l',hp,hs⟩,h12',⟨m,hm1,hm2,h13⟩,⟨h,h14⟩⟩
      show vc P g (.seq _ _) F S' _
      refine vc.cut (fun F' S''=>PQ c f cap L o S a b F' S''/\F' 12=.int .i64 n/\∃ m:Nat,a<=m/\m < b/\F' 13=.int .i64 m) ?_ ?_
      ·skip
       cases t1 with
       | false =>
        simp [h10,h11,h14]
        refine ⟨⟨by simp [h0],by simp [h1],by simp [h2],by simp [h4],⟨lim,by simp [h3]⟩,⟨false,by simp [h10]⟩,⟨t2,by simp [h11]⟩,l',hp,hs⟩,by simp [h12'],⟨m,hm1,hm2,by simp [h13]⟩⟩
       | true =>
        cases t2 with
        | false =>
         simp [h10,h11,h14]
         refine ⟨⟨by simp [h0],by simp [h1],by simp [h2],by simp [h4],⟨lim,by simp [h3]⟩,⟨true,by simp [h10]⟩,⟨false,by simp [h11]⟩,l',hp,hs⟩,by simp [h12'],⟨m,hm1,hm2,by simp [h13]⟩⟩
        | true =>
         by_cases hh:h=1
         ·simp [h10,h11,h14,hh,h0,h1,h2,h4]
          refine xO9 H hC (by omega) hb hp hs fun l3 S3 t hp3 hs3=>?_
          cases t with
          | true =>
           simp
           exact hk l3 S3 hp3 hs3
          | false =>
           simp
           refine ⟨⟨by simp [h0],by simp [h1],by simp [h2],by simp [h4],⟨lim,by simp [h3]⟩,⟨true,by simp [h10]⟩,⟨true,by simp [h11]⟩,l3,hp3,hs3⟩,by simp [h12'],⟨m,hm1,hm2,by simp [h13]⟩⟩
         ·simp [h10,h11,h14,hh]
          refine ⟨⟨by simp [h0],by simp [h1],by simp [h2],by simp [h4],⟨lim,by simp [h3]⟩,⟨true,by simp [h10]⟩,⟨true,by simp [h11]⟩,l',hp,hs⟩,by simp [h12'],⟨m,hm1,hm2,by simp [h13]⟩⟩
      ·clear h0 h1 h2 h3 h4 h10 h11 h12' h13 h14 hp hs l' t1 t2 lim hm1 hm2 m h
       rintro F S' ⟨⟨h0,h1,h2,h4,⟨lim,h3⟩,⟨t1,h10⟩,⟨t2,h11⟩,l',hp,hs⟩,h12',⟨m,hm1,hm2,h13⟩⟩
       show vc P g (.seq _ _) F S' _
       refine vc.cut (fun F' S''=>PQ c f cap L o S a b F' S''/\F' 12=.int .i64 n/\∃ m:Nat,a<=m/\m < b/\F' 13=.int .i64 m) ?_ ?_
       ·have hpl:=hp.length_eq
        have ho:=hs.2
        have hml:m < L.length:=by omega
        simp
        refine Dra.auto [13] mix ?_ ?_
        ·kernel_rfl
        by_cases ha:0 < a
        ·have hal:a - 1 < L.length:=by omega
         have e2:IntKind.i64.wrap ((a:Int) - 1)=((a - 1:Nat):Int):=by rw [xAa (by omega)];omega
         obtain ⟨x,hx⟩:∃ x,l'[a - 1]?=some x:=⟨_,xgG (by omega)⟩
         obtain ⟨y,hy⟩:∃ y,l'[m]?=some y:=⟨_,xgG (by omega)⟩
         have hxm:x ∈ L:=hp.mem_iff.1 (xmG hx)
         have hym:y ∈ L:=hp.mem_iff.1 (xmG hy)
         simp [classes,h0,h1,h4,h13,ha,e2,xAd hal,xAd hml,hx,hy,cel,ho]
         refine ⟨_,_,hC.cal x hxm y hym l' S' hs,?_⟩
         simp
         by_cases hc:cm x y < 0
         ·simp [hc]
          refine ⟨⟨by simp [h0],by simp [h1],by simp [h2],by simp [h4],⟨lim,by simp [h3]⟩,⟨t1,by simp [h10]⟩,⟨t2,by simp [h11]⟩,l',hp,hs⟩,by simp [h12'],⟨m,hm1,hm2,by simp [h13]⟩⟩
         ·simp [hc,h0,h1,h2,h4,h13]
          refine xQ5 H hC (by omega) hb hml hp hs fun l3 S3 w hw1 hw2 hp3 hs3=>?_
          simp
          refine ⟨w,b,by omega,by omega,hb,by omega,⟨by simp [h0],by simp,by simp [h2],by simp [h4],⟨lim,by simp [h3]⟩,⟨t1,by simp [h10]⟩,⟨t2,by simp [h11]⟩,l3,hp3,hs3⟩⟩
        ·simp [classes,h1,ha]
         refine ⟨⟨by simp [h0],by simp [h1],by simp [h2],by simp [h4],⟨lim,by simp [h3]⟩,⟨t1,by simp [h10]⟩,⟨t2,by simp [h11]⟩,l',hp,hs⟩,by simp [h12'],⟨m,hm1,hm2,by simp [h13]⟩⟩
       ·clear h0 h1 h2 h3 h4 h10 h11 h12' h13 hp hs l' t1 t2 lim hm1 hm2 m
        rintro F S' ⟨⟨h0,h1,h2,h4,⟨lim,h3⟩,⟨t1,h10⟩,⟨t2,h11⟩,l',hp,hs⟩,h12',⟨m,hm1,hm2,h13⟩⟩
        simp [h0,h1,h2,h4,h13]
        refine xK3 H hC (by omega) hb (by omega) hp hs fun l3 S3 w t hw1 hw2 hp3 hs3=>?_
        have e2:IntKind.i64.wrap ((w:Int) - (a:Int))=((w - a:Nat):Int):=by rw [xAa (by omega)];omega
        have e3:IntKind.i64.wrap ((b:Int) - (w:Int))=((b - w:Nat):Int):=by rw [xAa (by omega)];omega
        have e4:=wrapS w (by omega)
        simp [h1,h2,h12',e2,e3]
        by_cases hh:w - a < b - w
        ·simp [hh,h0,h1,h3,h4]
         refine ih a w lim (by omega) (by omega) (by omega) hp3 hs3 fun l4 S4 hp4 hs4=>?_
         simp [e4]
         refine ⟨w + 1,b,by omega,by omega,hb,by omega,⟨by simp [h0],by simp,by simp [h2],by simp [h4],⟨lim,by simp [h3]⟩,⟨_,by simp;rfl⟩,⟨t,by simp⟩,l4,hp4,hs4⟩⟩
        ·simp [hh,h0,h1,h2,h3,h4,e4]
         refine ih (w + 1) b lim (by omega) (by omega) (by omega) hp3 hs3 fun l4 S4 hp4 hs4=>?_
         simp
         refine ⟨a,w,by omega,by omega,by omega,by omega,⟨by simp [h0],by simp [h1],by simp,by simp [h4],⟨lim,by simp [h3]⟩,⟨_,by simp;rfl⟩,⟨t,by simp⟩,l4,hp4,hs4⟩⟩
 ·simp
  exact ⟨hle0,hb0,by omega,⟨by simp,by simp,by simp,by simp,⟨lim0,by simp⟩,⟨true,by simp⟩,⟨true,by simp⟩,l,hl,hS⟩⟩
theorem xPa {nf:Nat->Nat} (H:SFam nf) (hC:Cmp g c f cap L o S cm) (ho:S.obj o=some (.row 1 (els (cel c) L))) {K:AV->St->Prop}
  (hk:∀l' S',l'.Perm L->Srt c S o l' S'->K (.tuple []) S'):Cal P g (nf 13) [.sl 1 o 0 L.length,.func (.func f) [] cap] S K:=by
 refine H.c13.in (by simp) ?_
 have hlen:=hC.len
 simp [sk13]
 have ew:IntKind.u64.wrap (L.length:Int)=L.length:=xB6 (by omega)
 rw [ew]
 refine (bits_Len L.length (by omega)).use (n:=9) ?_ rfl ?_ <;> simp
 refine xXN H hC (L.length + 1) 0 L.length _ (by omega) (by omega) (Nat.le_refl _) (.refl _) ⟨⟨Nat.le_refl _,fun a _ _=>rfl⟩,ho⟩ fun l' S' hp hs=>?_
 simp
 exact hk l' S' hp hs
end
end Go.Proofs.YtnhfofmhkfdpgaaGreatDoor.Vm
namespace Go.Proofs.YtnhfofmhkfdpgaaGreatDoor.Vm
open Go Go.RowKit
set_option maxRecDepth 100000
variable {N:Nat} {g:Glob}
theorem xNf {v:AV} {G:List (List Int)} (hv:GrV v G) (hG:G.length<=128) (hl:∀l ∈ G,l.length < 1048576):RetE P g false 253 [v] (fun y=>∃ Ps:List (List Int),FSl partc 1 y Ps/\PartsOK G.length Ps):=by
 refine RetE.in (cF0 (by kernel_rfl)) (nF (by kernel_rfl)) (vO ?_)
 have hroom:G.length<=room:=by simp [room];omega
 have hCl:(cleanG G).length=G.length:=by simp [cleanG]
 have hCm:∀l ∈ cleanG G,l.length < 1048576/\∀x ∈ l,0<=x/\x < (cleanG G).length:=by
  intro l h
  rw [hCl]
  simp only [cleanG,List.mem_map] at h
  obtain ⟨m,hm,rfl⟩:=h
  exact ⟨Nat.lt_of_le_of_lt (xAT _ _) (hl m hm),fun x hx=>(xAq.1 hx).2⟩
 have hcv:=xCo (cleanG G)
 conv=>arg 3;reduce
 simp [hv.len]
 refine Dra.auto [] mix ?_ ?_
 ·kernel_rfl
 simp [classes]
 refine (xAE hv (by omega) (fun l h=>by have:=hl l h;omega)).b (n:=9) ?_ rfl ?_ <;> simp [xAc hv.stab]
 have hcc:(encG (cleanG G)).cells=[encG (cleanG G)]:=rfl
 have hc1:(encG (cleanG G)).one=true:=rfl
 generalize cleanG G=C at *
 generalize encG C=cv at *
 have hC12:C.length<=128:=by omega
 have hroom':C.length<=room:=by omega
 have hvl:=hv.len
 rw [<- hCl] at hvl ⊢
 have e0:∀n:Nat,List.replicate n [AV.int IntKind.i64 0]=els intc (List.replicate n 0):=fun n=>xAh (e:=intc)
 have e1:∀n:Nat,List.replicate n [AV.bool false]=els boolc (List.replicate n false):=fun n=>xAh (e:=boolc)
 simp [hroom',hcc,hc1,hvl,e0,e1]
 have hz0:Wfj C ⟨List.replicate C.length 0,List.replicate C.length 0,List.replicate C.length false,[],[],0,[]⟩:=by
  refine ⟨by simp,by simp,by simp,by simp,by simp,by simp [wfst],by simp,?_,by simp,by simp,by simp⟩
  intro a h
  exfalso
  apply h
  simp only [List.getD_eq_getElem?_getD,List.getElem?_replicate]
  split <;> rfl
 refine W.whileI (fun (a:Nat) F S=>a<=C.length/\F 4=.ptr 3 0 0/\F 19=.int .i64 C.length/\F 20=.int .i64 a/\PtI 3 0 1 2 4 cv C a S) (fun a=>C.length - a) ?_ 0 _ _ ?_
 ·rintro a F S ⟨ha,h4,h19,h20,ov,wv,pv,z,hT,hz,hw,hp,hpa⟩
  have obj:=hT.obj
  have rm:=hT.rm
  by_cases hlt:a < C.length
  ·have e4:=wrapS a (by omega)
   obtain ⟨m,hm⟩:∃ m,z.met[a]?=some m:=⟨_,xgG (by rw [hz.lm];exact hlt)⟩
   simp [h19,h20,hlt]
   simp [h4,obj,tjCells,rm,xAd hlt,hm,intc]
   by_cases hm0:m=0
   ·subst hm0
    simp [h4]
    refine xHy hcv hT hz hw hlt hm (by omega) hCm hp fun S' ov' wv' pv' z' hT' hz' hw' hp'=>?_
    simp [h4,h19,h20,e4]
    exact ⟨a + 1,by omega,by omega,by omega,ov',wv',pv',z',hT',hz',hw',.inl hp',fun _=>hp'⟩
   ·have hpp:z.parts ≠ []:=by
     rcases hp with h | h
     ·exact h
     ·exfalso
      have h1:=hz.clk
      rw [h,<- hz.lm,Nat.zero_add] at h1
      have:=List.count_eq_length.1 h1 m (xmG hm)
      exact hm0 this.symm
    simp [hm0,h4,h19,h20,e4]
    exact ⟨a + 1,by omega,by omega,by omega,ov,wv,pv,z,hT,hz,hw,hp,fun _=>hpp⟩
  ·have:a=C.length:=by omega
   subst this
   have hcnt:=hz.cnt
   have hP:∀Ps:List (List Int),Ps.Perm z.parts->PartsOK C.length Ps:=by
    intro Ps hpm
    refine ⟨fun h e=>?_,?_,fun l h=>hz.prt l (hpm.mem_iff.1 h)⟩
    ·subst e
     exact hpa h hpm.symm.eq_nil
    ·rw [hpm.length_eq];omega
   simp [h19,h20,h4,obj,tjCells]
   rcases hT.rp with ⟨rfl,hpe⟩ | ⟨po,rfl,p1,p2,p3⟩
   ·refine xJB ?_
    simp [h4,obj,tjCells]
    exact ⟨.nilsl,⟨[],.inr ⟨rfl,rfl⟩,hP [] (by rw [hpe])⟩,1,rfl⟩
   ·have hCm2:Cmp g (fun l:List Int=>AV.fsl 1 (els intc l)) 272 [] z.parts po S (fun a b=>IntKind.i64.wrap ((a.getD 0 0) - (b.getD 0 0))):=by
     refine ⟨fun _=>rfl,by omega,by omega,fun a ha b hb l' S' hs=>?_⟩
     have h1:=(hz.prt a ha).1
     have h2:=(hz.prt b hb).1
     cases a with
     | nil=>exact absurd rfl h1
     | cons x a =>
      cases b with
      | nil=>exact absurd rfl h2
      | cons y b=>exact xHz (a:=x :: a) (b:=y :: b) rfl rfl ⟨rfl,rfl⟩
    refine xPa famR hCm2 p3 fun l' S' hl' hs'=>?_
    have obj':=hs'.1.2 3 (by omega) (by omega)
    rw [obj] at obj'
    simp [h4,obj',tjCells]
    refine ⟨.fsl 1 (els partc l'),⟨l',.inl rfl,hP l' hl'⟩,3,?_⟩
    rw [<- hl'.length_eq]
    refine xAr (es:=els partc l') (by rw [hs'.2];rfl) (by simp) (by simp) fun k e he=>?_
    rw [he]
    simp only [els,List.getElem?_map] at he
    cases hz:l'[k]? with
    | none=>rw [hz] at he;cases he
    | some x=>rw [hz] at he;cases he;simp [partc]
 ·simp
  refine ⟨.nilsl,.nilsl,.nilsl,_,⟨by omega,by omega,by omega,by omega,by simp,by simp,by simp [tjCells],by simp,by simp,by simp,by simp,by simp,by simp,.inl ⟨rfl,rfl⟩,.inl ⟨rfl,rfl⟩,.inl ⟨rfl,rfl⟩,fun _ _ _ h=>by cases h⟩,hz0,rfl,.inr rfl,fun h=>absurd h (by omega)⟩
end Go.Proofs.YtnhfofmhkfdpgaaGreatDoor.Vm
