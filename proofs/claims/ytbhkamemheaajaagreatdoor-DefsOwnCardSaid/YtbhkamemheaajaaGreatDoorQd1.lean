/- A part of the proof: Vw Vy Vz Ar Aq Ap Ay. -/
import Derived.IntWalk
import Derived.KernelRfl
import Derived.Test.YtbhkamemheaajaaGreatDoorQd0
set_option linter.unusedVariables false
set_option linter.unusedSimpArgs false
set_option linter.constructorNameAsVariable false
namespace Go.Proofs.YtbhkamemheaajaaGreatDoor.Vm
open Go Go.RowKit
section
variable {P:Program} {g:Glob}
variable {l:List VOper} {aft:List (List Nat)} {F FF:AFrame} {S0 R:St} {ds:List DS} {G:Nat→AFrame}
section
variable (D:DrawOK P g l aft F FF S0 R ds G)
include D
end
end
end Go.Proofs.YtbhkamemheaajaaGreatDoor.Vm
namespace Go.Proofs.YtbhkamemheaajaaGreatDoor.Vm
open Go Go.RowKit
section
variable {P:Program} {g:Glob}
section
variable {d:Option Nat} {F:AFrame} {S S0 R:St} {af:List Nat}
end
end
section
variable {P:Program} {g:Glob}
attribute [simp] partV fillV over fitsAll EK.fits eqCells valEq scalarEq okEl mapOpt SK.isRead SK.isMake
attribute [simp] AV.plain plains AV.solid solids AV.young youngs youngss
attribute [simp] KK.fits cutL
end
end Go.Proofs.YtbhkamemheaajaaGreatDoor.Vm
namespace Go.Proofs.YtbhkamemheaajaaGreatDoor.Vm
open Go Go.RowKit
section
variable {P:Program} {g:Glob}
end
section
variable {α:Type} {e:α→List AV} {l m:List α}
end
section
variable {P:Program} {g:Glob}
end
section
variable {α:Type} {e:α→List AV} [PlainE e] {l:List α}
end
attribute [simp] AObj.plainO Kept AObj.ren AV.shift shifts
section
variable {α:Type} {e:α→List AV} {sz:Nat} {v:AV} {l:List α}
end
section
variable {P:Program} {g:Glob} {α:Type} {e:α→List AV} {sz:Nat} {l:List α}
end
end Go.Proofs.YtbhkamemheaajaaGreatDoor.Vm
namespace Go.Proofs.YtbhkamemheaajaaGreatDoor.Vm
open Go Go.RowKit
set_option maxRecDepth 100000
variable {N:Nat} {g:Glob}
noncomputable def Prg.inst (p:Prg) (i j k:Int):Option Ins:=match p.blk i j with
 | none=>none
 | some b=>if 0≤k∧k < b.ins.length then b.ins[k.toNat]? else none
theorem blk_small {p:Prg} (hp:p.Fit) {i j:Int} {b:Blk} (h:p.blk i j=some b):b.ins.length < 2 ^ 38∧b.out.length < 2 ^ 38:=by
 unfold Prg.blk at h
 cases hf:p.fn i with
 | none=>rw [hf] at h;cases h
 | some f =>
  rw [hf] at h
  have h2:f.blk j=some b:=h
  unfold Fun.blk at h2
  split at h2
  ·exact ⟨(fn_fit hp hf).ins b (List.mem_of_getElem? h2),(fn_fit hp hf).out b (List.mem_of_getElem? h2)⟩
  ·cases h2
theorem prog_At (p:Prg) (i j k:Int) (hp:p.Fit):Ret P (gl N) false 29 [encP p,.int .i64 i,.int .i64 j,.int .i64 k] (.tuple [encI ((p.inst i j k).getD Ins.zero),.bool (p.inst i j k).isSome]):=by
 refine Ret.in c29 (by simp) ?_
 simp [k29]
 refine (prog_Block p i j hp).use (n:=9) (by simp [mapOpt,pict_stab p.funsS.stab]) (by simp [solids,AV.solid,p.funsS.solid]) ?_
 simp
 unfold Prg.inst
 cases hb:p.blk i j with
 | none =>
  by_cases hk:k < 0
  ·simp [hk]
   exact ⟨9,by simp [mapOpt,Ins.zero,insc]⟩
  ·simp [hk,Blk.none,Blk.insV,encN,show (0:Int)≤k by omega]
   exact ⟨9,by simp [mapOpt,Ins.zero,insc]⟩
 | some b =>
  have hbl:=(blk_small hp hb).1
  by_cases hk:k < 0
  ·simp [hk,show ¬ 0≤k by omega]
   exact ⟨9,by simp [mapOpt,Ins.zero,insc]⟩
  ·by_cases hk2:k < b.ins.length
   ·obtain ⟨kn,rfl⟩:∃ n:Nat,k=(n:Int):=⟨k.toNat,by omega⟩
    obtain ⟨x,hx⟩:∃ x,b.ins[kn]?=some x:=⟨_,List.getElem?_eq_getElem (by omega)⟩
    have hkl:kn < b.ins.length:=by omega
    have hget:b.ins[kn]=x:=by rw [List.getElem?_eq_getElem hkl] at hx;exact Option.some.inj hx
    simp [hk,hk2,show ¬ (b.ins.length:Int)≤kn by omega,b.insS.idx hx,hkl,hget,hx]
    exact ⟨9,by simp [mapOpt,insc]⟩
   ·simp [hk,hk2,show (b.ins.length:Int)≤k by omega]
    exact ⟨9,by simp [mapOpt,Ins.zero,insc]⟩
end Go.Proofs.YtbhkamemheaajaaGreatDoor.Vm
namespace Go.Proofs.YtbhkamemheaajaaGreatDoor.Vm
open Go Go.RowKit
variable {N:Nat} {g:Glob}
theorem dat_src {p:Prg} {f:Fun} (hok:FunOK p f) {j k v:Nat} (h:(f.dat j k).mem v=true):∃ x ∈ f.insts,0≤x.def∧x.id=(v:Int):=by
 rcases past_src v _ (fun x hx=>hok.fine (List.mem_of_mem_take hx)) (f.din_ok j) h with h1 | ⟨x,hx,h2,h3⟩
 ·obtain ⟨_,c,y,x,_,hy,hx,h2,h3⟩:=din_far hok h1
  exact ⟨x,code_insts hy hx,h2,h3⟩
 ·obtain ⟨b,hb,hxb⟩:=Fun.code_mem (List.mem_of_mem_take hx)
  exact ⟨x,code_insts hb hxb,h2,h3⟩
theorem list_filter {f:Fun} {s:BSet} (hs:s.OK∧s.n=96) (v:Int):f.ofD s v=s.list.filter fun d=>decide (d ∈ f.dids v):=by
 have h1:(BSet.ofL 96 (f.dids v)).OK:=BSet.ofL_ok (by omega) _
 have hl1:(s.meet (BSet.ofL 96 (f.dids v))).ws.length=2:=by rw [(ofD_ok hs v).1.len,(ofD_ok hs v).2];rfl
 have hl2:s.ws.length=2:=by rw [hs.1.len,hs.2];rfl
 unfold Fun.ofD BSet.list BSet.listTo
 rw [hl1,hl2,List.filter_map,List.filter_filter]
 congr 1
 refine List.filter_congr fun d hd=>?_
 rw [BSet.meet_mem hs.1 h1,BSet.ofL_mem (by omega)]
 simp only [Function.comp]
 cases hm:s.mem d with
 | false=>simp
 | true =>
  have:d < 96:=by
   apply Classical.byContradiction
   intro hno
   rw [BSet.mem_top hs.1 (by rw [hs.2];omega)] at hm
   cases hm
  simp [this]
theorem cnt_or {l:List Int} {p q:Int→Bool} (h:∀d,p d=true→q d=false):(l.filter fun d=>p d || q d).length=(l.filter p).length + (l.filter q).length:=by
 induction l with
 | nil=>rfl
 | cons a l ih =>
  simp only [List.filter_cons]
  cases hp:p a with
  | true=>simp [h a hp,ih];omega
  | false =>
   cases hq:q a with
   | true=>simp [ih];omega
   | false=>simp [ih]
noncomputable def Fun.ownTo (f:Fun) (s:BSet):Nat→Nat
 | 0=>0
 | v + 1=>f.ownTo s v + (f.ofD s (v:Int)).length
theorem ownTo_eq {p:Prg} {i:Int} {f:Fun} (h:p.fn i=some f) {s:BSet} (hs:s.OK∧s.n=96):∀n:Nat,f.ownTo s n=(s.list.filter fun d=>(List.range n).any fun v=>decide (d ∈ f.dids (v:Int))).length
 | 0=>by
  rw [Fun.ownTo]
  symm
  rw [List.length_eq_zero_iff,List.filter_eq_nil_iff]
  intro d _
  simp
 | n + 1=>by
  rw [Fun.ownTo,ownTo_eq h hs n,list_filter hs,← cnt_or]
  ·congr 1
   refine List.filter_congr fun d _=>?_
   rw [List.range_succ,List.any_append]
   simp
  ·intro d hd
   rw [List.any_eq_true] at hd
   obtain ⟨v,hv,hd⟩:=hd
   rw [decide_eq_false_iff_not]
   intro hd2
   obtain ⟨x,hx,hx1,hx2⟩:=Fun.dids_mem.1 (of_decide_eq_true hd)
   obtain ⟨y,hy,hy1,hy2⟩:=Fun.dids_mem.1 hd2
   have:=insts_uniq h hx hy (by rw [hx2,hy2])
   subst this
   have:=List.mem_range.1 hv
   omega
theorem ownTo_all {p:Prg} {i:Int} {f:Fun} (h:p.fn i=some f) {j k:Nat} {n:Nat} (hn:f.vars≤(n:Int)):f.ownTo (f.dat j k) n=(f.dat j k).list.length:=by
 have hok:=fn_ok h
 rw [ownTo_eq h (f.dat_ok j k)]
 congr 1
 rw [List.filter_eq_self]
 intro d hd
 rw [BSet.list_mem (f.dat_ok j k).1] at hd
 obtain ⟨x,hx,h1,h2⟩:=dat_src hok hd.2
 have e:((d.toNat:Nat):Int)=d:=by omega
 obtain ⟨A,hA,hxA⟩:=Fun.insts_mem.1 hx
 have hv:=(ins_vars ((hok.blk hA).2.2.2.2 x hxA)).2
 rw [List.any_eq_true]
 refine ⟨x.def.toNat,List.mem_range.2 (by omega),?_⟩
 have e2:((x.def.toNat:Nat):Int)=x.def:=by omega
 rw [e2]
 exact decide_eq_true (Fun.dids_mem.2 ⟨x,hx,rfl,by rw [h2,e]⟩)
theorem new_list (n:Nat) (h:n≤1024):(BSet.new n).list=[]:=by
 cases hl:(BSet.new n).list with
 | nil=>rfl
 | cons a l =>
  have:=(BSet.list_mem (BSet.new_ok h)).1 (show a ∈ (BSet.new n).list by rw [hl];simp)
  rw [BSet.new_mem] at this
  cases this.2
theorem ofD_new (f:Fun) (v:Int):f.ofD (BSet.new 96) v=[]:=by
 cases hl:f.ofD (BSet.new 96) v with
 | nil=>rfl
 | cons a l =>
  have:=(ofD_mem new96).1 (show a ∈ f.ofD (BSet.new 96) v by rw [hl];simp)
  rw [BSet.new_mem] at this
  cases this.2.1
end Go.Proofs.YtbhkamemheaajaaGreatDoor.Vm
namespace Go.Proofs.YtbhkamemheaajaaGreatDoor.Vm
open Go Go.RowKit
set_option maxRecDepth 100000
variable {N:Nat} {g:Glob}
theorem and_byte {u v T M:Nat} (hu:u < 2 ^ 8) (hv:v < 2 ^ 8):(2 ^ 8 * T + u) &&& (2 ^ 8 * M + v)=2 ^ 8 * (T &&& M) + (u &&& v):=by
 apply Nat.eq_of_testBit_eq
 intro j
 rw [Nat.testBit_and,Nat.testBit_two_pow_mul_add _ hu,Nat.testBit_two_pow_mul_add _ hv,Nat.testBit_two_pow_mul_add _ (Nat.lt_of_le_of_lt Nat.and_le_left hu)]
 split <;> rw [Nat.testBit_and]
def valB:List Nat→Nat
 | []=>0
 | u :: L=>2 ^ 8 * valB L + u
def f1 (u:Nat):Nat:=(u / 2 &&& 85) + (u &&& 85)
def f2 (u:Nat):Nat:=(u / 4 &&& 51) + (u &&& 51)
def f3 (u:Nat):Nat:=(u / 16 + u) &&& 15
theorem low1:∀b,b < 2→∀u,u < 256→(128 * b + u / 2) &&& 85=u / 2 &&& 85:=by decide +kernel
theorem low2:∀b,b < 4→∀u,u < 256→(64 * b + u / 4) &&& 51=u / 4 &&& 51:=by decide +kernel
theorem byte_all:∀u,u < 256→f1 u < 256∧f2 (f1 u) < 256∧f2 (f1 u) % 16≤4∧f2 (f1 u) / 16≤4∧f3 (f2 (f1 u))≤8∧f3 (f2 (f1 u))=((List.range 8).filter fun j=>u.testBit j).length:=by decide +kernel
theorem step1:∀{L:List Nat},(∀u ∈ L,u < 256)→(valB L / 2 &&& valB (List.replicate L.length 85)) + (valB L &&& valB (List.replicate L.length 85))=valB (L.map f1)
 | [],_=>rfl
 | u :: L,h=>by
  have ih:=step1 (L:=L) fun u hu=>h u (by simp [hu])
  have hu:=h u (by simp)
  have e1:valB (u :: L)=2 ^ 8 * valB L + u:=rfl
  have e2:valB (List.replicate (u :: L).length 85)=2 ^ 8 * valB (List.replicate L.length 85) + 85:=rfl
  have e3:valB ((u :: L).map f1)=2 ^ 8 * valB (L.map f1) + f1 u:=rfl
  have e4:(2 ^ 8 * valB L + u) / 2=2 ^ 8 * (valB L / 2) + (128 * (valB L % 2) + u / 2):=by omega
  rw [e1,e2,e3,e4,and_byte (by omega) (by omega),and_byte (by omega) (by omega),low1 _ (by omega) u hu,← ih]
  unfold f1
  omega
theorem step2:∀{L:List Nat},(∀u ∈ L,u < 256)→(valB L / 4 &&& valB (List.replicate L.length 51)) + (valB L &&& valB (List.replicate L.length 51))=valB (L.map f2)
 | [],_=>rfl
 | u :: L,h=>by
  have ih:=step2 (L:=L) fun u hu=>h u (by simp [hu])
  have hu:=h u (by simp)
  have e1:valB (u :: L)=2 ^ 8 * valB L + u:=rfl
  have e2:valB (List.replicate (u :: L).length 51)=2 ^ 8 * valB (List.replicate L.length 51) + 51:=rfl
  have e3:valB ((u :: L).map f2)=2 ^ 8 * valB (L.map f2) + f2 u:=rfl
  have e4:(2 ^ 8 * valB L + u) / 4=2 ^ 8 * (valB L / 4) + (64 * (valB L % 4) + u / 4):=by omega
  rw [e1,e2,e3,e4,and_byte (by omega) (by omega),and_byte (by omega) (by omega),low2 _ (by omega) u hu,← ih]
  unfold f2
  omega
theorem step3:∀{L:List Nat},(∀u ∈ L,u < 256∧u % 16≤4∧u / 16≤4)→(valB L / 16 + valB L) &&& valB (List.replicate L.length 15)=valB (L.map f3)
 | [],_=>rfl
 | u :: L,h=>by
  have ih:=step3 (L:=L) fun u hu=>h u (by simp [hu])
  obtain ⟨hu,hu1,hu2⟩:=h u (by simp)
  have hX:valB L % 16≤4:=by
   cases L with
   | nil=>simp [valB]
   | cons w L =>
    have:=(h w (by simp)).2.1
    show (2 ^ 8 * valB L + w) % 16≤4
    omega
  have e1:valB (u :: L)=2 ^ 8 * valB L + u:=rfl
  have e2:valB (List.replicate (u :: L).length 15)=2 ^ 8 * valB (List.replicate L.length 15) + 15:=rfl
  have e3:valB ((u :: L).map f3)=2 ^ 8 * valB (L.map f3) + f3 u:=rfl
  have e4:(2 ^ 8 * valB L + u) / 16 + (2 ^ 8 * valB L + u)=2 ^ 8 * (valB L / 16 + valB L) + (16 * (valB L % 16) + u / 16 + u):=by omega
  have e5:∀x:Nat,x &&& 15=x % 16:=fun x=>Nat.and_two_pow_sub_one_eq_mod x 4
  rw [e1,e2,e3,e4,and_byte (by omega) (by omega),ih]
  unfold f3
  rw [e5,e5]
  omega
def cntB (n x:Nat):Nat:=((List.range n).filter fun j=>x.testBit j).length
theorem cntB_byte {u X n:Nat} (hu:u < 2 ^ 8):cntB (8 + n) (2 ^ 8 * X + u)=cntB 8 u + cntB n X:=by
 unfold cntB
 rw [List.range_add,List.filter_append,List.length_append,List.filter_map,List.length_map]
 congr 1
 ·congr 1
  refine List.filter_congr fun j hj=>?_
  have:=List.mem_range.1 hj
  rw [Nat.testBit_two_pow_mul_add _ hu,if_pos this]
 ·congr 1
  refine List.filter_congr fun j _=>?_
  simp only [Function.comp]
  rw [Nat.testBit_two_pow_mul_add _ hu,if_neg (by omega)]
  congr 1;omega
theorem cntB_val:∀{L:List Nat},(∀u ∈ L,u < 256)→cntB (8 * L.length) (valB L)=(L.map fun u=>f3 (f2 (f1 u))).sum
 | [],_=>rfl
 | u :: L,h=>by
  have hu:=h u (by simp)
  have ih:=cntB_val (L:=L) fun u hu=>h u (by simp [hu])
  have e1:8 * (u :: L).length=8 + 8 * L.length:=by simp;omega
  rw [e1]
  show cntB (8 + 8 * L.length) (2 ^ 8 * valB L + u)=_
  rw [cntB_byte (by omega),ih,List.map_cons,List.sum_cons,(byte_all u hu).2.2.2.2.2]
  rfl
def ones1 (x:Nat):Nat:=(x / 2 &&& 6148914691236517205) + (x &&& 6148914691236517205)
def ones2 (x:Nat):Nat:=(x / 4 &&& 3689348814741910323) + (x &&& 3689348814741910323)
def ones3 (x:Nat):Nat:=(x / 16 + x) &&& 1085102592571150095
def ones4 (x:Nat):Nat:=x + x / 256
def ones5 (x:Nat):Nat:=x + x / 65536
def ones6 (x:Nat):Nat:=x + x / 4294967296
theorem ones_fin {Y T1 T2 T3 T4 T5 T6 T7 p0 p1 p2 p3 p4 p5 p6:Nat} (h0:Y=256 * T1 + p0) (h1:T1=256 * T2 + p1) (h2:T2=256 * T3 + p2) (h3:T3=256 * T4 + p3) (h4:T4=256 * T5 + p4) (h5:T5=256 * T6 + p5) (h6:T6=256 * T7 + p6)
  (q0:p0≤8) (q1:p1≤8) (q2:p2≤8) (q3:p3≤8) (q4:p4≤8) (q5:p5≤8) (q6:p6≤8) (q7:T7≤8):ones6 (ones5 (ones4 Y)) % 128=p0 + p1 + p2 + p3 + p4 + p5 + p6 + T7:=by
 have e1:ones4 Y=Y + T1:=by unfold ones4;omega
 have a0:Y=65536 * T2 + (256 * p1 + p0):=by omega
 have a1:T1=65536 * T3 + (256 * p2 + p1):=by omega
 have e2:(Y + T1) / 65536=T2 + T3:=by omega
 have e3:ones5 (Y + T1)=Y + T1 + (T2 + T3):=by unfold ones5;rw [e2]
 have b0:Y=4294967296 * T4 + (65536 * (256 * p3 + p2) + (256 * p1 + p0)):=by omega
 have b1:T1=4294967296 * T5 + (65536 * (256 * p4 + p3) + (256 * p2 + p1)):=by omega
 have b2:T2=4294967296 * T6 + (65536 * (256 * p5 + p4) + (256 * p3 + p2)):=by omega
 have b3:T3=4294967296 * T7 + (65536 * (256 * p6 + p5) + (256 * p4 + p3)):=by omega
 have e4:(Y + T1 + (T2 + T3)) / 4294967296=T4 + T5 + (T6 + T7):=by omega
 rw [e1,e3]
 unfold ones6
 rw [e4]
 clear e1 e2 e3 e4 a0 a1 b0 b1 b2 b3
 omega
theorem ones_all {x:Nat} (hx:x < 2 ^ 64):ones1 x < 2 ^ 64∧ones2 (ones1 x) < 2 ^ 64∧ones2 (ones1 x) / 16 + ones2 (ones1 x) < 2 ^ 64∧ones3 (ones2 (ones1 x)) < 2 ^ 60∧ones6 (ones5 (ones4 (ones3 (ones2 (ones1 x))))) % 128=cntB 64 x:=by
 obtain ⟨u0,u1,u2,u3,u4,u5,u6,u7,hv,k0,k1,k2,k3,k4,k5,k6,k7⟩:∃ u0 u1 u2 u3 u4 u5 u6 u7,valB [u0,u1,u2,u3,u4,u5,u6,u7]=x∧u0 < 256∧u1 < 256∧u2 < 256∧u3 < 256∧u4 < 256∧u5 < 256∧u6 < 256∧u7 < 256:=by
  refine ⟨x % 256,x / 256 % 256,x / 256 / 256 % 256,x / 256 / 256 / 256 % 256,x / 256 / 256 / 256 / 256 % 256,x / 256 / 256 / 256 / 256 / 256 % 256,x / 256 / 256 / 256 / 256 / 256 / 256 % 256,x / 256 / 256 / 256 / 256 / 256 / 256 / 256,?_,by omega,by omega,by omega,by omega,by omega,by omega,by omega,by omega⟩
  simp only [valB]
  omega
 generalize hLe:[u0,u1,u2,u3,u4,u5,u6,u7]=L at hv
 have hL:∀u ∈ L,u < 256:=by
  intro u hu
  rw [← hLe] at hu
  simp only [List.mem_cons,List.not_mem_nil,or_false] at hu
  rcases hu with rfl | rfl | rfl | rfl | rfl | rfl | rfl | rfl <;> assumption
 have hlen:L.length=8:=by rw [← hLe];rfl
 have m1:valB (List.replicate 8 85)=6148914691236517205:=by decide
 have m2:valB (List.replicate 8 51)=3689348814741910323:=by decide
 have m3:valB (List.replicate 8 15)=1085102592571150095:=by decide
 have s1:=step1 hL
 rw [hv,hlen,m1] at s1
 have hL1:∀u ∈ L.map f1,u < 256:=by
  intro u hu
  obtain ⟨w,hw,rfl⟩:=List.mem_map.1 hu
  exact (byte_all w (hL w hw)).1
 have s2:=step2 hL1
 rw [← s1,List.length_map,hlen,m2] at s2
 have hL2:∀u ∈ (L.map f1).map f2,u < 256∧u % 16≤4∧u / 16≤4:=by
  intro u hu
  rw [List.map_map] at hu
  obtain ⟨w,hw,rfl⟩:=List.mem_map.1 hu
  have:=byte_all w (hL w hw)
  exact ⟨this.2.1,this.2.2.1,this.2.2.2.1⟩
 have s3:=step3 hL2
 have s1':ones1 x=valB (L.map f1):=s1
 have s2':ones2 (ones1 x)=valB ((L.map f1).map f2):=s2
 rw [← s2',List.length_map,List.length_map,hlen,m3,List.map_map,List.map_map] at s3
 have s3':ones3 (ones2 (ones1 x))=valB (L.map (f3 ∘ (f2 ∘ f1))):=s3
 have hc:=cntB_val hL
 rw [hv,hlen] at hc
 have c0:=byte_all u0 k0
 have c1:=byte_all u1 k1
 have c2:=byte_all u2 k2
 have c3:=byte_all u3 k3
 have c4:=byte_all u4 k4
 have c5:=byte_all u5 k5
 have c6:=byte_all u6 k6
 have c7:=byte_all u7 k7
 rw [← hLe] at s1' s2' s3' hc
 clear s1 s2 s3 hL1 hL2 hL m1 m2 m3 hv hlen hLe L
 simp only [List.map_cons,List.map_nil,List.sum_cons,List.sum_nil,Function.comp,valB] at s1' s2' s3' hc
 rw [show (8 * 8:Nat)=64 from rfl] at hc
 have d0:f2 (f1 u0)≤68:=by omega
 have d1:f2 (f1 u1)≤68:=by omega
 have d2:f2 (f1 u2)≤68:=by omega
 have d3:f2 (f1 u3)≤68:=by omega
 have d4:f2 (f1 u4)≤68:=by omega
 have d5:f2 (f1 u5)≤68:=by omega
 have d6:f2 (f1 u6)≤68:=by omega
 have d7:f2 (f1 u7)≤68:=by omega
 have r1:ones1 x < 2 ^ 64:=by
  rw [s1']
  have:=c0.1;have:=c1.1;have:=c2.1;have:=c3.1;have:=c4.1;have:=c5.1;have:=c6.1;have:=c7.1
  clear c0 c1 c2 c3 c4 c5 c6 c7 s1' s2' s3' hc d0 d1 d2 d3 d4 d5 d6 d7
  omega
 have r2:ones2 (ones1 x)≤68 * 72340172838076673:=by
  rw [s2']
  clear c0 c1 c2 c3 c4 c5 c6 c7 s1' s2' s3' hc
  omega
 have q0:=c0.2.2.2.2.1
 have q1:=c1.2.2.2.2.1
 have q2:=c2.2.2.2.2.1
 have q3:=c3.2.2.2.2.1
 have q4:=c4.2.2.2.2.1
 have q5:=c5.2.2.2.2.1
 have q6:=c6.2.2.2.2.1
 have q7:=c7.2.2.2.2.1
 clear c0 c1 c2 c3 c4 c5 c6 c7 s1' s2' d0 d1 d2 d3 d4 d5 d6 d7
 generalize f3 (f2 (f1 u0))=p0 at *
 generalize f3 (f2 (f1 u1))=p1 at *
 generalize f3 (f2 (f1 u2))=p2 at *
 generalize f3 (f2 (f1 u3))=p3 at *
 generalize f3 (f2 (f1 u4))=p4 at *
 generalize f3 (f2 (f1 u5))=p5 at *
 generalize f3 (f2 (f1 u6))=p6 at *
 generalize f3 (f2 (f1 u7))=p7 at *
 have r3:ones3 (ones2 (ones1 x)) < 2 ^ 60:=by
  rw [s3']
  clear hc r1 r2 s3'
  omega
 refine ⟨r1,by omega,by omega,r3,?_⟩
 rw [hc,s3']
 have:=ones_fin (Y:=2 ^ 8 * (2 ^ 8 * (2 ^ 8 * (2 ^ 8 * (2 ^ 8 * (2 ^ 8 * (2 ^ 8 * (2 ^ 8 * 0 + p7) + p6) + p5) + p4) + p3) + p2) + p1) + p0) rfl rfl rfl rfl rfl rfl rfl q0 q1 q2 q3 q4 q5 q6 (show 2 ^ 8 * 0 + p7≤8 by omega)
 rw [this]
 omega
theorem i64and7 (a:Nat) (ha:a < 2 ^ 62):iand .i64 (a:Int) 127=((a % 128:Nat):Int):=by
 have e0:IntKind.i64.bits=64:=rfl
 have h:a &&& 127=a % 128:=Nat.and_two_pow_sub_one_eq_mod a 7
 have e1:((127:Nat):Int)=127:=rfl
 rw [iand,e0,← e1,BitVec.ofInt_natCast,BitVec.ofInt_natCast,BitVec.toNat_and,BitVec.toNat_ofNat,BitVec.toNat_ofNat,Nat.mod_eq_of_lt (by omega),Nat.mod_eq_of_lt (by omega),h]
 rw [wrap_in (by omega)]
theorem shr_at {x k d:Nat} (hx:x < 2 ^ 64) (hk:k < 64) (hd:2 ^ k=d):ishift .shr .u64 (x:Int) (k:Int)=some (.int .u64 ((x / d:Nat):Int)):=by
 have:=u64shift x k hx hk
 rw [Nat.shiftRight_eq_div_pow,hd] at this
 exact this
theorem bits_Ones (x:Nat) (hx:x < 2 ^ 64):Ret P g false 68 [.int .u64 (x:Int)] (.int .i64 (cntB 64 x:Nat)):=by
 refine Ret.in c68 (by simp) ?_
 obtain ⟨b1,b2,b3,b4,hfin⟩:=ones_all hx
 rw [← hfin]
 clear hfin
 have d1:ishift .shr .u64 (x:Int) 1=some (.int .u64 ((x / 2:Nat):Int)):=shr_at (k:=1) hx (by omega) rfl
 have a1:iand .u64 ((x / 2:Nat):Int) 6148914691236517205=((x / 2 &&& 6148914691236517205:Nat):Int):=u64and (x / 2) 6148914691236517205 (by omega) (by decide)
 have a1':iand .u64 (x:Int) 6148914691236517205=((x &&& 6148914691236517205:Nat):Int):=u64and x 6148914691236517205 hx (by decide)
 have w1:IntKind.u64.wrap (((x / 2 &&& 6148914691236517205:Nat):Int) + ((x &&& 6148914691236517205:Nat):Int))=((ones1 x:Nat):Int):=by
  have:ones1 x=(x / 2 &&& 6148914691236517205) + (x &&& 6148914691236517205):=rfl
  rw [u64_in (by omega),this];omega
 generalize ones1 x=x1 at *
 generalize x / 2 &&& 6148914691236517205=p1 at *
 generalize x &&& 6148914691236517205=q1 at *
 generalize x / 2=y1 at *
 have d2:ishift .shr .u64 (x1:Int) 2=some (.int .u64 ((x1 / 4:Nat):Int)):=shr_at (k:=2) b1 (by omega) rfl
 have a2:iand .u64 ((x1 / 4:Nat):Int) 3689348814741910323=((x1 / 4 &&& 3689348814741910323:Nat):Int):=u64and (x1 / 4) 3689348814741910323 (by omega) (by decide)
 have a2':iand .u64 (x1:Int) 3689348814741910323=((x1 &&& 3689348814741910323:Nat):Int):=u64and x1 3689348814741910323 b1 (by decide)
 have w2:IntKind.u64.wrap (((x1 / 4 &&& 3689348814741910323:Nat):Int) + ((x1 &&& 3689348814741910323:Nat):Int))=((ones2 x1:Nat):Int):=by
  have:ones2 x1=(x1 / 4 &&& 3689348814741910323) + (x1 &&& 3689348814741910323):=rfl
  rw [u64_in (by omega),this];omega
 generalize ones2 x1=x2 at *
 generalize x1 / 4 &&& 3689348814741910323=p2 at *
 generalize x1 &&& 3689348814741910323=q2 at *
 generalize x1 / 4=y2 at *
 have d3:ishift .shr .u64 (x2:Int) 4=some (.int .u64 ((x2 / 16:Nat):Int)):=shr_at (k:=4) b2 (by omega) rfl
 have w3:IntKind.u64.wrap (((x2 / 16:Nat):Int) + (x2:Int))=((x2 / 16 + x2:Nat):Int):=by
  rw [u64_in (by omega)];omega
 have a3:iand .u64 ((x2 / 16 + x2:Nat):Int) 1085102592571150095=((ones3 x2:Nat):Int):=u64and (x2 / 16 + x2) 1085102592571150095 b3 (by decide)
 generalize ones3 x2=x3 at *
 generalize x2 / 16 + x2=z3 at *
 generalize x2 / 16=y3 at *
 have d4:ishift .shr .u64 (x3:Int) 8=some (.int .u64 ((x3 / 256:Nat):Int)):=shr_at (k:=8) (by omega) (by omega) rfl
 have w4:IntKind.u64.wrap ((x3:Int) + ((x3 / 256:Nat):Int))=((ones4 x3:Nat):Int):=by
  have:ones4 x3=x3 + x3 / 256:=rfl
  rw [u64_in (by omega),this];omega
 have b5:ones4 x3 < 2 ^ 61:=by unfold ones4;omega
 generalize ones4 x3=x4 at *
 generalize x3 / 256=y4 at *
 have d5:ishift .shr .u64 (x4:Int) 16=some (.int .u64 ((x4 / 65536:Nat):Int)):=shr_at (k:=16) (by omega) (by omega) rfl
 have w5:IntKind.u64.wrap ((x4:Int) + ((x4 / 65536:Nat):Int))=((ones5 x4:Nat):Int):=by
  have:ones5 x4=x4 + x4 / 65536:=rfl
  rw [u64_in (by omega),this];omega
 have b6:ones5 x4 < 2 ^ 61 + 2 ^ 60:=by unfold ones5;omega
 generalize ones5 x4=x5 at *
 generalize x4 / 65536=y5 at *
 have d6:ishift .shr .u64 (x5:Int) 32=some (.int .u64 ((x5 / 4294967296:Nat):Int)):=shr_at (k:=32) (by omega) (by omega) rfl
 have w6:IntKind.u64.wrap ((x5:Int) + ((x5 / 4294967296:Nat):Int))=((ones6 x5:Nat):Int):=by
  have:ones6 x5=x5 + x5 / 4294967296:=rfl
  rw [u64_in (by omega),this];omega
 have b7:ones6 x5 < 2 ^ 62:=by unfold ones6;omega
 generalize ones6 x5=x6 at *
 generalize x5 / 4294967296=y6 at *
 have c6:IntKind.i64.wrap (x6:Int)=(x6:Int):=by rw [wrap_in (by omega)]
 have a6:=i64and7 x6 b7
 generalize x6 % 128=r at *
 simp [k68,d1,a1,a1',w1,d2,a2,a2',w2,d3,w3,a3,d4,w4,d5,w5,d6,w6,c6,a6]
 exact RK.stab rfl
theorem bits_Count (s:BSet) (hs:s.OK):Ret P g false 32 [encB s] (.int .i64 (s.list.length:Nat)):=by
 refine Ret.in c32 (by simp) ?_
 have hnw:=nw_le hs.n
 have hsl:=hs.len
 simp [k32]
 refine (bits_sane s hs).use (n:=9) (by simp [mapOpt]) rfl ?_
 simp
 refine W.whileI (fun (k:Nat) F S=>k≤s.ws.length∧F 3=.int .i64 ((s.listTo k).length:Nat)∧F 8=.fsl 1 (els u64c s.ws)∧F 9=.int .i64 s.ws.length∧F 10=.int .i64 k) (fun k=>s.ws.length - k) ?_ 0 _ _ ?_
 ·rintro k F S ⟨hk,f3,f8,f9,f10⟩
  by_cases hlt:k < s.ws.length
  ·have e4:=wrapS k (by omega)
   have hfs:FSl u64c 1 (.fsl 1 (els u64c s.ws)) s.ws:=.inl rfl
   obtain ⟨x,hx⟩:∃ x,s.ws[k]?=some x:=⟨_,List.getElem?_eq_getElem hlt⟩
   have hst:(s.listTo (k + 1)).length=(s.listTo k).length + cntB 64 x:=by
    rw [BSet.listTo_succ hx,List.length_append,List.length_map];rfl
   have hl:=s.listTo_len (k + 1)
   have e5:IntKind.i64.wrap (((s.listTo k).length:Int) + (cntB 64 x:Nat))=((s.listTo (k + 1)).length:Int):=by
    rw [wrap_in (by omega)];omega
   have hxl:=hs.lt x (List.mem_of_getElem? hx)
   have hone:=bits_Ones (g:=g) x hxl
   generalize cntB 64 x=c at *
   generalize (s.listTo k).length=A at *
   simp [f9,f10,hlt]
   simp [f8,f10,hfs.idx hx,u64c,f3]
   refine hone.use (n:=9) (by simp [mapOpt]) rfl ?_
   simp [f3,f8,f9,f10,e4,e5]
   exact ⟨k + 1,by omega,by omega,by omega,by omega⟩
  ·have:k=s.ws.length:=by omega
   subst this
   simp [f9,f10,f3]
   exact RK.stab rfl
 ·simp
  simp [BSet.listTo]
end Go.Proofs.YtbhkamemheaajaaGreatDoor.Vm
namespace Go.Proofs.YtbhkamemheaajaaGreatDoor.Vm
open Go Go.RowKit
set_option maxRecDepth 100000
variable {N:Nat} {g:Glob}
theorem own_nw {S0 S:St} {v:AV} {l:List Int} (h:(l=[]∧v=.nilsl∧S=S0) ∨ (v=.sl 1 S0.next 0 l.length∧S=S0.new (.row 1 (els intc l)))):Nw S0 S v l:=by
 rcases h with ⟨rfl,rfl,rfl⟩ | ⟨rfl,rfl⟩
 ·exact ⟨.inl ⟨rfl,rfl⟩,Up.refl _,fun q c e=>by cases e⟩
 ·exact ⟨.inr ⟨S0.next,rfl,by simp,by simp⟩,Up.new _ _,fun q c e=>by cases e;exact Nat.le_refl _⟩
theorem rw_pict {S:St} {v:AV} {l:List Int} (h:Rw intc 1 S v l) (n:Nat):∃ y,FSl intc 1 y l∧Vm.pict S [] (n + 2) v=some y:=by
 rcases h with ⟨rfl,rfl⟩ | ⟨o,rfl,_,ho⟩
 ·exact ⟨.nilsl,FSl.nil,rfl⟩
 ·refine ⟨.fsl 1 (els intc l),FSl.mk,pict_row ho (by simp) (by simp) fun k e he=>?_⟩
  rw [he]
  simp only [els,List.getElem?_map] at he
  cases hx:l[k]? with
  | none=>rw [hx] at he;cases he
  | some x=>rw [hx] at he;cases he;simp [intc]
noncomputable def Prg.unq (p:Prg) (i j k m v:Int):Bool:=decide (v < m) || decide (0 < (p.ofD i j k v).length)
theorem defs_UnsetF {p:Prg} (hp:p.Fit) {i j k x:Int} {f:Fun} {a q0 q1 q2 q3:Nat} {S:St} {K:AV→St→Prop} (ha:S.obj a=some (.row 3 [func f])) (h0:S.obj q0=some (.row 1 [[p.funsV]])) (h1:S.obj q1=some (.row 1 [[.int .i64 i]])) (h2:S.obj q2=some (.row 1 [[.int .i64 j]])) (h3:S.obj q3=some (.row 1 [[.int .i64 k]])) (hk:K (.bool (p.unq i j k f.par x)) S):Cal P (gl N) 67 [.int .i64 x,.ptr a 0 0,.ptr q0 0 0,.ptr q1 0 0,.ptr q2 0 0,.ptr q3 0 0] S K:=by
 refine c67.in (by simp) ?_
 have hof:FSl intc 1 (encF intc 1 (p.ofD i j k x)) (p.ofD i j k x):=encF_sl
 by_cases hx:x < f.par
 ·have hu:p.unq i j k f.par x=true:=by simp [Prg.unq,hx]
  rw [hu] at hk
  simp [k67,ha,hx]
  exact hk
 ·have hu:p.unq i j k f.par x=decide (0 < (p.ofD i j k x).length):=by simp [Prg.unq,hx]
  rw [hu] at hk
  simp [k67,ha,hx,h0,h1,h2,h3]
  refine (defs_Of p i j k x hp).use (n:=9) (by simp [mapOpt,pict_stab p.funsS.stab]) (by simp [solids,AV.solid,p.funsS.solid]) ?_
  simp [hof.len]
  simpa using hk
noncomputable def Prg.unset (p:Prg) (i j k:Int):List Int:=match p.inst i j k with
 | none=>[]
 | some x=>x.uses.filter fun v=>!p.unq i j k ((p.fn i).getD Fun.none).par v
theorem defs_Unset (p:Prg) (i j k:Int) (hp:p.Fit):RetE P (gl N) false 30 [encP p,.int .i64 i,.int .i64 j,.int .i64 k] (fun y=>FSl intc 1 y (p.unset i j k)):=by
 refine RetE.in c30 (by simp) ?_
 simp [k30]
 refine (prog_At p i j k hp).use (n:=9) (by simp [mapOpt,pict_stab p.funsS.stab]) (by simp [solids,AV.solid,p.funsS.solid]) ?_
 cases hx:p.inst i j k with
 | none =>
  have hu:p.unset i j k=[]:=by simp [Prg.unset,hx]
  rw [hu]
  simp
  exact ⟨.nilsl,FSl.nil,1,rfl⟩
 | some x =>
  have hu:p.unset i j k=x.uses.filter fun v=>!p.unq i j k ((p.fn i).getD Fun.none).par v:=by simp [Prg.unset,hx]
  rw [hu]
  have hul:=uses_len x
  simp
  refine (prog_Fun p i hp).use (n:=9) (by simp [mapOpt,pict_stab p.funsS.stab]) (by simp [solids,AV.solid,p.funsS.solid]) ?_
  simp
  refine (instr_Uses x).use (n:=9) ?_ ?_
  ·rfl
  intro v S hv hS
  have hnw:=own_nw hS
  simp
  refine DeleteFunc_nw hnw (by omega) (p.unq i j k ((p.fn i).getD Fun.none).par) ?_ fun w S' hw=>?_
  ·intro y hy S' hup K' hK'
   have u0:=hup.2 0 (by simp)
   have u1:=hup.2 1 (by simp)
   have u2:=hup.2 2 (by simp)
   have u3:=hup.2 3 (by simp)
   have u5:=hup.2 5 (by simp)
   simp at u0 u1 u2 u3 u5
   simp
   exact defs_UnsetF hp u5 u0 u1 u2 u3 (hK' _ (Up.refl _))
  ·obtain ⟨y,hy,hpy⟩:=rw_pict hw.1 7
   simp
   exact ⟨y,hy,9,hpy⟩
theorem pofD_mem {p:Prg} {i j k v d:Int} (h:d ∈ p.ofD i j k v):0≤d∧(p.dat i j k).mem d.toNat=true∧d ∈ p.defs i v:=by
 have hd:=p.dat_ok i j k
 have h1:(BSet.ofL 96 (p.defs i v)).OK:=BSet.ofL_ok (by omega) _
 unfold Prg.ofD at h
 rw [BSet.list_mem (BSet.meet_ok hd.1 h1),BSet.meet_mem hd.1 h1,BSet.ofL_mem (by omega)] at h
 simp only [Bool.and_eq_true,decide_eq_true_eq] at h
 obtain ⟨h0,h2,_,h4⟩:=h
 have e:((d.toNat:Nat):Int)=d:=by omega
 rw [e] at h4
 exact ⟨h0,h2,h4⟩
theorem pofD_has {p:Prg} {i j k v d:Int} (h:d ∈ p.ofD i j k v):((p.dat i j k).isB d && (p.dat i j k).mem d.toNat)=true:=by
 obtain ⟨h0,h1,_⟩:=pofD_mem h
 have hd:=p.dat_ok i j k
 have:d.toNat < 96:=by
  apply Classical.byContradiction
  intro hno
  rw [BSet.mem_top hd.1 (by rw [hd.2];omega)] at h1
  cases h1
 rw [h1]
 simp [BSet.isB,hd.2];omega
noncomputable def Prg.own (p:Prg) (i j k:Int):Nat→Nat
 | 0=>0
 | v + 1=>p.own i j k v + (p.ofD i j k (v:Int)).length
theorem own_ownTo {p:Prg} {i:Int} {f:Fun} (hf:p.fn i=some f) (j k:Int):∀n:Nat,p.own i j k n=f.ownTo (p.dat i j k) n
 | 0=>rfl
 | n + 1=>by
  have hd:p.defs i (n:Int)=f.dids (n:Int):=by simp [Prg.defs,hf]
  rw [Prg.own,Fun.ownTo,own_ownTo hf j k n,Prg.ofD,hd]
  rfl
theorem ownTo_new {f:Fun}:∀n:Nat,f.ownTo (BSet.new 96) n=0
 | 0=>rfl
 | n + 1=>by rw [Fun.ownTo,ownTo_new n,ofD_new];rfl
theorem list_le {s:BSet}:s.list.length≤64 * s.ws.length:=by
 unfold BSet.list BSet.listTo
 rw [List.length_map]
 have:=List.length_filter_le s.mem (List.range (64 * s.ws.length))
 rwa [List.length_range] at this
theorem dat_cases (p:Prg) (i j k:Int) {f:Fun} (hf:p.fn i=some f):p.dat i j k=BSet.new 96 ∨ ∃ a b:Nat,p.dat i j k=f.dat a b:=by
 unfold Prg.dat
 rw [hf]
 simp only
 split
 ·exact .inl rfl
 ·split
  ·exact .inr ⟨_,_,rfl⟩
  ·exact .inl rfl
theorem own_facts (p:Prg) (i j k:Int):∃ nv:Nat,((p.fn i).getD Fun.none).vars=(nv:Int)∧nv≤6∧(∀n,n≤nv→p.own i j k n≤128)∧p.own i j k nv=(p.dat i j k).list.length∧((p.fn i).isSome=false→(p.dat i j k).list.length=0∧nv=0):=by
 cases hf:p.fn i with
 | none =>
  have hd:p.dat i j k=BSet.new 96:=by unfold Prg.dat;rw [hf]
  have hl:(p.dat i j k).list.length=0:=by rw [hd,new_list 96 (by omega)];rfl
  refine ⟨0,rfl,by omega,fun n hn=>?_,?_,fun _=>⟨hl,rfl⟩⟩
  ·have:n=0:=by omega
   subst this
   exact Nat.zero_le _
  ·rw [hl];rfl
 | some f =>
  have hok:=fn_ok hf
  have hvo:=hok.vars
  obtain ⟨nv,hnv⟩:∃ n:Nat,f.vars=(n:Int):=⟨f.vars.toNat,by have:=hvo.1;have:=hvo.2.2.1;omega⟩
  have hnv6:nv≤6:=by have:=hvo.2.2.2;omega
  have hdo:=p.dat_ok i j k
  have hll:(p.dat i j k).list.length≤128:=by
   have h1:=list_le (s:=p.dat i j k)
   have h2:(p.dat i j k).ws.length=2:=by rw [hdo.1.len,hdo.2];rfl
   omega
  refine ⟨nv,hnv,hnv6,fun n hn=>?_,?_,fun h=>by cases h⟩
  ·rw [own_ownTo hf,ownTo_eq hf hdo]
   exact Nat.le_trans (List.length_filter_le _ _) hll
  ·rw [own_ownTo hf]
   rcases dat_cases p i j k hf with h | ⟨a,b,h⟩
   ·rw [h,ownTo_new,new_list 96 (by omega)];rfl
   ·rw [h];exact ownTo_all hf (by omega)
theorem unset_mem {p:Prg} {i j k v:Int} (h:v ∈ p.unset i j k):∃ x,p.inst i j k=some x∧v ∈ x.uses∧¬ v < ((p.fn i).getD Fun.none).par∧(p.ofD i j k v).length=0:=by
 unfold Prg.unset at h
 split at h
 ·cases h
 ·rename_i x hx
  rw [List.mem_filter] at h
  obtain ⟨h1,h2⟩:=h
  simp [Prg.unq] at h2
  exact ⟨x,hx,h1,by omega,by rw [h2.2];rfl⟩
theorem unset_none {p:Prg} {i j k:Int} (h:p.inst i j k=none):p.unset i j k=[]:=by simp [Prg.unset,h]
theorem unset_len (p:Prg) (i j k:Int):(p.unset i j k).length < 2 ^ 40:=by
 unfold Prg.unset
 split
 ·simp
 ·rename_i x _
  have h1:=List.length_filter_le (fun v=>!p.unq i j k ((p.fn i).getD Fun.none).par v) x.uses
  have h2:=uses_len x
  omega
theorem law_DefsOwn (p:Prg) (i j k:Int):Ret P (gl N) false 6 [encP p,.int .i64 i,.int .i64 j,.int .i64 k] (.bool true):=by
 refine Ret.in c6 (by simp) ?_
 simp [k6]
 refine (awake18_ret).use (n:=9) (by rfl) rfl ?_
 simp
 refine (ref06_Few p).use (n:=9) (by simp [mapOpt,pict_stab p.funsS.stab]) (by simp [solids,AV.solid,p.funsS.solid]) ?_
 cases hfew:p.few
 ·simp
  exact RK.eq rfl rfl
 have hp:=Prg.few_fit hfew
 simp
 refine (prog_Sane p hp).use (n:=9) (by simp [mapOpt,pict_stab p.funsS.stab]) (by simp [solids,AV.solid,p.funsS.solid]) ?_
 cases hsane:p.sane
 ·simp
  exact RK.eq rfl rfl
 simp
 refine (defs_At p i j k hp).use (n:=9) (by simp [mapOpt,pict_stab p.funsS.stab]) (by simp [solids,AV.solid,p.funsS.solid]) ?_
 simp
 refine (prog_Fun p i hp).use (n:=9) (by simp [mapOpt,pict_stab p.funsS.stab]) (by simp [solids,AV.solid,p.funsS.solid]) ?_
 obtain ⟨nv,hnv,hnv6,hown,hall,hno⟩:=own_facts p i j k
 have hdo:=p.dat_ok i j k
 have hus:=@unset_mem p i j k
 generalize (p.fn i).getD Fun.none=f at *
 generalize (p.fn i).isSome=okf at *
 simp
 refine W.whileI (fun (v:Nat) F S=>v≤nv∧F 1=.int .i64 i∧F 2=.int .i64 j∧F 3=.int .i64 k∧F 4=.ptr 0 0 0∧F 9=.bool true∧F 10=.ptr 1 0 0∧F 11=.ptr 2 0 0∧F 12=.bool okf∧F 13=.int .i64 (p.own i j k v:Nat)∧F 14=.int .i64 v ∧
  S.obj 0=some (.row 1 [[p.funsV]])∧S.obj 1=some (.row 2 [setc (p.dat i j k)])∧S.obj 2=some (.row 3 [func f])∧S.next=3) (fun v=>nv - v) ?_ 0 _ _ ?_
 ·rintro v F S ⟨hv,f1,f2,f3,f4,f9,f10,f11,f12,f13,f14,s0,s1,s2,sn⟩
  simp [f11,f14,s2,hnv]
  by_cases hlt:v < nv
  ·have e4:=wrapS v (by omega)
   have hmf:FSl intc 1 (encF intc 1 (p.defs i v)) (p.defs i v):=encF_sl
   have hml:=defs_len (p:=p) (i:=i) (v:=v)
   have hof:FSl intc 1 (encF intc 1 (p.ofD i j k v)) (p.ofD i j k v):=encF_sl
   have ho1:=hown (v + 1) (by omega)
   have ho2:p.own i j k (v + 1)=p.own i j k v + (p.ofD i j k v).length:=rfl
   have e5:IntKind.i64.wrap ((p.own i j k v:Int) + ((p.ofD i j k v).length:Int))=((p.own i j k (v + 1):Nat):Int):=by rw [wrap_in (by omega)];omega
   simp [hlt,f1,f2,f3,f4,f14,s0]
   refine (prog_Defs p i v hp).ret.use (n:=9) (by simp [mapOpt,pict_stab p.funsS.stab]) rfl ?_
   simp [f1,f2,f3,f4,f14,s0]
   refine (defs_Of p i j k v hp).use (n:=9) (by simp [mapOpt,pict_stab p.funsS.stab]) (by simp [solids,AV.solid,p.funsS.solid]) ?_
   simp [f13,hof.len,e5]
   refine W.whileI (fun (q:Nat) F S=>q≤(p.ofD i j k v).length∧F 1=.int .i64 i∧F 2=.int .i64 j∧F 3=.int .i64 k∧F 4=.ptr 0 0 0∧F 9=.bool true∧F 10=.ptr 1 0 0∧F 11=.ptr 2 0 0∧F 12=.bool okf∧F 13=.int .i64 (p.own i j k (v + 1):Nat)∧F 14=.int .i64 v ∧
    F 15=encF intc 1 (p.defs i v)∧F 16=encF intc 1 (p.ofD i j k v)∧F 17=.int .i64 q ∧
    S.obj 0=some (.row 1 [[p.funsV]])∧S.obj 1=some (.row 2 [setc (p.dat i j k)])∧S.obj 2=some (.row 3 [func f])∧S.next=3) (fun q=>(p.ofD i j k v).length - q) ?_ 0 _ _ ?_
   ·clear f1 f2 f3 f4 f9 f10 f11 f12 f13 f14 s0 s1 s2 sn
    rintro q F S ⟨hq,f1,f2,f3,f4,f9,f10,f11,f12,f13,f14,f15,f16,f17,s0,s1,s2,sn⟩
    simp [f16,f17,hof.len]
    by_cases hql:q < (p.ofD i j k v).length
    ·have e6:=wrapS q (by omega)
     obtain ⟨d,hd⟩:∃ d,(p.ofD i j k v)[q]?=some d:=⟨_,List.getElem?_eq_getElem hql⟩
     have hdm:=pofD_mem (List.mem_of_getElem? hd)
     have hdh:=pofD_has (List.mem_of_getElem? hd)
     simp [hql]
     refine Dra.auto [] mix ?_ ?_
     ·kernel_rfl
     simp [classes,f10,f15,f16,f17,s1,hof.idx hd,intc]
     refine (ref10_Has (p.defs i v) d _ hmf (by omega)).b (n:=9) (by simp [mapOpt,pict_stab hmf.stab]) (by simp [solids,AV.solid,hmf.solid]) ?_
     rw [decide_eq_true hdm.2.2]
     simp [f10,f15,f16,f17,s1,hof.idx hd,intc]
     refine (bits_Has (p.dat i j k) d hdo.1).b (n:=9) (by simp [mapOpt]) rfl ?_
     rw [hdh]
     simp [f1,f2,f3,f4,f9,f10,f11,f12,f13,f14,f15,f16,f17,e6]
     exact ⟨q + 1,by omega,by omega,by omega,s0,s1,s2,sn⟩
    ·simp [hql,f1,f2,f3,f4,f9,f10,f11,f12,f13,f14,e4]
     exact ⟨v + 1,by omega,by omega,by omega,by omega,s0,s1,by simp [s2,hnv],sn⟩
   ·simp [f1,f2,f3,f4,f9,f10,f11,f12,f14]
    exact ⟨s0,s1,s2,sn⟩
  ·have:v=nv:=by omega
   subst this
   simp [hlt,f1,f2,f3,f4,s0]
   refine (prog_At p i j k hp).use (n:=9) (by simp [mapOpt,pict_stab p.funsS.stab]) (by simp [solids,AV.solid,p.funsS.solid]) ?_
   simp [f1,f2,f3,f4,s0,sn]
   refine (defs_Unset p i j k hp).use (n:=9) (by simp [mapOpt,pict_stab p.funsS.stab]) (by simp [solids,AV.solid,p.funsS.solid]) ?_
   rintro y hy
   have hul:=unset_len p i j k
   simp
   refine W.whileI (fun (q:Nat) F S=>q≤(p.unset i j k).length∧F 1=.int .i64 i∧F 2=.int .i64 j∧F 3=.int .i64 k∧F 4=.ptr 0 0 0∧F 9=.bool true∧F 10=.ptr 1 0 0∧F 11=.ptr 2 0 0∧F 12=.bool okf∧F 13=.int .i64 (p.own i j k v:Nat) ∧
    F 18=.ptr 3 0 0∧F 19=.bool (p.inst i j k).isSome∧F 20=y∧F 21=.int .i64 q ∧
    S.obj 0=some (.row 1 [[p.funsV]])∧S.obj 1=some (.row 2 [setc (p.dat i j k)])∧S.obj 2=some (.row 3 [func f])∧S.obj 3=some (.row 11 [insc ((p.inst i j k).getD Ins.zero)])) (fun q=>(p.unset i j k).length - q) ?_ 0 _ _ ?_
   ·clear f1 f2 f3 f4 f9 f10 f11 f12 f13 f14 s0 s1 s2 sn
    rintro q F S ⟨hq,f1,f2,f3,f4,f9,f10,f11,f12,f13,f18,f19,f20,f21,s0,s1,s2,s3⟩
    simp [f20,f21,hy.len]
    by_cases hql:q < (p.unset i j k).length
    ·have e6:=wrapS q (by omega)
     obtain ⟨d,hd⟩:∃ d,(p.unset i j k)[q]?=some d:=⟨_,List.getElem?_eq_getElem hql⟩
     obtain ⟨x,hx,hxu,hxp,hxo⟩:=hus (List.mem_of_getElem? hd)
     have huf:FSl intc 1 (encF intc 1 x.uses) x.uses:=encF_sl
     have huxl:=uses_len x
     have hof:FSl intc 1 (encF intc 1 (p.ofD i j k d)) (p.ofD i j k d):=encF_sl
     rw [hx] at s3
     simp only [Option.getD_some] at s3
     simp [hql]
     refine Dra.auto [] mix ?_ ?_
     ·kernel_rfl
     simp [classes,f11,f18,f20,f21,s2,s3,hy.idx hd,intc,hxp]
     refine (instr_Uses x).ret.b (n:=9) (by rfl) rfl ?_
     simp [f20,f21,hy.idx hd,intc]
     refine (ref10_Has x.uses d _ huf (by omega)).b (n:=9) (by simp [mapOpt,pict_stab huf.stab]) (by simp [solids,AV.solid,huf.solid]) ?_
     rw [decide_eq_true hxu]
     simp [f1,f2,f3,f4,f20,f21,s0,hy.idx hd,intc]
     refine (defs_Of p i j k d hp).b (n:=9) (by simp [mapOpt,pict_stab p.funsS.stab]) (by simp [solids,AV.solid,p.funsS.solid]) ?_
     simp [hof.len,hxo,f1,f2,f3,f4,f9,f10,f11,f12,f13,f18,f19,f20,f21,e6]
     exact ⟨q + 1,by omega,by omega,by omega,s0,s1,s2,by rw [s3,hx];rfl⟩
    ·have hql0:q=(p.unset i j k).length:=by omega
     simp [hql,f9,f10,f13,s1]
     refine (bits_Count (p.dat i j k) hdo.1).use (n:=9) (by simp [mapOpt]) rfl ?_
     rw [hall]
     cases hin:p.inst i j k with
     | none =>
      have hu0:=unset_none hin
      cases okf with
      | true =>
       simp [f10,f12,f13,f19,f20,s1,hin,hdo.2,hy.len,hu0,hall]
       exact RK.eq rfl rfl
      | false =>
       obtain ⟨hz,_⟩:=hno rfl
       simp [f10,f12,f13,f19,f20,s1,hin,hdo.2,hy.len,hu0,hall,hz]
       exact RK.eq rfl rfl
     | some x =>
      cases okf with
      | true =>
       simp [f10,f12,f13,f19,f20,s1,hin,hdo.2,hy.len,hall]
       exact RK.eq rfl rfl
      | false =>
       obtain ⟨hz,_⟩:=hno rfl
       simp [f10,f12,f13,f19,f20,s1,hin,hdo.2,hy.len,hall,hz]
       exact RK.eq rfl rfl
   ·simp [f1,f2,f3,f4,f9,f10,f11,f12,f13,s0,s1,s2,sn]
 ·simp [hnv]
  rfl
end Go.Proofs.YtbhkamemheaajaaGreatDoor.Vm
