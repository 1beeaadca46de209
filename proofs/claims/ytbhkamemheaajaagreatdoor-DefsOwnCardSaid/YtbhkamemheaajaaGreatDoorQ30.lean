/- A part of the proof: Au. -/
import Derived.Test.YtbhkamemheaajaaGreatDoorQ29
set_option linter.unusedVariables false
set_option linter.unusedSimpArgs false
set_option linter.constructorNameAsVariable false
namespace Go.Proofs.YtbhkamemheaajaaGreatDoor.Vm
open Go Go.RowKit
set_option maxRecDepth 100000
variable {N:Nat} {g:Glob}
theorem VR.agg_inv {C:Ctx} {v:Value} {cs:List AV} (h:VR C v (.agg cs)):∃ vs:List Value,v=.agg vs.toArray∧VRs C vs cs:=by
 cases h with
 | agg vs _ h=>exact ⟨vs,rfl,h⟩
theorem Cal.preF {f:Nat} {x x2:AV} {rest:List AV} {S S2:St} {o:Nat} {K:AV→St→Prop} (hx:FrV S o x x2) (hz:Fzn S S2 o) (h:Cal P g f (.agg [x2] :: rest) S2 K):Cal P g f (.agg [x] :: rest) S K:=by
 refine ⟨h.1,?_⟩
 intro vs C hS hR hvs hN hG
 subst hS
 have hL:=le_fzn hz
 have hvs2:VRs { C with S:=S2 } vs (.agg [x2] :: rest):=by
  cases hvs with
  | cons v y vs xs hv hs =>
   obtain ⟨us,rfl,hu⟩:=hv.agg_inv
   cases hu with
   | cons u y us xs hu hus =>
    cases hus
    exact .cons _ _ _ _ (.agg _ _ (.cons _ _ _ _ (FrV.vr hR hz hu hx) .nil)) (hs.mono hL)
 refine Calls.mono (h.2 vs { C with S:=S2 } rfl (rel_fzn hR hz) hvs2 hN hG) ?_
 rintro e w' ⟨v,av,C',rfl,hq,h1,h2,h3,h4⟩
 exact ⟨v,av,C',rfl,hq,h1,hL.trans h2,h3,h4⟩
noncomputable def Prg.ofD (p:Prg) (i j k v:Int):List Int:=((p.dat i j k).meet (BSet.ofL 96 (p.defs i v))).list
theorem defs_len {p:Prg} {i v:Int}:(p.defs i v).length≤192:=by
 unfold Prg.defs
 cases hf:p.fn i with
 | none=>simp
 | some f =>
  simp only
  split
  ·simp
  ·exact (fn_ok hf).dids_len v
theorem defs_Of (p:Prg) (i j k v:Int) (hp:p.Fit):Ret P (gl N) false 22 [encP p,.int .i64 i,.int .i64 j,.int .i64 k,.int .i64 v] (encF intc 1 (p.ofD i j k v)):=by
 refine Ret.in c22 (by simp) ?_
 have hdo:=p.dat_ok i j k
 have hofl:(BSet.ofL 96 (p.defs i v)).OK:=BSet.ofL_ok (by omega) _
 have hmf:FSl intc 1 (encF intc 1 (p.defs i v)) (p.defs i v):=encF_sl
 have hdl:=defs_len (p:=p) (i:=i) (v:=v)
 simp [k22]
 refine Dra.auto [] mix ?_ ?_
 ·kernel_rfl
 simp [classes]
 refine (defs_At p i j k hp).b (n:=9) (by simp [mapOpt,pict_stab p.funsS.stab]) (by simp [solids,AV.solid,p.funsS.solid]) ?_
 simp
 refine (prog_Defs p i v hp).ret.b (n:=9) (by simp [mapOpt,pict_stab p.funsS.stab]) rfl ?_
 simp
 refine (ofW_ret (w:=96) (by omega) hmf (by omega)).b (n:=9) (by simp [mapOpt,pict_stab hmf.stab]) rfl ?_
 simp
 refine (meet_ret hdo.1 hofl).b (n:=9) (by simp [mapOpt]) rfl ?_
 simp
 refine (bits_List _ (BSet.meet_ok hdo.1 hofl)).ret.b (n:=9) (by simp [mapOpt]) rfl ?_
 simp
 have hsl:FSl intc 1 (encF intc 1 ((p.dat i j k).meet (BSet.ofL 96 (p.defs i v))).list) ((p.dat i j k).meet (BSet.ofL 96 (p.defs i v))).list:=encF_sl
 exact RK.stab hsl.stab
def azB:Blk:=⟨true,[⟨4,6,0,0,0,0,0,0,0,0,0⟩,⟨7,6,0,0,0,0,0,0,0,0,0⟩],false,[],true⟩
def azF:Fun:=⟨0,1,[azB],false⟩
def azP:Prg:=⟨[azF],false⟩
theorem azP_fit:azP.Fit:=by
 refine ⟨by decide,fun f hf=>?_⟩
 simp only [azP,List.mem_singleton] at hf
 subst hf
 refine ⟨by decide,fun b hb=>?_,fun b hb=>?_⟩ <;> simp only [azF,List.mem_singleton] at hb <;> subst hb <;> decide
theorem azP_sane:azP.sane=true:=by
 rw [Prg.sane_iff]
 refine ⟨by decide,fun f hf=>?_,?_⟩
 ·simp only [azP,List.mem_singleton] at hf
  subst hf
  have h1:azF.varsOK:=by decide
  have h2:azF.blksOK:=by decide
  rw [Prg.funMsg,if_neg (by simpa using h1),if_neg (by simpa using h2)]
  have hb:azP.blkMsg azF azB=[]:=by
   have hr:rises azB.out=true:=by simp [rises,risesTo,azB]
   have hi:(azB.ins.any fun i=>!azP.insOK azF i)=false:=by
    rw [List.any_eq_false]
    intro x hx
    simp only [azB,List.mem_cons,List.not_mem_nil,or_false] at hx
    rcases hx with rfl | rfl
    ·rw [insOK_of (by decide) (by decide) (by decide) (by decide)];simp
    ·rw [insOK_of (by decide) (by decide) (by decide) (by decide)];simp
   rw [Prg.blkMsg,hr,hi]
   decide
  show firstMsg azP azF [azB]=[]
  rw [firstMsg,if_pos hb,firstMsg]
 ·decide
theorem azP_fn:azP.fn 0=some azF:=by
 unfold Prg.fn
 rw [if_pos ⟨by omega,azP_sane⟩];rfl
theorem azF_dids {d:Int}:d ∈ azF.dids 0 ↔ d=4 ∨ d=7:=by
 rw [Fun.dids_mem]
 have hi:azF.insts=azB.ins:=rfl
 have d4:(⟨4,6,0,0,0,0,0,0,0,0,0⟩:Ins).def=0:=by decide
 have d7:(⟨7,6,0,0,0,0,0,0,0,0,0⟩:Ins).def=0:=by decide
 rw [hi]
 constructor
 ·rintro ⟨x,hx,_,rfl⟩
  simp only [azB,List.mem_cons,List.not_mem_nil,or_false] at hx
  rcases hx with rfl | rfl
  ·exact .inl rfl
  ·exact .inr rfl
 ·rintro (rfl | rfl)
  ·exact ⟨_,List.mem_cons_self,d4,rfl⟩
  ·exact ⟨_,List.mem_cons_of_mem _ List.mem_cons_self,d7,rfl⟩
theorem azP_dat (k:Nat) (hk:k≤2):azP.dat 0 0 k=azF.dat 0 k:=dat_blk (j:=0) azP_fn (b:=azB) rfl rfl hk
theorem az_two:(azP.dat 0 0 2).list=[7]:=by
 have e:=azP_dat 2 (by omega)
 have e2:azP.dat 0 0 2=azF.dat 0 2:=e
 rw [e2]
 have hb:azF.blks[0]?=some azB:=rfl
 have hx:azB.ins[1]?=some ⟨7,6,0,0,0,0,0,0,0,0,0⟩:=rfl
 have hx0:azB.ins[0]?=some ⟨4,6,0,0,0,0,0,0,0,0,0⟩:=rfl
 have d4:(⟨4,6,0,0,0,0,0,0,0,0,0⟩:Ins).def=0:=by decide
 have d7:(⟨7,6,0,0,0,0,0,0,0,0,0⟩:Ins).def=0:=by decide
 have f4:Ins.fine ⟨4,6,0,0,0,0,0,0,0,0,0⟩:=by unfold Ins.fine;rw [d4];decide
 have f7:Ins.fine ⟨7,6,0,0,0,0,0,0,0,0,0⟩:=by unfold Ins.fine;rw [d7];decide
 have hz:∀v,(azF.dat 0 0).mem v=false:=fun v=>by
  rw [Fun.dat_zero,Fun.din_mem]
  have:azF.preds ((0:Nat):Int)=[]:=rfl
  rw [this];rfl
 refine list_one (BSet.list_nodup _) fun v=>?_
 rw [BSet.list_mem (azF.dat_ok 0 2).1,Fun.dat_succ (k:=1) hb hx,if_pos (by rw [d7];omega),reach_mem (azF.dat_ok 0 1) f7 (by rw [d7];omega),Fun.dat_succ (k:=0) hb hx0,if_pos (by rw [d4];omega),reach_mem (azF.dat_ok 0 0) f4 (by rw [d4];omega),hz,d7,d4]
 simp only [Bool.false_and,Bool.false_or,Bool.or_eq_true,Bool.and_eq_true,decide_eq_true_eq,Bool.not_eq_true',azF_dids]
 constructor
 ·rintro ⟨h0,⟨h1,h2⟩ | h1⟩
  ·have e4:v=4:=by omega
   subst e4
   revert h2
   decide
  ·omega
 ·rintro rfl
  exact ⟨by omega,.inr rfl⟩
theorem az_of:azP.ofD 0 0 1 0=[4]:=by
 have e2:azP.dat 0 0 1=azF.dat 0 1:=azP_dat 1 (by omega)
 have e3:azP.defs 0 0=azF.dids 0:=by simp [Prg.defs,azP_fn]
 have d4:(⟨4,6,0,0,0,0,0,0,0,0,0⟩:Ins).def=0:=by decide
 have h:=ofD_one (fn_ok azP_fn) (j:=0) (k:=0) (b:=azB) (x:=⟨4,6,0,0,0,0,0,0,0,0,0⟩) rfl rfl (by rw [d4];omega)
 rw [d4] at h
 unfold Prg.ofD
 rw [e2,e3]
 exact h
def azV0:AV:=.fsl 11 (els insc azB.ins)
def azV1:AV:=.fsl 3 [[.bool true,azV0,.nilsl]]
def azV2:AV:=.fsl 3 [[.int .i64 0,.int .i64 1,azV1]]
def azS0:St:=(((((St.empty.new (AObj.row 11 [[AV.int IntKind.i64 4,AV.int IntKind.i64 6,AV.int IntKind.i64 0,AV.int IntKind.i64 0,AV.int IntKind.i64 0,AV.int IntKind.i64 0,AV.int IntKind.i64 0,AV.int IntKind.i64 0,AV.int IntKind.i64 0,AV.int IntKind.i64 0,AV.int IntKind.i64 0],[AV.int IntKind.i64 7,AV.int IntKind.i64 6,AV.int IntKind.i64 0,AV.int IntKind.i64 0,AV.int IntKind.i64 0,AV.int IntKind.i64 0,AV.int IntKind.i64 0,AV.int IntKind.i64 0,AV.int IntKind.i64 0,AV.int IntKind.i64 0,AV.int IntKind.i64 0]])).new (AObj.row 3 [[AV.bool true,AV.sl 11 0 0 2,AV.nilsl]])).new (AObj.row 3 [[AV.int IntKind.i64 0,AV.int IntKind.i64 1,AV.sl 3 1 0 1]])).new (AObj.row 1 [[AV.nilsl]])).set 3 (AObj.row 1 [[AV.sl 3 2 0 1]]))
def azS1:St:=(azS0.drop 0).set 1 (.row 3 [[.bool true,azV0,.nilsl]])
def azS2:St:=(azS1.drop 1).set 2 (.row 3 [[.int .i64 0,.int .i64 1,azV1]])
def azS3:St:=(azS2.drop 2).set 3 (.row 1 [[azV2]])
theorem azZ1:Fzn azS0 azS1 0:=by
 refine ⟨rfl,rfl,fun sz es he z hz=>?_,fun q hq=>?_⟩
 ·have h0:azS0.obj 0=some (.row 11 (els insc azB.ins)):=rfl
  rw [h0] at he;cases he
  have:(els insc azB.ins).flatten.all AV.solid=true:=by decide
  exact List.all_eq_true.1 this z hz
 ·by_cases h1:q=1
  ·subst h1
   exact .inr (.inr ⟨3,_,_,rfl,rfl,⟨.inl rfl,.inr ⟨11,0,2,els insc azB.ins,rfl,rfl,by decide,rfl⟩,.inl rfl,trivial⟩,trivial⟩)
  ·exact .inr (.inl (by simp [azS1,hq,h1]))
theorem azZ2:Fzn azS1 azS2 1:=by
 refine ⟨rfl,rfl,fun sz es he z hz=>?_,fun q hq=>?_⟩
 ·have h0:azS1.obj 1=some (.row 3 [[.bool true,azV0,.nilsl]]):=rfl
  rw [h0] at he;cases he
  have:([[AV.bool true,azV0,AV.nilsl]]:List (List AV)).flatten.all AV.solid=true:=by decide
  exact List.all_eq_true.1 this z hz
 ·by_cases h1:q=2
  ·subst h1
   exact .inr (.inr ⟨3,_,_,rfl,rfl,⟨.inl rfl,.inl rfl,.inr ⟨3,0,1,_,rfl,rfl,by decide,rfl⟩,trivial⟩,trivial⟩)
  ·exact .inr (.inl (by simp [azS2,hq,h1]))
theorem azZ3:Fzn azS2 azS3 2:=by
 refine ⟨rfl,rfl,fun sz es he z hz=>?_,fun q hq=>?_⟩
 ·have h0:azS2.obj 2=some (.row 3 [[.int .i64 0,.int .i64 1,azV1]]):=rfl
  rw [h0] at he;cases he
  have:([[AV.int .i64 0,AV.int .i64 1,azV1]]:List (List AV)).flatten.all AV.solid=true:=by decide
  exact List.all_eq_true.1 this z hz
 ·by_cases h1:q=3
  ·subst h1
   exact .inr (.inr ⟨1,_,_,rfl,rfl,⟨.inr ⟨3,0,1,_,rfl,rfl,by decide,rfl⟩,trivial⟩,trivial⟩)
  ·exact .inr (.inl (by simp [azS3,hq,h1]))
theorem awake18_ret:Ret P (gl N) false 8 [] (.bool true):=by
 refine Ret.in c8 (by simp) ?_
 simp [k8]
 rw [show (((((St.empty.new (AObj.row 11 [[AV.int IntKind.i64 4,AV.int IntKind.i64 6,AV.int IntKind.i64 0,AV.int IntKind.i64 0,AV.int IntKind.i64 0,AV.int IntKind.i64 0,AV.int IntKind.i64 0,AV.int IntKind.i64 0,AV.int IntKind.i64 0,AV.int IntKind.i64 0,AV.int IntKind.i64 0],[AV.int IntKind.i64 7,AV.int IntKind.i64 6,AV.int IntKind.i64 0,AV.int IntKind.i64 0,AV.int IntKind.i64 0,AV.int IntKind.i64 0,AV.int IntKind.i64 0,AV.int IntKind.i64 0,AV.int IntKind.i64 0,AV.int IntKind.i64 0,AV.int IntKind.i64 0]])).new (AObj.row 3 [[AV.bool true,AV.sl 11 0 0 2,AV.nilsl]])).new (AObj.row 3 [[AV.int IntKind.i64 0,AV.int IntKind.i64 1,AV.sl 3 1 0 1]])).new (AObj.row 1 [[AV.nilsl]])).set 3 (AObj.row 1 [[AV.sl 3 2 0 1]]))=azS0 from rfl]
 refine Cal.preF (.inl rfl) azZ1 ?_
 refine Cal.preF (.inl rfl) azZ2 ?_
 refine Cal.preF (x2:=azV2) (.inr ⟨3,0,1,_,rfl,rfl,by decide,rfl⟩) azZ3 ?_
 have hp3:mapOpt (pict azS3 [] 9) [.agg [azV2],.int .i64 0,.int .i64 0,.int .i64 2]=some [encP azP,.int .i64 0,.int .i64 0,.int .i64 2]:=by rfl
 refine (defs_At azP 0 0 2 azP_fit).use (n:=9) hp3 (by decide) ?_
 have hdo:=azP.dat_ok 0 0 2
 have b3:azS3.obj 3=some (.row 1 [[azV2]]):=rfl
 have b4:azS3.next=4:=rfl
 simp
 refine (bits_List _ hdo.1).ret.use (n:=9) (by simp [mapOpt]) rfl ?_
 rw [az_two]
 have hk7:encF intc 1 [7]=.fsl 1 [[.int .i64 7]]:=rfl
 have hk4:encF intc 1 [4]=.fsl 1 [[.int .i64 4]]:=rfl
 simp [b4,hk7]
 refine (ref01_Ints [7] [7] _ _ .mk .mk (by simp)).use (n:=9) (by rfl) rfl ?_
 simp [b3,b4]
 refine (defs_Of azP 0 0 1 0 azP_fit).use (n:=9) (by rfl) (Bool.or_eq_true _ _ ▸ .inr (by decide)) ?_
 rw [az_of]
 simp [b3,b4,hk4]
 refine (ref01_Ints [4] [4] _ _ .mk .mk (by simp)).use (n:=9) (by rfl) rfl ?_
 simp [b3,b4]
 refine (defs_In azP 0 azP_fit azP_fn).use (n:=9) (by rfl) (by decide) ?_
 have hf:FSl setc 2 (.fsl 2 (els setc ((List.range azF.blks.length).map azF.din))) ((List.range azF.blks.length).map azF.din):=FSl.mk
 have hl:((List.range azF.blks.length).map azF.din).length=1:=by simp [azF]
 simp [hf.len,hl]
 exact RK.eq rfl rfl
end Go.Proofs.YtbhkamemheaajaaGreatDoor.Vm
