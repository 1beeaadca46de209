/- A part of the proof: Fg. -/
import Derived.KernelRfl
import Derived.Test.YtnhfofmhkfdpgaaGreatDoorQ16
set_option linter.unusedVariables false
set_option linter.unusedSimpArgs false
set_option linter.constructorNameAsVariable false
namespace Go.Proofs.YtnhfofmhkfdpgaaGreatDoor.Vm
set_option maxRecDepth 100000
open Go Go.RowKit
variable {N:Nat} {g:Glob}
theorem bits_Len (x:Nat) (h:x < 2 ^ 64):Ret P g false 139 [.int .u64 (x:Int)] (.int .i64 (Lib.bitLen x)):=by
 refine ⟨c139.call,?_⟩
 intro w av vs xs hG hvs hz
 subst hz
 cases hvs with
 | cons v y vs xs hv hvs =>
 cases hvs
 have:=hv.int_inv;subst this
 refine Calls.mono (Tryz.bits_Len (x:Int) w (by omega) (by omega)) ?_
 rintro e w' ⟨rfl,rfl⟩
 refine ⟨_,_,St.empty,fun _=>none,rfl,⟨⟨1,rfl⟩,fun h=>by cases h⟩,Below.refl _ _,?_,.int _ _⟩
 refine ⟨?_,?_,?_,?_,?_,Nat.le_refl _⟩
 ·intro o x h;cases h
 ·intro o o' l l' x x' h;cases h
 ·intro o x h;cases h
 ·intro o l h;cases h
 ·intro o x l h;cases h
theorem xIf (s:AV) (S:St) (K:AV->St->Prop) (hk:K (.tuple []) S):Cal P g 190 [s,.int .i64 0,.int .i64 0] S K:=by
 refine Cal.inF (by kernel_rfl) ?_
 conv=>arg 3;reduce
 simp
 refine W.whileI (fun (k:Nat) F S'=>F 2=.int .i64 0/\F 6=.int .i64 1/\S'=S) (fun _=>0) ?_ 0 _ _ ?_
 ·rintro k F S' ⟨h2,h6,rfl⟩
  simp [h2,h6]
  exact hk
 ·simp
  rfl
theorem xOF (s:AV) (S:St) (K:AV->St->Prop) (hk:K (.tuple []) S):Cal P g 138 [s,.int .i64 0,.int .i64 0,.int .i64 0] S K:=by
 refine Cal.inF (by kernel_rfl) ?_
 conv=>arg 3;reduce
 simp
 refine W.whileI (fun (k:Nat) F S'=>F 0=s/\F 1=.int .i64 0/\F 2=.int .i64 0/\S'=S) (fun _=>0) ?_ 0 _ _ ?_
 ·rintro k F S' ⟨h0,h1,h2,rfl⟩
  have ew:IntKind.i64.wrap 0=0:=rfl
  simp [h1,h2,h0,ew]
  refine xIf s S' _ ?_
  simp
  exact hk
 ·simp
theorem xC9 {S:St} {K:AV->St->Prop} (hk:K (.tuple []) S):Cal P g 96 [.nilsl] S K:=by
 refine Cal.inF (by kernel_rfl) ?_
 conv=>arg 3;reduce
 simp
 have e0:IntKind.u64.wrap 0=((0:Nat):Int):=rfl
 rw [e0]
 refine (bits_Len 0 (by omega)).use (n:=9) ?_ rfl ?_ <;> simp
 have e1:Lib.bitLen 0=0:=rfl
 rw [e1]
 refine xOF _ _ _ ?_
 simp
 exact hk
end Go.Proofs.YtnhfofmhkfdpgaaGreatDoor.Vm
