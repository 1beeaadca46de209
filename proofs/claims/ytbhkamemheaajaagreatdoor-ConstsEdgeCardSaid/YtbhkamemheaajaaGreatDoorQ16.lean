/- A part of the proof: Fg. -/
import Derived.Test.YtbhkamemheaajaaGreatDoorQ15
set_option linter.unusedVariables false
set_option linter.unusedSimpArgs false
set_option linter.constructorNameAsVariable false
namespace Go.Proofs.YtbhkamemheaajaaGreatDoor.Vm
open Go Go.RowKit
variable {N:Nat} {g:Glob}
theorem bits_Len (x:Nat) (h:x < 2 ^ 64):Ret P g false 103 [.int .u64 (x:Int)] (.int .i64 (Lib.bitLen x)):=by
 refine ⟨c103.call,?_⟩
 intro w av vs xs hG hvs hz
 subst hz
 cases hvs with
 | cons v y vs xs hv hvs =>
 cases hvs
 have:=hv.int_inv;subst this
 refine Calls.mono (Tryz.bits_Len (x:Int) w (by omega) (by omega)) ?_
 rintro e w' ⟨rfl,rfl⟩
 refine ⟨_,_,St.empty,fun _=>none,rfl,⟨⟨1,rfl⟩,fun h=>by cases h⟩,Below.refl _ _,?_,.int _ _⟩
 refine ⟨?_,?_,?_,?_,?_,Nat.le_refl _⟩
 ·intro o x h;cases h
 ·intro o o' l l' x x' h;cases h
 ·intro o x h;cases h
 ·intro o l h;cases h
 ·intro o x l h;cases h
theorem insertion_nil (s:AV) (S:St) (K:AV→St→Prop) (hk:K (.tuple []) S):Cal P g 145 [s,.int .i64 0,.int .i64 0] S K:=by
 refine c145.in (by simp) ?_
 simp [k145]
 refine W.whileI (fun (k:Nat) F S'=>F 2=.int .i64 0∧F 6=.int .i64 1∧S'=S) (fun _=>0) ?_ 0 _ _ ?_
 ·rintro k F S' ⟨h2,h6,rfl⟩
  simp [h2,h6]
  exact hk
 ·simp
  rfl
theorem pdq_nil (s:AV) (S:St) (K:AV→St→Prop) (hk:K (.tuple []) S):Cal P g 102 [s,.int .i64 0,.int .i64 0,.int .i64 0] S K:=by
 refine c102.in (by simp) ?_
 simp [k102]
 refine W.whileI (fun (k:Nat) F S'=>F 0=s∧F 1=.int .i64 0∧F 2=.int .i64 0∧S'=S) (fun _=>0) ?_ 0 _ _ ?_
 ·rintro k F S' ⟨h0,h1,h2,rfl⟩
  have ew:IntKind.i64.wrap 0=0:=rfl
  simp [h1,h2,h0,ew]
  refine insertion_nil s S' _ ?_
  simp
  exact hk
 ·simp
theorem slices_Sort_nil {S:St} {K:AV→St→Prop} (hk:K (.tuple []) S):Cal P g 59 [.nilsl] S K:=by
 refine c59.in (by simp) ?_
 simp [k59]
 have e0:IntKind.u64.wrap 0=((0:Nat):Int):=rfl
 rw [e0]
 refine (bits_Len 0 (by omega)).use (n:=9) ?_ rfl ?_ <;> simp
 have e1:Lib.bitLen 0=0:=rfl
 rw [e1]
 refine pdq_nil _ _ _ ?_
 simp
 exact hk
theorem slices_Sort {l:List Int} {v:AV} {S:St} {K:AV→St→Prop} (h:Has intc 1 S v l) (hl:l.length < 2 ^ 40)
  (hk:∀S',Has intc 1 S' v (sorted l)→S'.next=S.next→(∀q,(∀len,v ≠ .sl 1 q 0 len)→S'.obj q=S.obj q)→K (.tuple []) S'):Cal P g 59 [v] S K:=by
 rcases h with ⟨rfl,rfl⟩ | ⟨o,rfl,ho,hne⟩
 ·exact slices_Sort_nil (hk S (.inl ⟨rfl,by simp [sorted]⟩) rfl fun _ _=>rfl)
 ·refine slices_Sort_one ho hne hl (hk _ (.inr ⟨o,by rw [sorted_len],?_,?_⟩) rfl ?_)
  ·simp
  ·intro h
   have:=congrArg List.length h
   rw [sorted_len] at this
   exact hne (List.length_eq_zero_iff.1 this)
  ·intro q hq
   have:q ≠ o:=fun h=>hq _ (by rw [h])
   simp [this]
end Go.Proofs.YtbhkamemheaajaaGreatDoor.Vm
