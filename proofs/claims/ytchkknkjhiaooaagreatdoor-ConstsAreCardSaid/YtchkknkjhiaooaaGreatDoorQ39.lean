/- A part of the proof: Pc. -/
import Derived.Test.YtchkknkjhiaooaaGreatDoorQ38
set_option linter.unusedVariables false
set_option linter.unusedSimpArgs false
set_option linter.constructorNameAsVariable false
namespace Go.Proofs.YtchkknkjhiaooaaGreatDoor.Vm
open Go Go.RowKit Go.ChangeShapes Go.WideShapes
theorem constsAre_k1:Rows.constsAreRow.wf (OpenSpec.ofChange Rows.constsAreSpec)=true:=by kernel_rfl
theorem constsAre_k4:Tryz.f5.params.all (Tryz.pinned.checked.prog.readableRec ·)=true:=by kernel_rfl
theorem constsAre_k5:namedTie Tryz.pinned.checked.prog Rows.constsAreRow.named Rows.constsAreSpec.vars=true:=by kernel_rfl
theorem constsAre_k10:(Rows.constsAreRow.inPlace == Tryz.pinned.checked.prog.inPlace 5)=true:=by kernel_rfl
theorem constsAre_k11:(Rows.constsAreRow.unfollowed == Tryz.pinned.checked.prog.unfollowed 5)=true:=by kernel_rfl
theorem constsAre_k12:(Rows.constsAreRow.recurses == Tryz.pinned.checked.prog.recurses 5)=true:=by kernel_rfl
theorem constsAre_k13:(Rows.constsAreRow.named == Tryz.pinned.checked.prog.varsNamed 5)=true:=by kernel_rfl
end Go.Proofs.YtchkknkjhiaooaaGreatDoor.Vm
