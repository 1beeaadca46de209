/- A part of the proof: Bu. -/
import Derived.Test.YtbhkamemheaajaaGreatDoorQd3
set_option linter.unusedVariables false
set_option linter.unusedSimpArgs false
set_option linter.constructorNameAsVariable false
namespace Go.Proofs.YtbhkamemheaajaaGreatDoor.Vm
open Go Go.RowKit Go.ChangeShapes Go.WideShapes
theorem defsOwn_k1:Rows.defsOwnRow.wf (OpenSpec.ofChange Rows.defsOwnSpec)=true:=by kernel_rfl
theorem defsOwn_k4:Tryz.f6.params.all (Tryz.pinned.checked.prog.readableRec ·)=true:=by kernel_rfl
theorem defsOwn_k5:namedTie Tryz.pinned.checked.prog Rows.defsOwnRow.named Rows.defsOwnSpec.vars=true:=by kernel_rfl
theorem defsOwn_k10:(Rows.defsOwnRow.inPlace == Tryz.pinned.checked.prog.inPlace 6)=true:=by kernel_rfl
theorem defsOwn_k11:(Rows.defsOwnRow.unfollowed == Tryz.pinned.checked.prog.unfollowed 6)=true:=by kernel_rfl
theorem defsOwn_k12:(Rows.defsOwnRow.recurses == Tryz.pinned.checked.prog.recurses 6)=true:=by kernel_rfl
theorem defsOwn_k13:(Rows.defsOwnRow.named == Tryz.pinned.checked.prog.varsNamed 6)=true:=by kernel_rfl
end Go.Proofs.YtbhkamemheaajaaGreatDoor.Vm
