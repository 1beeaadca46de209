/- A part of the proof: Bi. -/
import Derived.Test.YtbhkamemheaajaaGreatDoorQb3
set_option linter.unusedVariables false
set_option linter.unusedSimpArgs false
set_option linter.constructorNameAsVariable false
namespace Go.Proofs.YtbhkamemheaajaaGreatDoor.Vm
open Go Go.RowKit Go.ChangeShapes Go.WideShapes
theorem defsFar_k1:Rows.defsFarRow.wf (OpenSpec.ofChange Rows.defsFarSpec)=true:=by kernel_rfl
theorem defsFar_k4:Tryz.f5.params.all (Tryz.pinned.checked.prog.readableRec ·)=true:=by kernel_rfl
theorem defsFar_k5:namedTie Tryz.pinned.checked.prog Rows.defsFarRow.named Rows.defsFarSpec.vars=true:=by kernel_rfl
theorem defsFar_k10:(Rows.defsFarRow.inPlace == Tryz.pinned.checked.prog.inPlace 5)=true:=by kernel_rfl
theorem defsFar_k11:(Rows.defsFarRow.unfollowed == Tryz.pinned.checked.prog.unfollowed 5)=true:=by kernel_rfl
theorem defsFar_k12:(Rows.defsFarRow.recurses == Tryz.pinned.checked.prog.recurses 5)=true:=by kernel_rfl
theorem defsFar_k13:(Rows.defsFarRow.named == Tryz.pinned.checked.prog.varsNamed 5)=true:=by kernel_rfl
end Go.Proofs.YtbhkamemheaajaaGreatDoor.Vm
