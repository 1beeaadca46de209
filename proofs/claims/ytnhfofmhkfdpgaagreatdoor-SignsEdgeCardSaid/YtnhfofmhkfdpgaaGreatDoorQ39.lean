/- A part of the proof: If. -/
import Derived.Test.YtnhfofmhkfdpgaaGreatDoorQ38
set_option linter.unusedVariables false
set_option linter.unusedSimpArgs false
set_option linter.constructorNameAsVariable false
namespace Go.Proofs.YtnhfofmhkfdpgaaGreatDoor.Vm
open Go Go.RowKit Go.ChangeShapes Go.WideShapes
theorem fk2:laidOutB Tryz.pinned.checked.prog=true:=by kernel_rfl
theorem fk3:mapsRowed Tryz.pinned.checked.prog=true:=by kernel_rfl
theorem fk7:(Tryz.pinned.checked.prog.stops == [])=true:=by kernel_rfl
theorem fk9:(Tryz.pinned.checked.prog.stopKnobs == [])=true:=by kernel_rfl
theorem fk23b:Tryz.pinned.checked.prog.stopsHeard=true:=by kernel_rfl
theorem fk24:Tryz.pinned.checked.prog.mayEnter=true:=by kernel_rfl
end Go.Proofs.YtnhfofmhkfdpgaaGreatDoor.Vm
