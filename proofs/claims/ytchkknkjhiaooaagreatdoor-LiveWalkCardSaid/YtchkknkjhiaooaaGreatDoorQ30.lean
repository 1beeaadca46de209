/- A part of the proof: Ie. -/
import Derived.Test.YtchkknkjhiaooaaGreatDoorQ29
set_option linter.unusedVariables false
set_option linter.unusedSimpArgs false
set_option linter.constructorNameAsVariable false
namespace Go.Proofs.YtchkknkjhiaooaaGreatDoor.Vm
open Go Go.RowKit Go.ChangeShapes Go.WideShapes
end Go.Proofs.YtchkknkjhiaooaaGreatDoor.Vm
