/- A part of the proof: K0. -/
import Derived.Test.YtbhkamemheaajaaGreatDoorProg
import Derived.KernelRfl
import Derived.Test.YtbhkamemheaajaaGreatDoorQ35
set_option linter.unusedVariables false
set_option linter.unusedSimpArgs false
set_option linter.constructorNameAsVariable false
namespace Go.Proofs.YtbhkamemheaajaaGreatDoor.Vm
open Go Go.RowKit
set_option maxRecDepth 100000
theorem c27:Fun' P 27 42 [(.tmp 6)] k27:=⟨by kernel_rfl,by kernel_rfl⟩
end Go.Proofs.YtbhkamemheaajaaGreatDoor.Vm
