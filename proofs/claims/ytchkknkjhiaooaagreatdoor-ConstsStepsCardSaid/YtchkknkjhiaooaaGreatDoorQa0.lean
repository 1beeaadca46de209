/- A part of the proof: K1. -/
import Derived.Test.YtchkknkjhiaooaaGreatDoorProg
import Derived.KernelRfl
import Derived.Test.YtchkknkjhiaooaaGreatDoorQ32
set_option linter.unusedVariables false
set_option linter.unusedSimpArgs false
set_option linter.constructorNameAsVariable false
namespace Go.Proofs.YtchkknkjhiaooaaGreatDoor.Vm
open Go Go.RowKit
set_option maxRecDepth 100000
noncomputable def k67 : VCode := zs (zr [zk 2 0]) (zs (zr [zm 3 0,⟨some 4,.pk (.ibin .add) [.t 3,.c (.int .i64 64)],none⟩,⟨some 5,.pk (.ibin .sub) [.t 4,.c (.int .i64 1)],none⟩,⟨some 6,.pk (.ibin .quo) [.t 5,.c (.int .i64 64)],none⟩,zm 2 6]) .ret)
end Go.Proofs.YtchkknkjhiaooaaGreatDoor.Vm
