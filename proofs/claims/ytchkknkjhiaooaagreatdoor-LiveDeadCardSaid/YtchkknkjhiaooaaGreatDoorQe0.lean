/- A part of the proof: K0. -/
import Derived.Test.YtchkknkjhiaooaaGreatDoorProg
import Derived.KernelRfl
import Derived.Test.YtchkknkjhiaooaaGreatDoorQ32
set_option linter.unusedVariables false
set_option linter.unusedSimpArgs false
set_option linter.constructorNameAsVariable false
namespace Go.Proofs.YtchkknkjhiaooaaGreatDoor.Vm
open Go Go.RowKit
set_option maxRecDepth 100000
noncomputable def k54 : VCode := zs (zr [zb 1 0,⟨some 2,.pk .move [.c .nilsl],none⟩]) (zs (zs (zr [zL 11 1 1,zc1 12 16 11,zN 13 12]) (.cond (.t 13) (zs (zr [⟨some 2,.pk .move [.c .nilsl],none⟩]) .ret) .skip)) (zs (zr [⟨some 3,.sk (.alloc [.nilsl]) [],none⟩]) (zs (zs (zr [za 14 0 1,zl 15 1 14,zn 16 15,zk 17 0]) (.block 0 (.loop (zs (zr [zt 18 17 16]) (zs (.cond (.t 18) .skip (.exit 0)) (zs (.block 1 (zs (zr [zm 19 17,zi 20 3 15 17,zL 21 3 20,⟨some 5,.sk (.alloc [.int .i64 0,.int .i64 0,.nilsl]) [],none⟩,zm 4 19,zw 3 5 21]) (zs (zr [zL 22 1 1,zm 23 4,zc2 24 17 22 23,zn 25 24,zk 26 0]) (.block 2 (.loop (zs (zr [zt 27 26 25]) (zs (.cond (.t 27) .skip (.exit 2)) (zs (.block 3 (zs (zr [zm 28 26,zi 29 2 24 26,zL 30 2 29,⟨some 7,.sk (.alloc [.int .i64 0,.nilsl]) [],none⟩,zm 6 28,zw 2 7 30]) (zs (.region true [zL 31 2 7,za 32 2 5,zl 33 1 32,zm 34 6,zi 35 3 33 34,za 36 1 35,zl 37 1 36,zc2 38 102 31 37] [[],[],[1],[],[2,3],[4],[5],[0,6]]) (.block 4 (.rangeFunc 67 (.t 38) #[39,40] (rngA Tryz.f54 0) (rngB Tryz.f54 0)))))) (zr [zp 62 26,zm 26 62]))))))))) (zr [zp 63 17,zm 17 63]))))))) (zs (zr [zl 64 1 3,zc1 65 90 64]) (zs (zr [zl 66 1 3,zm 2 66]) .ret)))))
theorem c54 : Fun' P 54 67 [(.tmp 2)] k54 := ⟨by kernel_rfl, by kernel_rfl⟩
noncomputable def k54A0 : VCode := zs (zr [⟨some 8,.sk (.alloc [.int .i64 0,.int .i64 0,.int .i64 0,.int .i64 0,.int .i64 0,.int .i64 0,.int .i64 0,.int .i64 0,.int .i64 0,.int .i64 0,.int .i64 0]) [],none⟩,zw 11 8 39]) (zr [⟨some 9,.sk (.alloc [.int .i64 0,.nilsl,.int .i64 0,.nilsl]) [],none⟩,zw 4 9 40])
theorem c54A0 : compCode P 67 (rngA Tryz.f54 0) = some k54A0 := by kernel_rfl
noncomputable def k54B0 : VCode := .block 5 (zs (zr [zL 41 11 8,zc1 42 23 41,zm 10 42]) (zs (zr [zm 43 10,⟨some 44,.pk (.ibin .geq) [.t 43,.c (.int .i64 0)],none⟩,zm 45 44,zg true 45 (za 46 1 8),zg true 45 (zl 47 1 46),⟨some 48,.pk (.ibin .neq) [.t 47,.c (.int .i64 7)],some (45,true)⟩,zu 49 45 48,zm 50 49,⟨some 51,.pk (.indexAddrArr 2 2) [.t 9,.c (.int .i64 0)],some (50,true)⟩,zg true 50 (zL 52 2 51),zg true 50 (zm 53 10),zg true 50 (zc2 54 28 52 53),zg true 50 (zN 55 54),zu 56 50 55]) (.cond (.t 56) (zr [zl 57 1 3,za 58 0 8,zl 59 1 58,⟨some 60,.sk (.buildSlice [.int .i64 0] 1 1 [0]) [.t 59],none⟩,⟨some 61,.sk (.append 1 8) [.t 57,.t 60],none⟩,zw 1 3 61]) .skip)))
theorem c54B0 : compCode P 67 (rngB Tryz.f54 0) = some k54B0 := by kernel_rfl
end Go.Proofs.YtchkknkjhiaooaaGreatDoor.Vm
