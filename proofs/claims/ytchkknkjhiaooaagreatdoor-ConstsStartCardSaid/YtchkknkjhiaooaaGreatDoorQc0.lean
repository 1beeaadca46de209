/- A part of the proof: K0 K1 K2 K3. -/
import Derived.Test.YtchkknkjhiaooaaGreatDoorProg
import Derived.KernelRfl
import Derived.Test.YtchkknkjhiaooaaGreatDoorQ32
set_option linter.unusedVariables false
set_option linter.unusedSimpArgs false
set_option linter.constructorNameAsVariable false
namespace Go.Proofs.YtchkknkjhiaooaaGreatDoor.Vm
open Go Go.RowKit
set_option maxRecDepth 100000
noncomputable def k44 : VCode := zs (zr [zb 1 0,⟨some 2,.sk (.alloc [.bool false,.nilsl]) [],none⟩]) (zs (.region true [za 5 1 1,zl 6 1 5,⟨some 7,.callF 94 [.c (.int .i64 0)],none⟩,zc2 8 93 6 7,⟨some 3,.sk (.alloc [.bool false,.nilsl]) [],none⟩,zw 2 3 8] [[],[0],[],[1,2],[],[4,3,0,1,2]]) (zs (zs (zr [zk 4 0]) (.block 0 (.loop (zs (zs (zr [zm 9 4,za 10 0 1,zl 11 1 10,zt 12 9 11,zm 13 12,zg true 13 (zm 14 4),zg true 13 (za 15 1 3),zg true 13 (zl 16 1 15),zg true 13 (zn 17 16),zg true 13 (zt 18 14 17),zu 19 13 18]) (.cond (.t 19) .skip (.exit 0))) (zs (.block 1 (zr [za 22 1 3,zl 23 1 22,zm 24 4,⟨some 25,.pk (.build [.int .i64 0,.int .i64 0] [(0,1)]) [.c (.int .i64 2)],none⟩,zi 26 2 23 24,zw 2 26 25])) (zr [zm 20 4,zp 21 20,zm 4 21])))))) (zs (zr [zL 27 2 3,zw 2 2 27]) .ret)))
theorem c44 : Fun' P 44 28 [(.cell 2 true 2)] k44 := ⟨by kernel_rfl, by kernel_rfl⟩
end Go.Proofs.YtchkknkjhiaooaaGreatDoor.Vm
namespace Go.Proofs.YtchkknkjhiaooaaGreatDoor.Vm
open Go Go.RowKit
set_option maxRecDepth 100000
noncomputable def k93 : VCode := zs (zr [zb 3 1,⟨some 4,.sk (.alloc [.bool false,.nilsl]) [],none⟩]) (zs (zr [⟨some 7,.pk (.build [.bool false,.nilsl] [(0,1)]) [.c (.bool true)],none⟩,⟨some 5,.sk (.alloc [.bool false,.nilsl]) [],none⟩,zw 2 5 7]) (zs (zs (zr [zk 6 0]) (.block 0 (.loop (zs (zs (zr [zm 8 6,zm 9 0,⟨some 10,.pk .minI [.t 9,.c (.int .i64 64)],none⟩,zt 11 8 10]) (.cond (.t 11) .skip (.exit 0))) (zs (.block 1 (.region true [za 14 1 5,zl 15 1 14,zL 16 2 3,zc1 17 144 16,⟨some 18,.sk (.buildSlice [.int .i64 0,.int .i64 0] 2 1 [0]) [.t 17],none⟩,⟨some 19,.sk (.append 2 16) [.t 15,.t 18],none⟩,za 20 1 5,zw 1 20 19] [[],[0],[],[2],[3],[1,4,3],[0,1,2,3,4,5],[6,5,0,1,2,3,4]])) (zr [zm 12 6,zp 13 12,zm 6 13])))))) (zs (zr [zL 21 2 5,zw 2 4 21]) .ret)))
theorem c93 : Fun' P 93 22 [(.cell 4 true 2)] k93 := ⟨by kernel_rfl, by kernel_rfl⟩
noncomputable def k94 : VCode := zs (zr [⟨some 2,.sk (.alloc [.int .i64 0,.int .i64 0]) [],none⟩]) (zs (zr [zm 3 0,zc1 4 45 3,⟨some 5,.pk (.build [.int .i64 0,.int .i64 0] [(0,1),(1,1)]) [.c (.int .i64 1),.t 4],none⟩,zw 2 2 5]) .ret)
theorem c94 : Fun' P 94 6 [(.cell 2 true 2)] k94 := ⟨by kernel_rfl, by kernel_rfl⟩
noncomputable def k141 : VCode := zs (zr [zb 2 0,zb 3 1,⟨some 4,.sk (.alloc [.int .i64 0,.int .i64 0]) [],none⟩]) (zs (zs (zr [zL 5 2 2,zL 6 2 3,zc2 7 204 5 6]) (.cond (.t 7) (zs (zr [zL 8 2 3,zc1 9 205 8,zw 2 4 9]) .ret) .skip)) (zs (zs (zr [zL 10 2 3,zL 11 2 2,zc2 12 204 10 11]) (.cond (.t 12) (zs (zr [zL 13 2 2,zc1 14 205 13,zw 2 4 14]) .ret) .skip)) (zs (zr [⟨some 15,.pk (.build [.int .i64 0,.int .i64 0] [(0,1),(1,1)]) [.c (.int .i64 2),.c (.int .i64 0)],none⟩,zw 2 4 15]) .ret)))
theorem c141 : Fun' P 141 16 [(.cell 4 true 2)] k141 := ⟨by kernel_rfl, by kernel_rfl⟩
noncomputable def k144 : VCode := zs (zr [zb 1 0,⟨some 2,.sk (.alloc [.int .i64 0,.int .i64 0]) [],none⟩]) (zs (zr [zL 3 2 1,⟨some 4,.pk (.build [.int .i64 0,.int .i64 0] []) [],none⟩,zc2 5 141 3 4,zw 2 2 5]) .ret)
theorem c144 : Fun' P 144 6 [(.cell 2 true 2)] k144 := ⟨by kernel_rfl, by kernel_rfl⟩
end Go.Proofs.YtchkknkjhiaooaaGreatDoor.Vm
namespace Go.Proofs.YtchkknkjhiaooaaGreatDoor.Vm
open Go Go.RowKit
set_option maxRecDepth 100000
noncomputable def k204 : VCode := zs (zr [zb 2 0,zb 3 1,zB 4 false]) (zs (zr [zL 5 2 2,zc1 6 205 5,zw 2 2 6]) (zs (zr [zL 7 2 3,zc1 8 205 7,zw 2 3 8]) (zs (zr [za 9 0 2,zl 10 1 9,⟨some 11,.pk (.ibin .eql) [.t 10,.c (.int .i64 0)],none⟩,zm 12 11,zg false 12 (za 13 0 3),zg false 12 (zl 14 1 13),⟨some 15,.pk (.ibin .eql) [.t 14,.c (.int .i64 2)],some (12,false)⟩,zo 16 12 15,zm 17 16,zg false 17 (zL 18 2 2),zg false 17 (zL 19 2 3),⟨some 20,.pk (.cellsEq false [.int .i64,.int .i64]) [.t 18,.t 19],some (17,false)⟩,zo 21 17 20,zm 4 21]) .ret)))
theorem c204 : Fun' P 204 22 [(.tmp 4)] k204 := ⟨by kernel_rfl, by kernel_rfl⟩
noncomputable def k205 : VCode := zs (zr [zb 1 0,⟨some 2,.sk (.alloc [.int .i64 0,.int .i64 0]) [],none⟩]) (zs (zs (zr [zL 3 2 1,zc1 4 269 3,zN 5 4]) (.cond (.t 5) (zs (zr [⟨some 6,.pk (.build [.int .i64 0,.int .i64 0] [(0,1),(1,1)]) [.c (.int .i64 2),.c (.int .i64 0)],none⟩,zw 2 2 6]) .ret) .skip)) (zs (zr [zL 7 2 1,zw 2 2 7]) .ret))
theorem c205 : Fun' P 205 8 [(.cell 2 true 2)] k205 := ⟨by kernel_rfl, by kernel_rfl⟩
end Go.Proofs.YtchkknkjhiaooaaGreatDoor.Vm
namespace Go.Proofs.YtchkknkjhiaooaaGreatDoor.Vm
open Go Go.RowKit
set_option maxRecDepth 100000
noncomputable def k269 : VCode := zs (zr [zb 1 0,zB 2 false]) (zs (zs (zr [za 3 0 1,zl 4 1 3,⟨some 5,.pk (.ibin .eql) [.t 4,.c (.int .i64 1)],none⟩]) (.cond (.t 5) (zs (zr [za 6 1 1,zl 7 1 6,⟨some 8,.pk (.ibin .geq) [.t 7,.c (.int .i64 (-2147483648))],none⟩,zm 9 8,zg true 9 (za 10 1 1),zg true 9 (zl 11 1 10),⟨some 12,.pk (.ibin .leq) [.t 11,.c (.int .i64 2147483647)],some (9,true)⟩,zu 13 9 12,zm 2 13]) .ret) .skip)) (zs (zr [za 14 0 1,zl 15 1 14,⟨some 16,.pk (.ibin .eql) [.t 15,.c (.int .i64 0)],none⟩,zm 17 16,zg false 17 (za 18 0 1),zg false 17 (zl 19 1 18),⟨some 20,.pk (.ibin .eql) [.t 19,.c (.int .i64 2)],some (17,false)⟩,zo 21 17 20,zm 22 21,zg true 22 (za 23 1 1),zg true 22 (zl 24 1 23),⟨some 25,.pk (.ibin .eql) [.t 24,.c (.int .i64 0)],some (22,true)⟩,zu 26 22 25,zm 2 26]) .ret))
theorem c269 : Fun' P 269 27 [(.tmp 2)] k269 := ⟨by kernel_rfl, by kernel_rfl⟩
end Go.Proofs.YtchkknkjhiaooaaGreatDoor.Vm
