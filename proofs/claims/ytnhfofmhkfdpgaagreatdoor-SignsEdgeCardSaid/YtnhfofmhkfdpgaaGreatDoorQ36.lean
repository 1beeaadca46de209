/- A part of the proof: Ib. -/
import Derived.Test.YtnhfofmhkfdpgaaGreatDoorQ35
set_option linter.unusedVariables false
set_option linter.unusedSimpArgs false
set_option linter.constructorNameAsVariable false
namespace Go.Proofs.YtnhfofmhkfdpgaaGreatDoor.Vm
open Go Go.RowKit Go.ChangeShapes Go.WideShapes
section
variable {H:Type} {enc:TypeId × Value->H} {w:World} {sp:Nat->Bool}
theorem u3:P.underlying 3=some (.int .i64):=by kernel_rfl
theorem u4:P.underlying 4=some .bool:=by kernel_rfl
theorem u22:P.underlying 22=some (.slice 30):=by kernel_rfl
theorem u28:P.underlying 28=some (.slice 33):=by kernel_rfl
theorem u31:P.underlying 31=some (.slice 42):=by kernel_rfl
theorem u25:P.underlying 25=some (.slice 3):=by kernel_rfl
theorem u40:P.underlying 40=some (.array 3 3):=by kernel_rfl
theorem u24:P.underlying 24=some (.struct (fieldsOf 24)):=by kernel_rfl
theorem u30:P.underlying 30=some (.struct (fieldsOf 30)):=by kernel_rfl
theorem u33:P.underlying 33=some (.struct (fieldsOf 33)):=by kernel_rfl
theorem u42:P.underlying 42=some (.struct (fieldsOf 42)):=by kernel_rfl
theorem f24:fieldsAt 24=[(22,0)]:=by kernel_rfl
theorem f30:fieldsAt 30=[(3,0),(3,1),(28,2)]:=by kernel_rfl
theorem f33:fieldsAt 33=[(4,0),(31,1),(25,2)]:=by kernel_rfl
theorem f42:fieldsAt 42=[(3,0),(3,1),(3,2),(3,3),(3,4),(3,5),(3,6),(3,7),(40,8)]:=by kernel_rfl
theorem z3:P.cellsOf 3=1:=by kernel_rfl
theorem z4:P.cellsOf 4=1:=by kernel_rfl
theorem z22:P.cellsOf 22=1:=by kernel_rfl
theorem z28:P.cellsOf 28=1:=by kernel_rfl
theorem z31:P.cellsOf 31=1:=by kernel_rfl
theorem z25:P.cellsOf 25=1:=by kernel_rfl
theorem z40:P.cellsOf 40=3:=by kernel_rfl
theorem z24:P.cellsOf 24=1:=by kernel_rfl
theorem z30:P.cellsOf 30=3:=by kernel_rfl
theorem z33:P.cellsOf 33=3:=by kernel_rfl
theorem z42:P.cellsOf 42=11:=by kernel_rfl
theorem xA4 {n:Nat} {c:Value} {y:DataW H × List MemPlace} (h:DataW.trod enc P w 0 sp true n 3 [c]=some y):∃ k,c=.int .i64 k:=by
 obtain ⟨k,hk,_⟩:=DataW.trod_int u3 h
 exact ⟨k,by simpa using hk⟩
theorem len11 {α:Type} {l:List α} (h:l.length=11):∃ a0 a1 a2 a3 a4 a5 a6 a7 a8 a9 a10,l=[a0,a1,a2,a3,a4,a5,a6,a7,a8,a9,a10]:=by
 match l,h with
 | [a0,a1,a2,a3,a4,a5,a6,a7,a8,a9,a10],_=>exact ⟨a0,a1,a2,a3,a4,a5,a6,a7,a8,a9,a10,rfl⟩
theorem len3 {α:Type} {l:List α} (h:l.length=3):∃ a0 a1 a2,l=[a0,a1,a2]:=by
 match l,h with
 | [a0,a1,a2],_=>exact ⟨a0,a1,a2,rfl⟩
theorem xLu:Opens enc w sp 42 insc:=by
 intro fuel cs x h
 obtain ⟨hl,n,hf⟩:=xDy u42 f42 h
 rw [z42] at hl
 obtain ⟨c0,c1,c2,c3,c4,c5,c6,c7,c8,c9,c10,rfl⟩:=len11 hl
 obtain ⟨y0,h0⟩:=hf 0 3 0 rfl
 obtain ⟨y1,h1⟩:=hf 1 3 1 rfl
 obtain ⟨y2,h2⟩:=hf 2 3 2 rfl
 obtain ⟨y3,h3⟩:=hf 3 3 3 rfl
 obtain ⟨y4,h4⟩:=hf 4 3 4 rfl
 obtain ⟨y5,h5⟩:=hf 5 3 5 rfl
 obtain ⟨y6,h6⟩:=hf 6 3 6 rfl
 obtain ⟨y7,h7⟩:=hf 7 3 7 rfl
 obtain ⟨y8,h8⟩:=hf 8 40 8 rfl
 rw [z3] at h0 h1 h2 h3 h4 h5 h6 h7
 rw [z40] at h8
 obtain ⟨k0,rfl⟩:=xA4 (c:=c0) h0
 obtain ⟨k1,rfl⟩:=xA4 (c:=c1) h1
 obtain ⟨k2,rfl⟩:=xA4 (c:=c2) h2
 obtain ⟨k3,rfl⟩:=xA4 (c:=c3) h3
 obtain ⟨k4,rfl⟩:=xA4 (c:=c4) h4
 obtain ⟨k5,rfl⟩:=xA4 (c:=c5) h5
 obtain ⟨k6,rfl⟩:=xA4 (c:=c6) h6
 obtain ⟨k7,rfl⟩:=xA4 (c:=c7) h7
 obtain ⟨xs,m,rfl,rfl,_,hxs,ha⟩:=DataW.trod_array u40 h8
 obtain ⟨a0,a1,a2,rfl⟩:=len3 hxs
 have g0:=ha 0 (by omega)
 have g1:=ha 1 (by omega)
 have g2:=ha 2 (by omega)
 rw [z3] at g0 g1 g2
 obtain ⟨k8,rfl⟩:=xA4 (c:=c8) (y:=a0) g0
 obtain ⟨k9,rfl⟩:=xA4 (c:=c9) (y:=a1) g1
 obtain ⟨k10,rfl⟩:=xA4 (c:=c10) (y:=a2) g2
 refine ⟨⟨k0,k1,k2,k3,k4,k5,k6,k7,k8,k9,k10⟩,?_,?_⟩
 ·simp only [insc]
  repeat first | exact .nil | refine .cons _ _ _ _ (.int _ _) ?_
 ·intro v hv
  simp only [insc,List.mem_cons,List.not_mem_nil,or_false] at hv
  rcases hv with rfl | rfl | rfl | rfl | rfl | rfl | rfl | rfl | rfl | rfl | rfl <;> rfl
theorem xFe {α:Type} {z:Bool} {e:α->List AV} {sz:Nat} {l:List α}:(encN z e sz l).solid=true:=(xGm (z:=z) (e:=e) (sz:=sz) (l:=l)).solid
theorem xLv {C:Ctx} {c:Value} {x:AV} (h:VRs C [c] [x]):VR C c x:=by cases h;assumption
theorem xLw:Opens enc w sp 33 blkc:=by
 intro fuel cs x h
 obtain ⟨hl,n,hf⟩:=xDy u33 f33 h
 rw [z33] at hl
 obtain ⟨c0,c1,c2,rfl⟩:=len3 hl
 obtain ⟨y0,h0⟩:=hf 0 4 0 rfl
 obtain ⟨y1,h1⟩:=hf 1 31 1 rfl
 obtain ⟨y2,h2⟩:=hf 2 25 2 rfl
 rw [z4] at h0
 rw [z31] at h1
 rw [z25] at h2
 obtain ⟨b,hb,_⟩:=DataW.trod_bool u4 h0
 obtain rfl:c0=.bool b:=by simpa using hb
 obtain ⟨⟨zi,li⟩,hi,_⟩:=xCT u31 z42 (by omega) (fun _=>rfl) xLu n [c1] y1 h1
 obtain ⟨⟨zo,lo⟩,ho,_⟩:=xCT u25 z3 (by omega) (fun _=>rfl) (xQh u3) n [c2] y2 h2
 refine ⟨⟨b,li,zi,lo,zo⟩,?_,?_⟩
 ·exact .cons _ _ _ _ (.bool b) (.cons _ _ _ _ (xLv hi) (.cons _ _ _ _ (xLv ho) .nil))
 ·intro v hv
  simp only [blkc,List.mem_cons,List.not_mem_nil,or_false] at hv
  rcases hv with rfl | rfl | rfl
  ·rfl
  ·exact xFe
  ·exact xFe
theorem xQi:Opens enc w sp 30 func:=by
 intro fuel cs x h
 obtain ⟨hl,n,hf⟩:=xDy u30 f30 h
 rw [z30] at hl
 obtain ⟨c0,c1,c2,rfl⟩:=len3 hl
 obtain ⟨y0,h0⟩:=hf 0 3 0 rfl
 obtain ⟨y1,h1⟩:=hf 1 3 1 rfl
 obtain ⟨y2,h2⟩:=hf 2 28 2 rfl
 rw [z3] at h0 h1
 rw [z28] at h2
 obtain ⟨k0,rfl⟩:=xA4 (c:=c0) h0
 obtain ⟨k1,rfl⟩:=xA4 (c:=c1) h1
 obtain ⟨⟨zb,lb⟩,hb,_⟩:=xCT u28 z33 (by omega) (fun _=>rfl) xLw n [c2] y2 h2
 refine ⟨⟨k0,k1,lb,zb⟩,?_,?_⟩
 ·exact .cons _ _ _ _ (.int _ _) (.cons _ _ _ _ (.int _ _) (.cons _ _ _ _ (xLv hb) .nil))
 ·intro v hv
  simp only [func,List.mem_cons,List.not_mem_nil,or_false] at hv
  rcases hv with rfl | rfl | rfl
  ·rfl
  ·rfl
  ·exact xFe
theorem xNO:Opens enc w sp 24 (fun p:Prg=>[p.funsV]):=by
 intro fuel cs x h
 obtain ⟨hl,n,hf⟩:=xDy u24 f24 h
 rw [z24] at hl
 obtain ⟨c0,rfl⟩:=List.length_eq_one_iff.1 hl
 obtain ⟨y0,h0⟩:=hf 0 22 0 rfl
 rw [z22] at h0
 obtain ⟨⟨zb,lb⟩,hb,hs⟩:=xCT u22 z30 (by omega) (fun _=>rfl) xQi n [c0] y0 h0
 exact ⟨⟨lb,zb⟩,hb,hs⟩
end
end Go.Proofs.YtnhfofmhkfdpgaaGreatDoor.Vm
