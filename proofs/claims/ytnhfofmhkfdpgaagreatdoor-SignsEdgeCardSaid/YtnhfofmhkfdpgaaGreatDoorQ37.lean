/- A part of the proof: Ic. -/
import Derived.Test.YtnhfofmhkfdpgaaGreatDoorRows
import Derived.ChangeSame
import Derived.ChangeVars
import Derived.JoinedOf
import Derived.RowKitTokens
import Derived.LaidLaws
import Derived.LaidHandle
import Derived.Stop.Joined
import Derived.Lib.LaidTab
import Derived.Lib.SpaceR
import Derived.Test.YtnhfofmhkfdpgaaGreatDoorQ36
set_option linter.unusedVariables false
set_option linter.unusedSimpArgs false
set_option linter.constructorNameAsVariable false
namespace Go.Proofs.YtnhfofmhkfdpgaaGreatDoor.Vm
open Go Go.RowKit Go.ChangeShapes Go.WideShapes
def laidL : List (String × DataW Unit) := [("errors.errorType", Rows.laid_errors_errorType), ("unicode.White_Space", Rows.laid_unicode_White_Space), ("strings.asciiSpace", Rows.laid_strings_asciiSpace)]
theorem own0:ownKnob P.godebug=none:=by kernel_rfl
theorem laidOut0:laidOutB P=true:=by kernel_rfl
theorem igE : P.globalNamed "errors.errorType" = some 0 := by kernel_rfl
theorem igS : P.globalNamed "strings.asciiSpace" = some 1 := by kernel_rfl
theorem igSt:(P.globals[1]?).map (·.type)=some 282:=by kernel_rfl
theorem u282:P.underlying 282=some (.array 256 5):=by kernel_rfl
theorem u9:P.underlying 5=some (.int .u8):=by kernel_rfl
theorem z9:P.cellsOf 5=1:=by kernel_rfl
theorem z282:P.cellsOf 282=256:=by kernel_rfl
theorem eRt : (P.cutTypes.find? (·.1 == "internal/reflectlite.rtype")).map (·.2) = some 193 := by kernel_rfl
theorem eRow:((List.range P.types.size).filter fun t=>P.rowNamed t [101,114,114,111,114])=[89]:=by kernel_rfl
theorem eHandle:typeHandle P 89=.pointer (some ⟨5,89,none⟩):=by kernel_rfl
theorem sTab:(Rows.laid_strings_asciiSpace:DataW Unit)=Lib.tabData .u8 Lib.asciiSpaceTab:=by kernel_rfl
theorem xMy {W:World} (h:laidMetH P laidL W):errMet W:=by
 have h' : laidMet P [("unicode.White_Space", Rows.laid_unicode_White_Space), ("strings.asciiSpace", Rows.laid_strings_asciiSpace)] W ∧ handlesMet P [("errors.errorType", Rows.laid_errors_errorType)] W := h
 obtain ⟨name,u,ty,e1,e2,e3,e4,e5⟩:=h'.2 _ (List.mem_singleton.2 rfl)
 have en:name=[101,114,114,111,114]:=(Option.some.inj e1).symm
 subst en
 obtain rfl:=Option.some.inj (eRt.symm.trans e2)
 have hm:ty ∈ (List.range P.types.size).filter fun t=>P.rowNamed t [101,114,114,111,114]:=List.mem_filter.2 ⟨List.mem_range.2 e3,e4⟩
 rw [eRow] at hm
 obtain rfl:=List.mem_singleton.1 hm
 rw [eHandle] at e5
 unfold errMet
 simpa using World.var?_cell igE e5 0
theorem xRN {W : World} (h : laidMetH P laidL W) : Lib.TabIs P W "strings.asciiSpace" .u8 Lib.asciiSpaceTab := by
 have h' : laidMet P [("unicode.White_Space", Rows.laid_unicode_White_Space), ("strings.asciiSpace", Rows.laid_strings_asciiSpace)] W ∧ handlesMet P [("errors.errorType", Rows.laid_errors_errorType)] W := h
 obtain ⟨ps,⟨_,_,_,_,_,q,_,_,_,_,⟨g',t',cs,fuel,p,q',hg',ht',hvar,hd,_,_⟩,_⟩,_⟩:=h'.1
 obtain rfl:=Option.some.inj (igS.symm.trans hg')
 obtain rfl:=Option.some.inj (igSt.symm.trans ht')
 unfold Lib.TabIs
 rw [sTab] at hd
 rw [hvar,<- Lib.cells_of_tab u282 u9 z9 z282 hd]
theorem xQj {W:World} (h:laidMetH P laidL W):(gl W.heap.size).G W:=by
 refine ⟨⟨Nat.le_refl _,Lib.tabBelow_of_tabIs (xRN h)⟩,?_,xMy h⟩
 have:=xMy h
 unfold errMet World.cell? at this
 cases hh:W.heap[0]? with
 | none=>simp [hh] at this
 | some o=>exact (Array.getElem?_eq_some_iff.1 hh).1
noncomputable def laidWorld (os:Os):World :=
 let n:=(World.settled P os).heap.size
 let w0:=World.holding P os ⟨#[.cells (Lib.whiteT.map fun (z:Nat)=>Value.int .u16 (z:Int)).toArray 329,.cells #[.slice (some ⟨n,0,none⟩) 7 7,.slice none 0 0,.int .i64 2] 326],#[],[]⟩
 let put (h:Array Obj) (g:Nat) (cs:Array Value):Array Obj:=h.modify g fun
  | .cells _ t frozen=>.cells cs t frozen
  | o=>o
 let h1:=put w0.heap 1 (Lib.asciiSpaceTab.map fun z=>Value.int .u8 z).toArray
 let h2:=put h1 0 #[.iface 193 (.agg #[.pointer (some ⟨5,89,none⟩)])]
 let h3:=put h2 2 #[.pointer (some ⟨n + 1,0,none⟩)]
 { w0 with heap:=h3 }
theorem xEz (os:Os) (args:Array Value):laidMetH P laidL ((laidWorld os).forCall (fun _ _=>0) ⟨#[],args,[]⟩).memory :=
 laidMetH_of_parts (laidMet_of_run' 10 (by kernel_rfl) (by kernel_rfl)) (by kernel_rfl)
end Go.Proofs.YtnhfofmhkfdpgaaGreatDoor.Vm
