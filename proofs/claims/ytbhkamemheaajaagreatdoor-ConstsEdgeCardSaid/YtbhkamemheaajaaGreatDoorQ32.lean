/- A part of the proof: Ic. -/
import Derived.Test.YtbhkamemheaajaaGreatDoorRows
import Derived.ChangeSame
import Derived.ChangeVars
import Derived.JoinedOf
import Derived.RowKitTokens
import Derived.LaidLaws
import Derived.LaidHandle
import Derived.Stop.Joined
import Derived.Lib.LaidTab
import Derived.Lib.SpaceR
import Derived.Test.YtbhkamemheaajaaGreatDoorQ31
set_option linter.unusedVariables false
set_option linter.unusedSimpArgs false
set_option linter.constructorNameAsVariable false
namespace Go.Proofs.YtbhkamemheaajaaGreatDoor.Vm
open Go Go.RowKit Go.ChangeShapes Go.WideShapes
def laidL : List (String × DataW Unit) := [("errors.errorType", Rows.laid_errors_errorType), ("unicode.White_Space", Rows.laid_unicode_White_Space), ("strings.asciiSpace", Rows.laid_strings_asciiSpace)]
theorem own0:ownKnob P.godebug=none:=by kernel_rfl
theorem laidOut0:laidOutB P=true:=by kernel_rfl
theorem gE : P.globalNamed "errors.errorType" = some 0 := by kernel_rfl
theorem gS : P.globalNamed "strings.asciiSpace" = some 2 := by kernel_rfl
theorem gSt:(P.globals[2]?).map (·.type)=some 270:=by kernel_rfl
theorem u270:P.underlying 270=some (.array 256 5):=by kernel_rfl
theorem u9:P.underlying 5=some (.int .u8):=by kernel_rfl
theorem z9:P.cellsOf 5=1:=by kernel_rfl
theorem z270:P.cellsOf 270=256:=by kernel_rfl
theorem eRt : (P.cutTypes.find? (·.1 == "internal/reflectlite.rtype")).map (·.2) = some 201 := by kernel_rfl
theorem eRow:((List.range P.types.size).filter fun t=>P.rowNamed t [101,114,114,111,114])=[87]:=by kernel_rfl
theorem eHandle:typeHandle P 87=.pointer (some ⟨6,87,none⟩):=by kernel_rfl
theorem sTab:(Rows.laid_strings_asciiSpace:DataW Unit)=Lib.tabData .u8 Lib.asciiSpaceTab:=by kernel_rfl
theorem laidVars_pick {Q:Program} {W:World} {n:String} {d:DataW Unit}:∀{L:List (String × DataW Unit)} {ps:List MemPlace},DataW.LaidVars Q W L ps→(n,d) ∈ L→∃ g t cs fuel p,Q.globalNamed n=some g∧(Q.globals[g]?).map (·.type)=some t∧W.var? Q n=some cs∧DataW.trod (fun _=>()) Q W 0 (fun _=>true) false fuel t cs.toList=some (d,p)
 | [],_,_,hm=>by cases hm
 | (n',d') :: L,ps,h,hm=>by
  obtain ⟨g,t,cs,fuel,p,q,h1,h2,h3,h4,h5,_⟩:=h
  rcases List.mem_cons.1 hm with e | hm
  ·cases e
   exact ⟨g,t,cs,fuel,p,h1,h2,h3,h4⟩
  ·exact laidVars_pick h5 hm
def laidV : List (String × DataW Unit) := [("unicode.White_Space", Rows.laid_unicode_White_Space), ("strings.asciiSpace", Rows.laid_strings_asciiSpace)]
theorem laid_two {W : World} (h : laidMetH P laidL W) : laidMet P laidV W ∧ handlesMet P [("errors.errorType", Rows.laid_errors_errorType)] W := h
theorem laid_err {W:World} (h:laidMetH P laidL W):errMet W:=by
 obtain ⟨name,u,ty,e1,e2,e3,e4,e5⟩:=(laid_two h).2 _ (List.mem_singleton.2 rfl)
 have en:name=[101,114,114,111,114]:=(Option.some.inj e1).symm
 subst en
 obtain rfl:=Option.some.inj (eRt.symm.trans e2)
 have hm:ty ∈ (List.range P.types.size).filter fun t=>P.rowNamed t [101,114,114,111,114]:=List.mem_filter.2 ⟨List.mem_range.2 e3,e4⟩
 rw [eRow] at hm
 obtain rfl:=List.mem_singleton.1 hm
 rw [eHandle] at e5
 unfold errMet
 simpa using World.var?_cell gE e5 0
theorem laid_tab {W : World} (h : laidMetH P laidL W) : Lib.TabIs P W "strings.asciiSpace" .u8 Lib.asciiSpaceTab := by
 obtain ⟨ps,hv,_⟩:=(laid_two h).1
 obtain ⟨g', t', cs, fuel, p, hg', ht', hvar, hd⟩ := laidVars_pick (n := "strings.asciiSpace") (d := Rows.laid_strings_asciiSpace) hv (by unfold laidV; simp)
 obtain rfl:=Option.some.inj (gS.symm.trans hg')
 obtain rfl:=Option.some.inj (gSt.symm.trans ht')
 unfold Lib.TabIs
 rw [sTab] at hd
 rw [hvar,← Lib.cells_of_tab u270 u9 z9 z270 hd]
theorem laid_gl {W:World} (h:laidMetH P laidL W):(gl W.heap.size).G W:=by
 refine ⟨⟨Nat.le_refl _,Lib.tabBelow_of_tabIs (laid_tab h)⟩,?_,laid_err h⟩
 have:=laid_err h
 unfold errMet World.cell? at this
 cases hh:W.heap[0]? with
 | none=>simp [hh] at this
 | some o=>exact (Array.getElem?_eq_some_iff.1 hh).1
noncomputable def laidWorld (os:Os):World :=
 let n:=(World.settled P os).heap.size
 let w0:=World.holding P os ⟨#[.cells (Lib.whiteT.map fun (z:Nat)=>Value.int .u16 (z:Int)).toArray 326,.cells #[.slice (some ⟨n,0,none⟩) 7 7,.slice none 0 0,.int .i64 2] 323],#[],[]⟩
 let put (h:Array Obj) (g:Nat) (cs:Array Value):Array Obj:=h.modify g fun
  | .cells _ t frozen=>.cells cs t frozen
  | o=>o
 let h1:=put w0.heap 2 (Lib.asciiSpaceTab.map fun z=>Value.int .u8 z).toArray
 let h2:=put h1 0 #[.iface 201 (.agg #[.pointer (some ⟨6,87,none⟩)])]
 let h3:=put h2 4 #[.pointer (some ⟨n + 1,0,none⟩)]
 { w0 with heap:=h3 }
theorem laidWorld_met (os:Os) (args:Array Value):laidMetH P laidL ((laidWorld os).forCall (fun _ _=>0) ⟨#[],args,[]⟩).memory :=
 laidMetH_of_parts (laidMet_of_run' 10 (by kernel_rfl) (by kernel_rfl)) (by kernel_rfl)
end Go.Proofs.YtbhkamemheaajaaGreatDoor.Vm
