/-
  DERIVED. GIVEN WITH THE SEED: THE PROGRAM's TIES (one call each: nine closed facts by the kernel) AND EACH ROW's TIE, after the 31st guide's Derived/Test/Toyas{Tie, Card}.lean. No idea stands in it: it is a product of the set-up. Laid BY PROGRAM, IN A SANDBOX (cutbox-door.mjs). By AI agents, Wed Nov 11 2026. No macro, syntax, notation, axiom, sorry.
-/
import Derived.Test.YtnhfofmhkfdpgaaGreatDoorRows
import Derived.LaidByTextLater
import Derived.SevenTiedAt
import Derived.LaidSub
import Derived.LaidOnce
namespace Go.Proofs.YtnhfofmhkfdpgaaGreatDoor
open Go
set_option maxRecDepth 100000
theorem seatTie1 : Tryz.prog.laidByTextLater [("errors.errorType", Rows.laid_errors_errorType), ("unicode.White_Space", Rows.laid_unicode_White_Space), ("strings.asciiSpace", Rows.laid_strings_asciiSpace)] [.handle, .listed, .data] true :=
  Program.laidByTextLater_by_one 40 8 257 (by kernel_rfl) (by kernel_rfl) (by kernel_rfl) (by kernel_rfl) (by kernel_rfl) (by kernel_rfl) (fun _ _ => by kernel_rfl)
theorem noOwnUnsafe : Tryz.pinned.checked.prog.headLifts.contains "ownunsafe" = false := by kernel_rfl
theorem tie : Tryz.prog.laidByTextLater [("errors.errorType", Rows.laid_errors_errorType), ("unicode.White_Space", Rows.laid_unicode_White_Space), ("strings.asciiSpace", Rows.laid_strings_asciiSpace)] [.handle, .listed, .data] true :=
  Program.laidByTextLater.sub seatTie1 ["errors.errorType", "unicode.White_Space", "strings.asciiSpace"] (by kernel_rfl) (by kernel_rfl)
theorem signsRun_row_tie : Rows.signsRunRow.laidByTextAt .later Tryz.pinned [.handle, .listed, .data] true :=
  OpenClaim.laidByTextAt_later rfl rfl tie noOwnUnsafe
theorem signsEquations_row_tie : Rows.signsEquationsRow.laidByTextAt .later Tryz.pinned [.handle, .listed, .data] true :=
  OpenClaim.laidByTextAt_later rfl rfl tie noOwnUnsafe
theorem signsCalled_row_tie : Rows.signsCalledRow.laidByTextAt .later Tryz.pinned [.handle, .listed, .data] true :=
  OpenClaim.laidByTextAt_later rfl rfl tie noOwnUnsafe
theorem signsConsts_row_tie : Rows.signsConstsRow.laidByTextAt .later Tryz.pinned [.handle, .listed, .data] true :=
  OpenClaim.laidByTextAt_later rfl rfl tie noOwnUnsafe
theorem signsEdge_row_tie : Rows.signsEdgeRow.laidByTextAt .later Tryz.pinned [.handle, .listed, .data] true :=
  OpenClaim.laidByTextAt_later rfl rfl tie noOwnUnsafe
theorem signsRunUpto_row_tie : Rows.signsRunUptoRow.laidByTextAt .later Tryz.pinned [.handle, .listed, .data] true :=
  OpenClaim.laidByTextAt_later rfl rfl tie noOwnUnsafe
theorem signsEquationsUpto_row_tie : Rows.signsEquationsUptoRow.laidByTextAt .later Tryz.pinned [.handle, .listed, .data] true :=
  OpenClaim.laidByTextAt_later rfl rfl tie noOwnUnsafe
theorem signsCalledUpto_row_tie : Rows.signsCalledUptoRow.laidByTextAt .later Tryz.pinned [.handle, .listed, .data] true :=
  OpenClaim.laidByTextAt_later rfl rfl tie noOwnUnsafe
theorem signsConstsUpto_row_tie : Rows.signsConstsUptoRow.laidByTextAt .later Tryz.pinned [.handle, .listed, .data] true :=
  OpenClaim.laidByTextAt_later rfl rfl tie noOwnUnsafe
theorem signsEdgeUpto_row_tie : Rows.signsEdgeUptoRow.laidByTextAt .later Tryz.pinned [.handle, .listed, .data] true :=
  OpenClaim.laidByTextAt_later rfl rfl tie noOwnUnsafe
end Go.Proofs.YtnhfofmhkfdpgaaGreatDoor
