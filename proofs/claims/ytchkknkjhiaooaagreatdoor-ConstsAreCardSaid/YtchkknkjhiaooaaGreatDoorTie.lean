/-
  DERIVED. GIVEN WITH THE SEED: THE PROGRAM's TIES (one call each: nine closed facts by the kernel) AND EACH ROW's TIE, after the 31st guide's Derived/Test/Toyas{Tie, Card}.lean. No idea stands in it: it is a product of the set-up. Laid BY PROGRAM, IN A SANDBOX (cutbox-door.mjs). By AI agents, Wed Nov 11 2026. No macro, syntax, notation, axiom, sorry.
-/
import Derived.Test.YtchkknkjhiaooaaGreatDoorRows
import Derived.LaidByTextLater
import Derived.SevenTiedAt
import Derived.LaidSub
import Derived.LaidOnce
namespace Go.Proofs.YtchkknkjhiaooaaGreatDoor
open Go
set_option maxRecDepth 100000
theorem seatTie1 : Tryz.prog.laidByTextLater [("errors.errorType", Rows.laid_errors_errorType), ("unicode.White_Space", Rows.laid_unicode_White_Space), ("strings.asciiSpace", Rows.laid_strings_asciiSpace)] [.handle, .listed, .data] true :=
  Program.laidByTextLater_by_one 40 8 257 (by kernel_rfl) (by kernel_rfl) (by kernel_rfl) (by kernel_rfl) (by kernel_rfl) (by kernel_rfl) (fun _ _ => by kernel_rfl)
theorem noOwnUnsafe : Tryz.pinned.checked.prog.headLifts.contains "ownunsafe" = false := by kernel_rfl
theorem tie : Tryz.prog.laidByTextLater [("errors.errorType", Rows.laid_errors_errorType), ("unicode.White_Space", Rows.laid_unicode_White_Space), ("strings.asciiSpace", Rows.laid_strings_asciiSpace)] [.handle, .listed, .data] true :=
  Program.laidByTextLater.sub seatTie1 ["errors.errorType", "unicode.White_Space", "strings.asciiSpace"] (by kernel_rfl) (by kernel_rfl)
theorem liveWay_row_tie : Rows.liveWayRow.laidByTextAt .later Tryz.pinned [.handle, .listed, .data] true :=
  OpenClaim.laidByTextAt_later rfl rfl tie noOwnUnsafe
theorem liveWalk_row_tie : Rows.liveWalkRow.laidByTextAt .later Tryz.pinned [.handle, .listed, .data] true :=
  OpenClaim.laidByTextAt_later rfl rfl tie noOwnUnsafe
theorem constsAre_row_tie : Rows.constsAreRow.laidByTextAt .later Tryz.pinned [.handle, .listed, .data] true :=
  OpenClaim.laidByTextAt_later rfl rfl tie noOwnUnsafe
theorem constsStart_row_tie : Rows.constsStartRow.laidByTextAt .later Tryz.pinned [.handle, .listed, .data] true :=
  OpenClaim.laidByTextAt_later rfl rfl tie noOwnUnsafe
theorem constsTell_row_tie : Rows.constsTellRow.laidByTextAt .later Tryz.pinned [.handle, .listed, .data] true :=
  OpenClaim.laidByTextAt_later rfl rfl tie noOwnUnsafe
theorem constsLeast_row_tie : Rows.constsLeastRow.laidByTextAt .later Tryz.pinned [.handle, .listed, .data] true :=
  OpenClaim.laidByTextAt_later rfl rfl tie noOwnUnsafe
theorem constsSteps_row_tie : Rows.constsStepsRow.laidByTextAt .later Tryz.pinned [.handle, .listed, .data] true :=
  OpenClaim.laidByTextAt_later rfl rfl tie noOwnUnsafe
theorem liveDead_row_tie : Rows.liveDeadRow.laidByTextAt .later Tryz.pinned [.handle, .listed, .data] true :=
  OpenClaim.laidByTextAt_later rfl rfl tie noOwnUnsafe
theorem constsReached_row_tie : Rows.constsReachedRow.laidByTextAt .later Tryz.pinned [.handle, .listed, .data] true :=
  OpenClaim.laidByTextAt_later rfl rfl tie noOwnUnsafe
theorem liveRead_row_tie : Rows.liveReadRow.laidByTextAt .later Tryz.pinned [.handle, .listed, .data] true :=
  OpenClaim.laidByTextAt_later rfl rfl tie noOwnUnsafe
theorem constsEdge_row_tie : Rows.constsEdgeRow.laidByTextAt .later Tryz.pinned [.handle, .listed, .data] true :=
  OpenClaim.laidByTextAt_later rfl rfl tie noOwnUnsafe
theorem liveWayUpto_row_tie : Rows.liveWayUptoRow.laidByTextAt .later Tryz.pinned [.handle, .listed, .data] true :=
  OpenClaim.laidByTextAt_later rfl rfl tie noOwnUnsafe
theorem liveWalkUpto_row_tie : Rows.liveWalkUptoRow.laidByTextAt .later Tryz.pinned [.handle, .listed, .data] true :=
  OpenClaim.laidByTextAt_later rfl rfl tie noOwnUnsafe
theorem constsAreUpto_row_tie : Rows.constsAreUptoRow.laidByTextAt .later Tryz.pinned [.handle, .listed, .data] true :=
  OpenClaim.laidByTextAt_later rfl rfl tie noOwnUnsafe
theorem constsStartUpto_row_tie : Rows.constsStartUptoRow.laidByTextAt .later Tryz.pinned [.handle, .listed, .data] true :=
  OpenClaim.laidByTextAt_later rfl rfl tie noOwnUnsafe
theorem constsTellUpto_row_tie : Rows.constsTellUptoRow.laidByTextAt .later Tryz.pinned [.handle, .listed, .data] true :=
  OpenClaim.laidByTextAt_later rfl rfl tie noOwnUnsafe
theorem constsLeastUpto_row_tie : Rows.constsLeastUptoRow.laidByTextAt .later Tryz.pinned [.handle, .listed, .data] true :=
  OpenClaim.laidByTextAt_later rfl rfl tie noOwnUnsafe
theorem constsStepsUpto_row_tie : Rows.constsStepsUptoRow.laidByTextAt .later Tryz.pinned [.handle, .listed, .data] true :=
  OpenClaim.laidByTextAt_later rfl rfl tie noOwnUnsafe
theorem liveDeadUpto_row_tie : Rows.liveDeadUptoRow.laidByTextAt .later Tryz.pinned [.handle, .listed, .data] true :=
  OpenClaim.laidByTextAt_later rfl rfl tie noOwnUnsafe
theorem constsReachedUpto_row_tie : Rows.constsReachedUptoRow.laidByTextAt .later Tryz.pinned [.handle, .listed, .data] true :=
  OpenClaim.laidByTextAt_later rfl rfl tie noOwnUnsafe
theorem liveReadUpto_row_tie : Rows.liveReadUptoRow.laidByTextAt .later Tryz.pinned [.handle, .listed, .data] true :=
  OpenClaim.laidByTextAt_later rfl rfl tie noOwnUnsafe
theorem constsEdgeUpto_row_tie : Rows.constsEdgeUptoRow.laidByTextAt .later Tryz.pinned [.handle, .listed, .data] true :=
  OpenClaim.laidByTextAt_later rfl rfl tie noOwnUnsafe
end Go.Proofs.YtchkknkjhiaooaaGreatDoor
