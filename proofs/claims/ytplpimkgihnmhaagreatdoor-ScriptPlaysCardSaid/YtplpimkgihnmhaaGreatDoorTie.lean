/-
  DERIVED. GIVEN WITH THE SEED: THE PROGRAM's TIES (one call each: nine closed facts by the kernel) AND EACH ROW's TIE, after the 31st guide's Derived/Test/Toyas{Tie, Card}.lean. No idea stands in it: it is a product of the set-up. Laid BY PROGRAM, IN A SANDBOX (cutbox-door.mjs). By AI agents, Wed Nov 11 2026. No macro, syntax, notation, axiom, sorry.
-/
import Derived.Test.YtplpimkgihnmhaaGreatDoorRows
import Derived.LaidByTextLater
import Derived.SevenTiedAt
import Derived.LaidSub
import Derived.LaidOnce
namespace Go.Proofs.YtplpimkgihnmhaaGreatDoor
open Go
set_option maxRecDepth 100000
theorem seatTie1 : Tryz.prog.laidByTextLater [("errors.errorType", Rows.laid_errors_errorType), ("unicode.White_Space", Rows.laid_unicode_White_Space), ("strings.asciiSpace", Rows.laid_strings_asciiSpace)] [.handle, .listed, .data] true :=
  Program.laidByTextLater_by_one 40 8 257 (by kernel_rfl) (by kernel_rfl) (by kernel_rfl) (by kernel_rfl) (by kernel_rfl) (by kernel_rfl) (fun _ _ => by kernel_rfl)
theorem noOwnUnsafe : Tryz.pinned.checked.prog.headLifts.contains "ownunsafe" = false := by kernel_rfl
theorem tie : Tryz.prog.laidByTextLater [("errors.errorType", Rows.laid_errors_errorType), ("unicode.White_Space", Rows.laid_unicode_White_Space), ("strings.asciiSpace", Rows.laid_strings_asciiSpace)] [.handle, .listed, .data] true :=
  Program.laidByTextLater.sub seatTie1 ["errors.errorType", "unicode.White_Space", "strings.asciiSpace"] (by kernel_rfl) (by kernel_rfl)
theorem workerSteps_row_tie : Rows.workerStepsRow.laidByTextAt .later Tryz.pinned [.handle, .listed, .data] true :=
  OpenClaim.laidByTextAt_later rfl rfl tie noOwnUnsafe
theorem shopDoes_row_tie : Rows.shopDoesRow.laidByTextAt .later Tryz.pinned [.handle, .listed, .data] true :=
  OpenClaim.laidByTextAt_later rfl rfl tie noOwnUnsafe
theorem shopHistory_row_tie : Rows.shopHistoryRow.laidByTextAt .later Tryz.pinned [.handle, .listed, .data] true :=
  OpenClaim.laidByTextAt_later rfl rfl tie noOwnUnsafe
theorem shopCosts_row_tie : Rows.shopCostsRow.laidByTextAt .later Tryz.pinned [.handle, .listed, .data] true :=
  OpenClaim.laidByTextAt_later rfl rfl tie noOwnUnsafe
theorem shopDeeds_row_tie : Rows.shopDeedsRow.laidByTextAt .later Tryz.pinned [.handle, .listed, .data] true :=
  OpenClaim.laidByTextAt_later rfl rfl tie noOwnUnsafe
theorem shopRecords_row_tie : Rows.shopRecordsRow.laidByTextAt .later Tryz.pinned [.handle, .listed, .data] true :=
  OpenClaim.laidByTextAt_later rfl rfl tie noOwnUnsafe
theorem shopCalls_row_tie : Rows.shopCallsRow.laidByTextAt .later Tryz.pinned [.handle, .listed, .data] true :=
  OpenClaim.laidByTextAt_later rfl rfl tie noOwnUnsafe
theorem shopSteps_row_tie : Rows.shopStepsRow.laidByTextAt .later Tryz.pinned [.handle, .listed, .data] true :=
  OpenClaim.laidByTextAt_later rfl rfl tie noOwnUnsafe
theorem shopRuns_row_tie : Rows.shopRunsRow.laidByTextAt .later Tryz.pinned [.handle, .listed, .data] true :=
  OpenClaim.laidByTextAt_later rfl rfl tie noOwnUnsafe
theorem shopCrashes_row_tie : Rows.shopCrashesRow.laidByTextAt .later Tryz.pinned [.handle, .listed, .data] true :=
  OpenClaim.laidByTextAt_later rfl rfl tie noOwnUnsafe
theorem scriptPlays_row_tie : Rows.scriptPlaysRow.laidByTextAt .later Tryz.pinned [.handle, .listed, .data] true :=
  OpenClaim.laidByTextAt_later rfl rfl tie noOwnUnsafe
theorem workerStepsUpto_row_tie : Rows.workerStepsUptoRow.laidByTextAt .later Tryz.pinned [.handle, .listed, .data] true :=
  OpenClaim.laidByTextAt_later rfl rfl tie noOwnUnsafe
theorem shopDoesUpto_row_tie : Rows.shopDoesUptoRow.laidByTextAt .later Tryz.pinned [.handle, .listed, .data] true :=
  OpenClaim.laidByTextAt_later rfl rfl tie noOwnUnsafe
theorem shopHistoryUpto_row_tie : Rows.shopHistoryUptoRow.laidByTextAt .later Tryz.pinned [.handle, .listed, .data] true :=
  OpenClaim.laidByTextAt_later rfl rfl tie noOwnUnsafe
theorem shopCostsUpto_row_tie : Rows.shopCostsUptoRow.laidByTextAt .later Tryz.pinned [.handle, .listed, .data] true :=
  OpenClaim.laidByTextAt_later rfl rfl tie noOwnUnsafe
theorem shopDeedsUpto_row_tie : Rows.shopDeedsUptoRow.laidByTextAt .later Tryz.pinned [.handle, .listed, .data] true :=
  OpenClaim.laidByTextAt_later rfl rfl tie noOwnUnsafe
theorem shopRecordsUpto_row_tie : Rows.shopRecordsUptoRow.laidByTextAt .later Tryz.pinned [.handle, .listed, .data] true :=
  OpenClaim.laidByTextAt_later rfl rfl tie noOwnUnsafe
theorem shopCallsUpto_row_tie : Rows.shopCallsUptoRow.laidByTextAt .later Tryz.pinned [.handle, .listed, .data] true :=
  OpenClaim.laidByTextAt_later rfl rfl tie noOwnUnsafe
theorem shopStepsUpto_row_tie : Rows.shopStepsUptoRow.laidByTextAt .later Tryz.pinned [.handle, .listed, .data] true :=
  OpenClaim.laidByTextAt_later rfl rfl tie noOwnUnsafe
theorem shopRunsUpto_row_tie : Rows.shopRunsUptoRow.laidByTextAt .later Tryz.pinned [.handle, .listed, .data] true :=
  OpenClaim.laidByTextAt_later rfl rfl tie noOwnUnsafe
theorem shopCrashesUpto_row_tie : Rows.shopCrashesUptoRow.laidByTextAt .later Tryz.pinned [.handle, .listed, .data] true :=
  OpenClaim.laidByTextAt_later rfl rfl tie noOwnUnsafe
theorem scriptPlaysUpto_row_tie : Rows.scriptPlaysUptoRow.laidByTextAt .later Tryz.pinned [.handle, .listed, .data] true :=
  OpenClaim.laidByTextAt_later rfl rfl tie noOwnUnsafe
end Go.Proofs.YtplpimkgihnmhaaGreatDoor
