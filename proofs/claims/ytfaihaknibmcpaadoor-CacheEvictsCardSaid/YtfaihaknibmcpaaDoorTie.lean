/-
  DERIVED. GIVEN WITH THE SEED: THE PROGRAM's TIES (one call each: nine closed facts by the kernel) AND EACH ROW's TIE, after the 31st guide's Derived/Test/Toyas{Tie, Card}.lean. No idea stands in it: it is a product of the set-up. Laid BY PROGRAM, IN A SANDBOX (cutbox-door.mjs). By AI agents, Wed Nov 11 2026. No macro, syntax, notation, axiom, sorry.
-/
import Derived.Test.YtfaihaknibmcpaaDoorRows
import Derived.LaidByTextLater
import Derived.SevenTiedAt
import Derived.LaidSub
import Derived.LaidOnce
namespace Go.Proofs.YtfaihaknibmcpaaDoor
open Go
set_option maxRecDepth 100000
theorem seatTie1 : Tryd.prog.laidByTextLater [("errors.errorType", Rows.laid_errors_errorType), ("assent/api.ErrArg", Rows.laid_assent_api_ErrArg), ("assent/api.ErrLong", Rows.laid_assent_api_ErrLong), ("assent/api.ErrShort", Rows.laid_assent_api_ErrShort), ("assent/api.ErrForm", Rows.laid_assent_api_ErrForm), ("assent/api.ErrTail", Rows.laid_assent_api_ErrTail), ("assent/api.ErrFull", Rows.laid_assent_api_ErrFull), ("assent/api.ErrBusy", Rows.laid_assent_api_ErrBusy), ("assent/api.ErrNone", Rows.laid_assent_api_ErrNone), ("assent/api.ErrOrder", Rows.laid_assent_api_ErrOrder), ("assent/api.ErrValue", Rows.laid_assent_api_ErrValue)] [.handle, .sentinel, .sentinel, .sentinel, .sentinel, .sentinel, .sentinel, .sentinel, .sentinel, .sentinel, .sentinel] true :=
  Program.laidByTextLater_by_one 206 8 2 (by kernel_rfl) (by kernel_rfl) (by kernel_rfl) (by kernel_rfl) (by kernel_rfl) (by kernel_rfl) (fun _ _ => by kernel_rfl)
theorem noOwnUnsafe : Tryd.pinned.checked.prog.headLifts.contains "ownunsafe" = false := by kernel_rfl
theorem tie : Tryd.prog.laidByTextLater [("errors.errorType", Rows.laid_errors_errorType), ("assent/api.ErrArg", Rows.laid_assent_api_ErrArg), ("assent/api.ErrLong", Rows.laid_assent_api_ErrLong), ("assent/api.ErrShort", Rows.laid_assent_api_ErrShort), ("assent/api.ErrForm", Rows.laid_assent_api_ErrForm), ("assent/api.ErrTail", Rows.laid_assent_api_ErrTail), ("assent/api.ErrFull", Rows.laid_assent_api_ErrFull), ("assent/api.ErrBusy", Rows.laid_assent_api_ErrBusy), ("assent/api.ErrNone", Rows.laid_assent_api_ErrNone), ("assent/api.ErrOrder", Rows.laid_assent_api_ErrOrder), ("assent/api.ErrValue", Rows.laid_assent_api_ErrValue)] [.handle, .sentinel, .sentinel, .sentinel, .sentinel, .sentinel, .sentinel, .sentinel, .sentinel, .sentinel, .sentinel] true :=
  Program.laidByTextLater.sub seatTie1 ["errors.errorType", "assent/api.ErrArg", "assent/api.ErrLong", "assent/api.ErrShort", "assent/api.ErrForm", "assent/api.ErrTail", "assent/api.ErrFull", "assent/api.ErrBusy", "assent/api.ErrNone", "assent/api.ErrOrder", "assent/api.ErrValue"] (by kernel_rfl) (by kernel_rfl)
theorem cacheRuns_row_tie : Rows.cacheRunsRow.laidByTextAt .later Tryd.pinned [.handle, .sentinel, .sentinel, .sentinel, .sentinel, .sentinel, .sentinel, .sentinel, .sentinel, .sentinel, .sentinel] true :=
  OpenClaim.laidByTextAt_later rfl rfl tie noOwnUnsafe
theorem cacheFresh_row_tie : Rows.cacheFreshRow.laidByTextAt .later Tryd.pinned [.handle, .sentinel, .sentinel, .sentinel, .sentinel, .sentinel, .sentinel, .sentinel, .sentinel, .sentinel, .sentinel] true :=
  OpenClaim.laidByTextAt_later rfl rfl tie noOwnUnsafe
theorem cacheAsks_row_tie : Rows.cacheAsksRow.laidByTextAt .later Tryd.pinned [.handle, .sentinel, .sentinel, .sentinel, .sentinel, .sentinel, .sentinel, .sentinel, .sentinel, .sentinel, .sentinel] true :=
  OpenClaim.laidByTextAt_later rfl rfl tie noOwnUnsafe
theorem cacheHeld_row_tie : Rows.cacheHeldRow.laidByTextAt .later Tryd.pinned [.handle, .sentinel, .sentinel, .sentinel, .sentinel, .sentinel, .sentinel, .sentinel, .sentinel, .sentinel, .sentinel] true :=
  OpenClaim.laidByTextAt_later rfl rfl tie noOwnUnsafe
theorem cacheEvicts_row_tie : Rows.cacheEvictsRow.laidByTextAt .later Tryd.pinned [.handle, .sentinel, .sentinel, .sentinel, .sentinel, .sentinel, .sentinel, .sentinel, .sentinel, .sentinel, .sentinel] true :=
  OpenClaim.laidByTextAt_later rfl rfl tie noOwnUnsafe
theorem cacheGone_row_tie : Rows.cacheGoneRow.laidByTextAt .later Tryd.pinned [.handle, .sentinel, .sentinel, .sentinel, .sentinel, .sentinel, .sentinel, .sentinel, .sentinel, .sentinel, .sentinel] true :=
  OpenClaim.laidByTextAt_later rfl rfl tie noOwnUnsafe
theorem cacheLeast_row_tie : Rows.cacheLeastRow.laidByTextAt .later Tryd.pinned [.handle, .sentinel, .sentinel, .sentinel, .sentinel, .sentinel, .sentinel, .sentinel, .sentinel, .sentinel, .sentinel] true :=
  OpenClaim.laidByTextAt_later rfl rfl tie noOwnUnsafe
theorem cacheRunsUpto_row_tie : Rows.cacheRunsUptoRow.laidByTextAt .later Tryd.pinned [.handle, .sentinel, .sentinel, .sentinel, .sentinel, .sentinel, .sentinel, .sentinel, .sentinel, .sentinel, .sentinel] true :=
  OpenClaim.laidByTextAt_later rfl rfl tie noOwnUnsafe
theorem cacheFreshUpto_row_tie : Rows.cacheFreshUptoRow.laidByTextAt .later Tryd.pinned [.handle, .sentinel, .sentinel, .sentinel, .sentinel, .sentinel, .sentinel, .sentinel, .sentinel, .sentinel, .sentinel] true :=
  OpenClaim.laidByTextAt_later rfl rfl tie noOwnUnsafe
theorem cacheAsksUpto_row_tie : Rows.cacheAsksUptoRow.laidByTextAt .later Tryd.pinned [.handle, .sentinel, .sentinel, .sentinel, .sentinel, .sentinel, .sentinel, .sentinel, .sentinel, .sentinel, .sentinel] true :=
  OpenClaim.laidByTextAt_later rfl rfl tie noOwnUnsafe
theorem cacheHeldUpto_row_tie : Rows.cacheHeldUptoRow.laidByTextAt .later Tryd.pinned [.handle, .sentinel, .sentinel, .sentinel, .sentinel, .sentinel, .sentinel, .sentinel, .sentinel, .sentinel, .sentinel] true :=
  OpenClaim.laidByTextAt_later rfl rfl tie noOwnUnsafe
theorem cacheEvictsUpto_row_tie : Rows.cacheEvictsUptoRow.laidByTextAt .later Tryd.pinned [.handle, .sentinel, .sentinel, .sentinel, .sentinel, .sentinel, .sentinel, .sentinel, .sentinel, .sentinel, .sentinel] true :=
  OpenClaim.laidByTextAt_later rfl rfl tie noOwnUnsafe
theorem cacheGoneUpto_row_tie : Rows.cacheGoneUptoRow.laidByTextAt .later Tryd.pinned [.handle, .sentinel, .sentinel, .sentinel, .sentinel, .sentinel, .sentinel, .sentinel, .sentinel, .sentinel, .sentinel] true :=
  OpenClaim.laidByTextAt_later rfl rfl tie noOwnUnsafe
theorem cacheLeastUpto_row_tie : Rows.cacheLeastUptoRow.laidByTextAt .later Tryd.pinned [.handle, .sentinel, .sentinel, .sentinel, .sentinel, .sentinel, .sentinel, .sentinel, .sentinel, .sentinel, .sentinel] true :=
  OpenClaim.laidByTextAt_later rfl rfl tie noOwnUnsafe
end Go.Proofs.YtfaihaknibmcpaaDoor
