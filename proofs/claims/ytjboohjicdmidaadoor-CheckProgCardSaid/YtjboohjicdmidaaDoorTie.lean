/-
  DERIVED. GIVEN WITH THE SEED: THE PROGRAM's TIES (one call each: nine closed facts by the kernel) AND EACH ROW's TIE, after the 31st guide's Derived/Test/Toyas{Tie, Card}.lean. No idea stands in it: it is a product of the set-up. Laid BY PROGRAM, IN A SANDBOX (cutbox-door.mjs). By AI agents, Wed Nov 11 2026. No macro, syntax, notation, axiom, sorry.
-/
import Derived.Test.YtjboohjicdmidaaDoorRows
import Derived.LaidByTextLater
import Derived.SevenTiedAt
import Derived.LaidSub
import Derived.LaidOnce
namespace Go.Proofs.YtjboohjicdmidaaDoor
open Go
set_option maxRecDepth 100000
theorem seatTie1 : Tryd.prog.laidByTextLater [("errors.errorType", Rows.laid_errors_errorType), ("syncope/blame.errArg", Rows.laid_syncope_blame_errArg), ("syncope/blame.errRange", Rows.laid_syncope_blame_errRange), ("syncope/blame.errText", Rows.laid_syncope_blame_errText), ("syncope/blame.errLarge", Rows.laid_syncope_blame_errLarge), ("syncope/blame.errBlock", Rows.laid_syncope_blame_errBlock), ("syncope/blame.errLock", Rows.laid_syncope_blame_errLock), ("syncope/blame.errMode", Rows.laid_syncope_blame_errMode), ("syncope/blame.errOrder", Rows.laid_syncope_blame_errOrder), ("syncope/blame.errCond", Rows.laid_syncope_blame_errCond), ("syncope/blame.errState", Rows.laid_syncope_blame_errState)] [.handle, .sentinel, .sentinel, .sentinel, .sentinel, .sentinel, .sentinel, .sentinel, .sentinel, .sentinel, .sentinel] true :=
  Program.laidByTextLater_by_one 206 8 2 (by kernel_rfl) (by kernel_rfl) (by kernel_rfl) (by kernel_rfl) (by kernel_rfl) (by kernel_rfl) (fun _ _ => by kernel_rfl)
theorem noOwnUnsafe : Tryd.pinned.checked.prog.headLifts.contains "ownunsafe" = false := by kernel_rfl
theorem tie : Tryd.prog.laidByTextLater [("errors.errorType", Rows.laid_errors_errorType), ("syncope/blame.errArg", Rows.laid_syncope_blame_errArg), ("syncope/blame.errRange", Rows.laid_syncope_blame_errRange), ("syncope/blame.errText", Rows.laid_syncope_blame_errText), ("syncope/blame.errLarge", Rows.laid_syncope_blame_errLarge), ("syncope/blame.errBlock", Rows.laid_syncope_blame_errBlock), ("syncope/blame.errLock", Rows.laid_syncope_blame_errLock), ("syncope/blame.errMode", Rows.laid_syncope_blame_errMode), ("syncope/blame.errOrder", Rows.laid_syncope_blame_errOrder), ("syncope/blame.errCond", Rows.laid_syncope_blame_errCond), ("syncope/blame.errState", Rows.laid_syncope_blame_errState)] [.handle, .sentinel, .sentinel, .sentinel, .sentinel, .sentinel, .sentinel, .sentinel, .sentinel, .sentinel, .sentinel] true :=
  Program.laidByTextLater.sub seatTie1 ["errors.errorType", "syncope/blame.errArg", "syncope/blame.errRange", "syncope/blame.errText", "syncope/blame.errLarge", "syncope/blame.errBlock", "syncope/blame.errLock", "syncope/blame.errMode", "syncope/blame.errOrder", "syncope/blame.errCond", "syncope/blame.errState"] (by kernel_rfl) (by kernel_rfl)
theorem checkOrder_row_tie : Rows.checkOrderRow.laidByTextAt .later Tryd.pinned [.handle, .sentinel, .sentinel, .sentinel, .sentinel, .sentinel, .sentinel, .sentinel, .sentinel, .sentinel, .sentinel] true :=
  OpenClaim.laidByTextAt_later rfl rfl tie noOwnUnsafe
theorem checkBuilt_row_tie : Rows.checkBuiltRow.laidByTextAt .later Tryd.pinned [.handle, .sentinel, .sentinel, .sentinel, .sentinel, .sentinel, .sentinel, .sentinel, .sentinel, .sentinel, .sentinel] true :=
  OpenClaim.laidByTextAt_later rfl rfl tie noOwnUnsafe
theorem checkRegion_row_tie : Rows.checkRegionRow.laidByTextAt .later Tryd.pinned [.handle, .sentinel, .sentinel, .sentinel, .sentinel, .sentinel, .sentinel, .sentinel, .sentinel, .sentinel, .sentinel] true :=
  OpenClaim.laidByTextAt_later rfl rfl tie noOwnUnsafe
theorem checkModes_row_tie : Rows.checkModesRow.laidByTextAt .later Tryd.pinned [.handle, .sentinel, .sentinel, .sentinel, .sentinel, .sentinel, .sentinel, .sentinel, .sentinel, .sentinel, .sentinel] true :=
  OpenClaim.laidByTextAt_later rfl rfl tie noOwnUnsafe
theorem checkProg_row_tie : Rows.checkProgRow.laidByTextAt .later Tryd.pinned [.handle, .sentinel, .sentinel, .sentinel, .sentinel, .sentinel, .sentinel, .sentinel, .sentinel, .sentinel, .sentinel] true :=
  OpenClaim.laidByTextAt_later rfl rfl tie noOwnUnsafe
theorem checkConfig_row_tie : Rows.checkConfigRow.laidByTextAt .later Tryd.pinned [.handle, .sentinel, .sentinel, .sentinel, .sentinel, .sentinel, .sentinel, .sentinel, .sentinel, .sentinel, .sentinel] true :=
  OpenClaim.laidByTextAt_later rfl rfl tie noOwnUnsafe
theorem checkOrderUpto_row_tie : Rows.checkOrderUptoRow.laidByTextAt .later Tryd.pinned [.handle, .sentinel, .sentinel, .sentinel, .sentinel, .sentinel, .sentinel, .sentinel, .sentinel, .sentinel, .sentinel] true :=
  OpenClaim.laidByTextAt_later rfl rfl tie noOwnUnsafe
theorem checkBuiltUpto_row_tie : Rows.checkBuiltUptoRow.laidByTextAt .later Tryd.pinned [.handle, .sentinel, .sentinel, .sentinel, .sentinel, .sentinel, .sentinel, .sentinel, .sentinel, .sentinel, .sentinel] true :=
  OpenClaim.laidByTextAt_later rfl rfl tie noOwnUnsafe
theorem checkRegionUpto_row_tie : Rows.checkRegionUptoRow.laidByTextAt .later Tryd.pinned [.handle, .sentinel, .sentinel, .sentinel, .sentinel, .sentinel, .sentinel, .sentinel, .sentinel, .sentinel, .sentinel] true :=
  OpenClaim.laidByTextAt_later rfl rfl tie noOwnUnsafe
theorem checkModesUpto_row_tie : Rows.checkModesUptoRow.laidByTextAt .later Tryd.pinned [.handle, .sentinel, .sentinel, .sentinel, .sentinel, .sentinel, .sentinel, .sentinel, .sentinel, .sentinel, .sentinel] true :=
  OpenClaim.laidByTextAt_later rfl rfl tie noOwnUnsafe
theorem checkProgUpto_row_tie : Rows.checkProgUptoRow.laidByTextAt .later Tryd.pinned [.handle, .sentinel, .sentinel, .sentinel, .sentinel, .sentinel, .sentinel, .sentinel, .sentinel, .sentinel, .sentinel] true :=
  OpenClaim.laidByTextAt_later rfl rfl tie noOwnUnsafe
theorem checkConfigUpto_row_tie : Rows.checkConfigUptoRow.laidByTextAt .later Tryd.pinned [.handle, .sentinel, .sentinel, .sentinel, .sentinel, .sentinel, .sentinel, .sentinel, .sentinel, .sentinel, .sentinel] true :=
  OpenClaim.laidByTextAt_later rfl rfl tie noOwnUnsafe
end Go.Proofs.YtjboohjicdmidaaDoor
