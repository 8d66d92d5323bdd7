/-
  DERIVED. GIVEN WITH THE SEED: THE PROGRAM's TIES (one call each: nine closed facts by the kernel) AND EACH ROW's TIE, after the 31st guide's Derived/Test/Toyas{Tie, Card}.lean. No idea stands in it: it is a product of the set-up. Laid BY PROGRAM, IN A SANDBOX (cutbox-door.mjs). By AI agents, Wed Nov 11 2026. No macro, syntax, notation, axiom, sorry.
-/
import Derived.Test.YtomlcdalhihnaaaDoorRows
import Derived.LaidByTextLater
import Derived.SevenTiedAt
import Derived.LaidSub
import Derived.LaidOnce
namespace Go.Proofs.YtomlcdalhihnaaaDoor
open Go
set_option maxRecDepth 100000
theorem seatTie1 : Tryd.prog.laidByTextLater [("math/bits.deBruijn32tab", Rows.laid_math_bits_deBruijn32tab), ("math/bits.deBruijn64tab", Rows.laid_math_bits_deBruijn64tab), ("internal/strconv.uint64pow10", Rows.laid_internal_strconv_uint64pow10), ("errors.errorType", Rows.laid_errors_errorType), ("syncope/blame.errArg", Rows.laid_syncope_blame_errArg), ("syncope/blame.errRange", Rows.laid_syncope_blame_errRange), ("syncope/blame.errText", Rows.laid_syncope_blame_errText), ("syncope/blame.errLarge", Rows.laid_syncope_blame_errLarge), ("syncope/blame.errBlock", Rows.laid_syncope_blame_errBlock), ("syncope/blame.errLock", Rows.laid_syncope_blame_errLock), ("syncope/blame.errMode", Rows.laid_syncope_blame_errMode), ("syncope/blame.errOrder", Rows.laid_syncope_blame_errOrder), ("syncope/blame.errCond", Rows.laid_syncope_blame_errCond), ("syncope/blame.errState", Rows.laid_syncope_blame_errState)] [.data, .data, .data, .handle, .sentinel, .sentinel, .sentinel, .sentinel, .sentinel, .sentinel, .sentinel, .sentinel, .sentinel, .sentinel] true :=
  Program.laidByTextLater_by_one 221 8 65 (by kernel_rfl) (by kernel_rfl) (by kernel_rfl) (by kernel_rfl) (by kernel_rfl) (by kernel_rfl) (fun _ _ => by kernel_rfl)
theorem noOwnUnsafe : Tryd.pinned.checked.prog.headLifts.contains "ownunsafe" = false := by kernel_rfl
theorem tie : Tryd.prog.laidByTextLater [("math/bits.deBruijn32tab", Rows.laid_math_bits_deBruijn32tab), ("math/bits.deBruijn64tab", Rows.laid_math_bits_deBruijn64tab), ("internal/strconv.uint64pow10", Rows.laid_internal_strconv_uint64pow10)] [.data, .data, .data] true :=
  Program.laidByTextLater.sub seatTie1 ["math/bits.deBruijn32tab", "math/bits.deBruijn64tab", "internal/strconv.uint64pow10"] (by kernel_rfl) (by kernel_rfl)
theorem reportTallies_row_tie : Rows.reportTalliesRow.laidByTextAt .later Tryd.pinned [.data, .data, .data] true :=
  OpenClaim.laidByTextAt_later rfl rfl tie noOwnUnsafe
theorem tie2 : Tryd.prog.laidByTextLater [("syncope/blame.errArg", Rows.laid_syncope_blame_errArg), ("syncope/blame.errRange", Rows.laid_syncope_blame_errRange), ("syncope/blame.errText", Rows.laid_syncope_blame_errText), ("syncope/blame.errLarge", Rows.laid_syncope_blame_errLarge), ("syncope/blame.errBlock", Rows.laid_syncope_blame_errBlock), ("syncope/blame.errLock", Rows.laid_syncope_blame_errLock), ("syncope/blame.errMode", Rows.laid_syncope_blame_errMode), ("syncope/blame.errOrder", Rows.laid_syncope_blame_errOrder), ("syncope/blame.errCond", Rows.laid_syncope_blame_errCond), ("syncope/blame.errState", Rows.laid_syncope_blame_errState)] [.sentinel, .sentinel, .sentinel, .sentinel, .sentinel, .sentinel, .sentinel, .sentinel, .sentinel, .sentinel] true :=
  Program.laidByTextLater.sub seatTie1 ["syncope/blame.errArg", "syncope/blame.errRange", "syncope/blame.errText", "syncope/blame.errLarge", "syncope/blame.errBlock", "syncope/blame.errLock", "syncope/blame.errMode", "syncope/blame.errOrder", "syncope/blame.errCond", "syncope/blame.errState"] (by kernel_rfl) (by kernel_rfl)
theorem blameCodes_row_tie : Rows.blameCodesRow.laidByTextAt .later Tryd.pinned [.sentinel, .sentinel, .sentinel, .sentinel, .sentinel, .sentinel, .sentinel, .sentinel, .sentinel, .sentinel] true :=
  OpenClaim.laidByTextAt_later rfl rfl tie2 noOwnUnsafe
theorem tie3 : Tryd.prog.laidByTextLater [("math/bits.deBruijn32tab", Rows.laid_math_bits_deBruijn32tab), ("math/bits.deBruijn64tab", Rows.laid_math_bits_deBruijn64tab), ("internal/strconv.uint64pow10", Rows.laid_internal_strconv_uint64pow10), ("errors.errorType", Rows.laid_errors_errorType), ("syncope/blame.errArg", Rows.laid_syncope_blame_errArg), ("syncope/blame.errRange", Rows.laid_syncope_blame_errRange), ("syncope/blame.errText", Rows.laid_syncope_blame_errText), ("syncope/blame.errLarge", Rows.laid_syncope_blame_errLarge), ("syncope/blame.errBlock", Rows.laid_syncope_blame_errBlock), ("syncope/blame.errLock", Rows.laid_syncope_blame_errLock), ("syncope/blame.errMode", Rows.laid_syncope_blame_errMode), ("syncope/blame.errOrder", Rows.laid_syncope_blame_errOrder), ("syncope/blame.errCond", Rows.laid_syncope_blame_errCond), ("syncope/blame.errState", Rows.laid_syncope_blame_errState)] [.data, .data, .data, .handle, .sentinel, .sentinel, .sentinel, .sentinel, .sentinel, .sentinel, .sentinel, .sentinel, .sentinel, .sentinel] true :=
  Program.laidByTextLater.sub seatTie1 ["math/bits.deBruijn32tab", "math/bits.deBruijn64tab", "internal/strconv.uint64pow10", "errors.errorType", "syncope/blame.errArg", "syncope/blame.errRange", "syncope/blame.errText", "syncope/blame.errLarge", "syncope/blame.errBlock", "syncope/blame.errLock", "syncope/blame.errMode", "syncope/blame.errOrder", "syncope/blame.errCond", "syncope/blame.errState"] (by kernel_rfl) (by kernel_rfl)
theorem blameText_row_tie : Rows.blameTextRow.laidByTextAt .later Tryd.pinned [.data, .data, .data, .handle, .sentinel, .sentinel, .sentinel, .sentinel, .sentinel, .sentinel, .sentinel, .sentinel, .sentinel, .sentinel] true :=
  OpenClaim.laidByTextAt_later rfl rfl tie3 noOwnUnsafe
theorem tie4 : Tryd.prog.laidByTextLater [("errors.errorType", Rows.laid_errors_errorType), ("syncope/blame.errArg", Rows.laid_syncope_blame_errArg), ("syncope/blame.errRange", Rows.laid_syncope_blame_errRange), ("syncope/blame.errText", Rows.laid_syncope_blame_errText), ("syncope/blame.errLarge", Rows.laid_syncope_blame_errLarge), ("syncope/blame.errBlock", Rows.laid_syncope_blame_errBlock), ("syncope/blame.errLock", Rows.laid_syncope_blame_errLock), ("syncope/blame.errMode", Rows.laid_syncope_blame_errMode), ("syncope/blame.errOrder", Rows.laid_syncope_blame_errOrder), ("syncope/blame.errCond", Rows.laid_syncope_blame_errCond), ("syncope/blame.errState", Rows.laid_syncope_blame_errState)] [.handle, .sentinel, .sentinel, .sentinel, .sentinel, .sentinel, .sentinel, .sentinel, .sentinel, .sentinel, .sentinel] true :=
  Program.laidByTextLater.sub seatTie1 ["errors.errorType", "syncope/blame.errArg", "syncope/blame.errRange", "syncope/blame.errText", "syncope/blame.errLarge", "syncope/blame.errBlock", "syncope/blame.errLock", "syncope/blame.errMode", "syncope/blame.errOrder", "syncope/blame.errCond", "syncope/blame.errState"] (by kernel_rfl) (by kernel_rfl)
theorem blameInner_row_tie : Rows.blameInnerRow.laidByTextAt .later Tryd.pinned [.handle, .sentinel, .sentinel, .sentinel, .sentinel, .sentinel, .sentinel, .sentinel, .sentinel, .sentinel, .sentinel] true :=
  OpenClaim.laidByTextAt_later rfl rfl tie4 noOwnUnsafe
theorem blameChain_row_tie : Rows.blameChainRow.laidByTextAt .later Tryd.pinned [.handle, .sentinel, .sentinel, .sentinel, .sentinel, .sentinel, .sentinel, .sentinel, .sentinel, .sentinel, .sentinel] true :=
  OpenClaim.laidByTextAt_later rfl rfl tie4 noOwnUnsafe
theorem blameNone_row_tie : Rows.blameNoneRow.laidByTextAt .later Tryd.pinned [.handle, .sentinel, .sentinel, .sentinel, .sentinel, .sentinel, .sentinel, .sentinel, .sentinel, .sentinel, .sentinel] true :=
  OpenClaim.laidByTextAt_later rfl rfl tie4 noOwnUnsafe
theorem reportTalliesUpto_row_tie : Rows.reportTalliesUptoRow.laidByTextAt .later Tryd.pinned [.data, .data, .data] true :=
  OpenClaim.laidByTextAt_later rfl rfl tie noOwnUnsafe
theorem blameCodesUpto_row_tie : Rows.blameCodesUptoRow.laidByTextAt .later Tryd.pinned [.sentinel, .sentinel, .sentinel, .sentinel, .sentinel, .sentinel, .sentinel, .sentinel, .sentinel, .sentinel] true :=
  OpenClaim.laidByTextAt_later rfl rfl tie2 noOwnUnsafe
theorem blameTextUpto_row_tie : Rows.blameTextUptoRow.laidByTextAt .later Tryd.pinned [.data, .data, .data, .handle, .sentinel, .sentinel, .sentinel, .sentinel, .sentinel, .sentinel, .sentinel, .sentinel, .sentinel, .sentinel] true :=
  OpenClaim.laidByTextAt_later rfl rfl tie3 noOwnUnsafe
theorem blameInnerUpto_row_tie : Rows.blameInnerUptoRow.laidByTextAt .later Tryd.pinned [.handle, .sentinel, .sentinel, .sentinel, .sentinel, .sentinel, .sentinel, .sentinel, .sentinel, .sentinel, .sentinel] true :=
  OpenClaim.laidByTextAt_later rfl rfl tie4 noOwnUnsafe
theorem blameChainUpto_row_tie : Rows.blameChainUptoRow.laidByTextAt .later Tryd.pinned [.handle, .sentinel, .sentinel, .sentinel, .sentinel, .sentinel, .sentinel, .sentinel, .sentinel, .sentinel, .sentinel] true :=
  OpenClaim.laidByTextAt_later rfl rfl tie4 noOwnUnsafe
theorem blameNoneUpto_row_tie : Rows.blameNoneUptoRow.laidByTextAt .later Tryd.pinned [.handle, .sentinel, .sentinel, .sentinel, .sentinel, .sentinel, .sentinel, .sentinel, .sentinel, .sentinel, .sentinel] true :=
  OpenClaim.laidByTextAt_later rfl rfl tie4 noOwnUnsafe
end Go.Proofs.YtomlcdalhihnaaaDoor
