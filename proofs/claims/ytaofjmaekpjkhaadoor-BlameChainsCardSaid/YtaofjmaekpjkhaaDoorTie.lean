/-
  DERIVED. GIVEN WITH THE SEED: THE PROGRAM's TIES (one call each: nine closed facts by the kernel) AND EACH ROW's TIE, after the 31st guide's Derived/Test/Toyas{Tie, Card}.lean. No idea stands in it: it is a product of the set-up. Laid BY PROGRAM, IN A SANDBOX (cutbox-door.mjs). By AI agents, Wed Nov 11 2026. No macro, syntax, notation, axiom, sorry.
-/
import Derived.Test.YtaofjmaekpjkhaaDoorRows
import Derived.LaidByTextLater
import Derived.SevenTiedAt
import Derived.LaidSub
import Derived.LaidOnce
namespace Go.Proofs.YtaofjmaekpjkhaaDoor
open Go
set_option maxRecDepth 100000
theorem seatTie1 : Tryd.prog.laidByTextLater [("errors.errorType", Rows.laid_errors_errorType), ("collimator/blame.errBytes", Rows.laid_collimator_blame_errBytes), ("collimator/blame.errCodes", Rows.laid_collimator_blame_errCodes), ("collimator/blame.errTexts", Rows.laid_collimator_blame_errTexts), ("collimator/blame.errRoom", Rows.laid_collimator_blame_errRoom), ("collimator/blame.errOther", Rows.laid_collimator_blame_errOther)] [.handle, .sentinel, .sentinel, .sentinel, .sentinel, .sentinel] true :=
  Program.laidByTextLater_by_one 111 8 2 (by kernel_rfl) (by kernel_rfl) (by kernel_rfl) (by kernel_rfl) (by kernel_rfl) (by kernel_rfl) (fun _ _ => by kernel_rfl)
theorem noOwnUnsafe : Tryd.pinned.checked.prog.headLifts.contains "ownunsafe" = false := by kernel_rfl
theorem tie : Tryd.prog.laidByTextLater [("errors.errorType", Rows.laid_errors_errorType), ("collimator/blame.errBytes", Rows.laid_collimator_blame_errBytes), ("collimator/blame.errCodes", Rows.laid_collimator_blame_errCodes), ("collimator/blame.errTexts", Rows.laid_collimator_blame_errTexts), ("collimator/blame.errRoom", Rows.laid_collimator_blame_errRoom), ("collimator/blame.errOther", Rows.laid_collimator_blame_errOther)] [.handle, .sentinel, .sentinel, .sentinel, .sentinel, .sentinel] true :=
  Program.laidByTextLater.sub seatTie1 ["errors.errorType", "collimator/blame.errBytes", "collimator/blame.errCodes", "collimator/blame.errTexts", "collimator/blame.errRoom", "collimator/blame.errOther"] (by kernel_rfl) (by kernel_rfl)
theorem blameCodes_row_tie : Rows.blameCodesRow.laidByTextAt .later Tryd.pinned [.handle, .sentinel, .sentinel, .sentinel, .sentinel, .sentinel] true :=
  OpenClaim.laidByTextAt_later rfl rfl tie noOwnUnsafe
theorem blameChains_row_tie : Rows.blameChainsRow.laidByTextAt .later Tryd.pinned [.handle, .sentinel, .sentinel, .sentinel, .sentinel, .sentinel] true :=
  OpenClaim.laidByTextAt_later rfl rfl tie noOwnUnsafe
theorem blameInner_row_tie : Rows.blameInnerRow.laidByTextAt .later Tryd.pinned [.handle, .sentinel, .sentinel, .sentinel, .sentinel, .sentinel] true :=
  OpenClaim.laidByTextAt_later rfl rfl tie noOwnUnsafe
theorem blameNone_row_tie : Rows.blameNoneRow.laidByTextAt .later Tryd.pinned [.handle, .sentinel, .sentinel, .sentinel, .sentinel, .sentinel] true :=
  OpenClaim.laidByTextAt_later rfl rfl tie noOwnUnsafe
theorem blameCodesUpto_row_tie : Rows.blameCodesUptoRow.laidByTextAt .later Tryd.pinned [.handle, .sentinel, .sentinel, .sentinel, .sentinel, .sentinel] true :=
  OpenClaim.laidByTextAt_later rfl rfl tie noOwnUnsafe
theorem blameChainsUpto_row_tie : Rows.blameChainsUptoRow.laidByTextAt .later Tryd.pinned [.handle, .sentinel, .sentinel, .sentinel, .sentinel, .sentinel] true :=
  OpenClaim.laidByTextAt_later rfl rfl tie noOwnUnsafe
theorem blameInnerUpto_row_tie : Rows.blameInnerUptoRow.laidByTextAt .later Tryd.pinned [.handle, .sentinel, .sentinel, .sentinel, .sentinel, .sentinel] true :=
  OpenClaim.laidByTextAt_later rfl rfl tie noOwnUnsafe
theorem blameNoneUpto_row_tie : Rows.blameNoneUptoRow.laidByTextAt .later Tryd.pinned [.handle, .sentinel, .sentinel, .sentinel, .sentinel, .sentinel] true :=
  OpenClaim.laidByTextAt_later rfl rfl tie noOwnUnsafe
end Go.Proofs.YtaofjmaekpjkhaaDoor
