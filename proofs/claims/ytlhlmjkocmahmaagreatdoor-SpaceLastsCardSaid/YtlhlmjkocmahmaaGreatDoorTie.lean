/-
  DERIVED. GIVEN WITH THE SEED: THE PROGRAM's TIES (one call each: nine closed facts by the kernel) AND EACH ROW's TIE, after the 31st guide's Derived/Test/Toyas{Tie, Card}.lean. No idea stands in it: it is a product of the set-up. Laid BY PROGRAM, IN A SANDBOX (cutbox-door.mjs). By AI agents, Wed Nov 11 2026. No macro, syntax, notation, axiom, sorry.
-/
import Derived.Test.YtlhlmjkocmahmaaGreatDoorRows
import Derived.LaidByTextLater
import Derived.SevenTiedAt
import Derived.LaidSub
import Derived.LaidOnce
namespace Go.Proofs.YtlhlmjkocmahmaaGreatDoor
open Go
set_option maxRecDepth 100000
theorem seatTie1 : Tryz.prog.laidByTextLater [("errors.errorType", Rows.laid_errors_errorType), ("annex/bits.errTrouble", Rows.laid_annex_bits_errTrouble), ("annex/plan.bounds", Rows.laid_annex_plan_bounds)] [.handle, .sentinel, .data] true :=
  Program.laidByTextLater_by_one 48 8 17 (by kernel_rfl) (by kernel_rfl) (by kernel_rfl) (by kernel_rfl) (by kernel_rfl) (by kernel_rfl) (fun _ _ => by kernel_rfl)
theorem noOwnUnsafe : Tryz.pinned.checked.prog.headLifts.contains "ownunsafe" = false := by kernel_rfl
theorem tie : Tryz.prog.laidByTextLater [("errors.errorType", Rows.laid_errors_errorType), ("annex/bits.errTrouble", Rows.laid_annex_bits_errTrouble), ("annex/plan.bounds", Rows.laid_annex_plan_bounds)] [.handle, .sentinel, .data] true :=
  Program.laidByTextLater.sub seatTie1 ["errors.errorType", "annex/bits.errTrouble", "annex/plan.bounds"] (by kernel_rfl) (by kernel_rfl)
theorem spaceFills_row_tie : Rows.spaceFillsRow.laidByTextAt .later Tryz.pinned [.handle, .sentinel, .data] true :=
  OpenClaim.laidByTextAt_later rfl rfl tie noOwnUnsafe
theorem spaceShapes_row_tie : Rows.spaceShapesRow.laidByTextAt .later Tryz.pinned [.handle, .sentinel, .data] true :=
  OpenClaim.laidByTextAt_later rfl rfl tie noOwnUnsafe
theorem spaceLowest_row_tie : Rows.spaceLowestRow.laidByTextAt .later Tryz.pinned [.handle, .sentinel, .data] true :=
  OpenClaim.laidByTextAt_later rfl rfl tie noOwnUnsafe
theorem spaceEnded_row_tie : Rows.spaceEndedRow.laidByTextAt .later Tryz.pinned [.handle, .sentinel, .data] true :=
  OpenClaim.laidByTextAt_later rfl rfl tie noOwnUnsafe
theorem spaceLasts_row_tie : Rows.spaceLastsRow.laidByTextAt .later Tryz.pinned [.handle, .sentinel, .data] true :=
  OpenClaim.laidByTextAt_later rfl rfl tie noOwnUnsafe
theorem tie2 : Tryz.prog.laidByTextLater [("errors.errorType", Rows.laid_errors_errorType), ("annex/bits.errTrouble", Rows.laid_annex_bits_errTrouble)] [.handle, .sentinel] true :=
  Program.laidByTextLater.sub seatTie1 ["errors.errorType", "annex/bits.errTrouble"] (by kernel_rfl) (by kernel_rfl)
theorem journalSaves_row_tie : Rows.journalSavesRow.laidByTextAt .later Tryz.pinned [.handle, .sentinel] true :=
  OpenClaim.laidByTextAt_later rfl rfl tie2 noOwnUnsafe
theorem spaceFillsUpto_row_tie : Rows.spaceFillsUptoRow.laidByTextAt .later Tryz.pinned [.handle, .sentinel, .data] true :=
  OpenClaim.laidByTextAt_later rfl rfl tie noOwnUnsafe
theorem journalSavesUpto_row_tie : Rows.journalSavesUptoRow.laidByTextAt .later Tryz.pinned [.handle, .sentinel] true :=
  OpenClaim.laidByTextAt_later rfl rfl tie2 noOwnUnsafe
theorem spaceShapesUpto_row_tie : Rows.spaceShapesUptoRow.laidByTextAt .later Tryz.pinned [.handle, .sentinel, .data] true :=
  OpenClaim.laidByTextAt_later rfl rfl tie noOwnUnsafe
theorem spaceLowestUpto_row_tie : Rows.spaceLowestUptoRow.laidByTextAt .later Tryz.pinned [.handle, .sentinel, .data] true :=
  OpenClaim.laidByTextAt_later rfl rfl tie noOwnUnsafe
theorem spaceEndedUpto_row_tie : Rows.spaceEndedUptoRow.laidByTextAt .later Tryz.pinned [.handle, .sentinel, .data] true :=
  OpenClaim.laidByTextAt_later rfl rfl tie noOwnUnsafe
theorem spaceLastsUpto_row_tie : Rows.spaceLastsUptoRow.laidByTextAt .later Tryz.pinned [.handle, .sentinel, .data] true :=
  OpenClaim.laidByTextAt_later rfl rfl tie noOwnUnsafe
end Go.Proofs.YtlhlmjkocmahmaaGreatDoor
