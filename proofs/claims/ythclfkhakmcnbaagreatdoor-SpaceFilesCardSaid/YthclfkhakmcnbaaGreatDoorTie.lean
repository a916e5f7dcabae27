/-
  DERIVED. GIVEN WITH THE SEED: THE PROGRAM's TIES (one call each: nine closed facts by the kernel) AND EACH ROW's TIE, after the 31st guide's Derived/Test/Toyas{Tie, Card}.lean. No idea stands in it: it is a product of the set-up. Laid BY PROGRAM, IN A SANDBOX (cutbox-door.mjs). By AI agents, Wed Nov 11 2026. No macro, syntax, notation, axiom, sorry.
-/
import Derived.Test.YthclfkhakmcnbaaGreatDoorRows
import Derived.LaidByTextLater
import Derived.SevenTiedAt
import Derived.LaidSub
import Derived.LaidOnce
namespace Go.Proofs.YthclfkhakmcnbaaGreatDoor
open Go
set_option maxRecDepth 100000
theorem seatTie1 : Tryz.prog.laidByTextLater [("errors.errorType", Rows.laid_errors_errorType), ("plimsoll/ring.errArg", Rows.laid_plimsoll_ring_errArg), ("plimsoll/ring.errFull", Rows.laid_plimsoll_ring_errFull), ("plimsoll/ring.errEmpty", Rows.laid_plimsoll_ring_errEmpty)] [.handle, .sentinel, .sentinel, .sentinel] true :=
  Program.laidByTextLater_by_one 73 8 2 (by kernel_rfl) (by kernel_rfl) (by kernel_rfl) (by kernel_rfl) (by kernel_rfl) (by kernel_rfl) (fun _ _ => by kernel_rfl)
theorem noOwnUnsafe : Tryz.pinned.checked.prog.headLifts.contains "ownunsafe" = false := by kernel_rfl
theorem tie : Tryz.prog.laidByTextLater [("errors.errorType", Rows.laid_errors_errorType), ("plimsoll/ring.errArg", Rows.laid_plimsoll_ring_errArg), ("plimsoll/ring.errFull", Rows.laid_plimsoll_ring_errFull), ("plimsoll/ring.errEmpty", Rows.laid_plimsoll_ring_errEmpty)] [.handle, .sentinel, .sentinel, .sentinel] true :=
  Program.laidByTextLater.sub seatTie1 ["errors.errorType", "plimsoll/ring.errArg", "plimsoll/ring.errFull", "plimsoll/ring.errEmpty"] (by kernel_rfl) (by kernel_rfl)
theorem spaceFiles_row_tie : Rows.spaceFilesRow.laidByTextAt .later Tryz.pinned [.handle, .sentinel, .sentinel, .sentinel] true :=
  OpenClaim.laidByTextAt_later rfl rfl tie noOwnUnsafe
theorem spaceMakes_row_tie : Rows.spaceMakesRow.laidByTextAt .later Tryz.pinned [.handle, .sentinel, .sentinel, .sentinel] true :=
  OpenClaim.laidByTextAt_later rfl rfl tie noOwnUnsafe
theorem spaceTells_row_tie : Rows.spaceTellsRow.laidByTextAt .later Tryz.pinned [.handle, .sentinel, .sentinel, .sentinel] true :=
  OpenClaim.laidByTextAt_later rfl rfl tie noOwnUnsafe
theorem spaceBack_row_tie : Rows.spaceBackRow.laidByTextAt .later Tryz.pinned [.handle, .sentinel, .sentinel, .sentinel] true :=
  OpenClaim.laidByTextAt_later rfl rfl tie noOwnUnsafe
theorem spaceApart_row_tie : Rows.spaceApartRow.laidByTextAt .later Tryz.pinned [.handle, .sentinel, .sentinel, .sentinel] true :=
  OpenClaim.laidByTextAt_later rfl rfl tie noOwnUnsafe
theorem spaceRings_row_tie : Rows.spaceRingsRow.laidByTextAt .later Tryz.pinned [.handle, .sentinel, .sentinel, .sentinel] true :=
  OpenClaim.laidByTextAt_later rfl rfl tie noOwnUnsafe
theorem spaceQueues_row_tie : Rows.spaceQueuesRow.laidByTextAt .later Tryz.pinned [.handle, .sentinel, .sentinel, .sentinel] true :=
  OpenClaim.laidByTextAt_later rfl rfl tie noOwnUnsafe
theorem spaceFilesUpto_row_tie : Rows.spaceFilesUptoRow.laidByTextAt .later Tryz.pinned [.handle, .sentinel, .sentinel, .sentinel] true :=
  OpenClaim.laidByTextAt_later rfl rfl tie noOwnUnsafe
theorem spaceMakesUpto_row_tie : Rows.spaceMakesUptoRow.laidByTextAt .later Tryz.pinned [.handle, .sentinel, .sentinel, .sentinel] true :=
  OpenClaim.laidByTextAt_later rfl rfl tie noOwnUnsafe
theorem spaceTellsUpto_row_tie : Rows.spaceTellsUptoRow.laidByTextAt .later Tryz.pinned [.handle, .sentinel, .sentinel, .sentinel] true :=
  OpenClaim.laidByTextAt_later rfl rfl tie noOwnUnsafe
theorem spaceBackUpto_row_tie : Rows.spaceBackUptoRow.laidByTextAt .later Tryz.pinned [.handle, .sentinel, .sentinel, .sentinel] true :=
  OpenClaim.laidByTextAt_later rfl rfl tie noOwnUnsafe
theorem spaceApartUpto_row_tie : Rows.spaceApartUptoRow.laidByTextAt .later Tryz.pinned [.handle, .sentinel, .sentinel, .sentinel] true :=
  OpenClaim.laidByTextAt_later rfl rfl tie noOwnUnsafe
theorem spaceRingsUpto_row_tie : Rows.spaceRingsUptoRow.laidByTextAt .later Tryz.pinned [.handle, .sentinel, .sentinel, .sentinel] true :=
  OpenClaim.laidByTextAt_later rfl rfl tie noOwnUnsafe
theorem spaceQueuesUpto_row_tie : Rows.spaceQueuesUptoRow.laidByTextAt .later Tryz.pinned [.handle, .sentinel, .sentinel, .sentinel] true :=
  OpenClaim.laidByTextAt_later rfl rfl tie noOwnUnsafe
end Go.Proofs.YthclfkhakmcnbaaGreatDoor
