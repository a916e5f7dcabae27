/-
  DERIVED. GIVEN WITH THE SEED: THE PROGRAM's TIES (one call each: nine closed facts by the kernel) AND EACH ROW's TIE, after the 31st guide's Derived/Test/Toyas{Tie, Card}.lean. No idea stands in it: it is a product of the set-up. Laid BY PROGRAM, IN A SANDBOX (cutbox-door.mjs). By AI agents, Wed Nov 11 2026. No macro, syntax, notation, axiom, sorry.
-/
import Derived.Test.YtmjmmcdhpognaaaDoorRows
import Derived.LaidByTextLater
import Derived.SevenTiedAt
import Derived.LaidSub
import Derived.LaidOnce
namespace Go.Proofs.YtmjmmcdhpognaaaDoor
open Go
set_option maxRecDepth 100000
theorem seatTie1 : Tryd.prog.laidByTextLater [("errors.errorType", Rows.laid_errors_errorType), ("plimsoll/ring.errArg", Rows.laid_plimsoll_ring_errArg)] [.handle, .sentinel] true :=
  Program.laidByTextLater_by_one 35 8 2 (by kernel_rfl) (by kernel_rfl) (by kernel_rfl) (by kernel_rfl) (by kernel_rfl) (by kernel_rfl) (fun _ _ => by kernel_rfl)
theorem noOwnUnsafe : Tryd.pinned.checked.prog.headLifts.contains "ownunsafe" = false := by kernel_rfl
theorem tie : Tryd.prog.laidByTextLater [("errors.errorType", Rows.laid_errors_errorType), ("plimsoll/ring.errArg", Rows.laid_plimsoll_ring_errArg)] [.handle, .sentinel] true :=
  Program.laidByTextLater.sub seatTie1 ["errors.errorType", "plimsoll/ring.errArg"] (by kernel_rfl) (by kernel_rfl)
theorem worldSets_row_tie : Rows.worldSetsRow.laidByTextAt .later Tryd.pinned [.handle, .sentinel] true :=
  OpenClaim.laidByTextAt_later rfl rfl tie noOwnUnsafe
theorem worldBounds_row_tie : Rows.worldBoundsRow.laidByTextAt .later Tryd.pinned [.handle, .sentinel] true :=
  OpenClaim.laidByTextAt_later rfl rfl tie noOwnUnsafe
theorem worldBack_row_tie : Rows.worldBackRow.laidByTextAt .later Tryd.pinned [.handle, .sentinel] true :=
  OpenClaim.laidByTextAt_later rfl rfl tie noOwnUnsafe
theorem worldTurns_row_tie : Rows.worldTurnsRow.laidByTextAt .later Tryd.pinned [.handle, .sentinel] true :=
  OpenClaim.laidByTextAt_later rfl rfl tie noOwnUnsafe
theorem worldOwn_row_tie : Rows.worldOwnRow.laidByTextAt .later Tryd.pinned [.handle, .sentinel] true :=
  OpenClaim.laidByTextAt_later rfl rfl tie noOwnUnsafe
theorem worldSeen_row_tie : Rows.worldSeenRow.laidByTextAt .later Tryd.pinned [.handle, .sentinel] true :=
  OpenClaim.laidByTextAt_later rfl rfl tie noOwnUnsafe
theorem worldSetsUpto_row_tie : Rows.worldSetsUptoRow.laidByTextAt .later Tryd.pinned [.handle, .sentinel] true :=
  OpenClaim.laidByTextAt_later rfl rfl tie noOwnUnsafe
theorem worldBoundsUpto_row_tie : Rows.worldBoundsUptoRow.laidByTextAt .later Tryd.pinned [.handle, .sentinel] true :=
  OpenClaim.laidByTextAt_later rfl rfl tie noOwnUnsafe
theorem worldBackUpto_row_tie : Rows.worldBackUptoRow.laidByTextAt .later Tryd.pinned [.handle, .sentinel] true :=
  OpenClaim.laidByTextAt_later rfl rfl tie noOwnUnsafe
theorem worldTurnsUpto_row_tie : Rows.worldTurnsUptoRow.laidByTextAt .later Tryd.pinned [.handle, .sentinel] true :=
  OpenClaim.laidByTextAt_later rfl rfl tie noOwnUnsafe
theorem worldOwnUpto_row_tie : Rows.worldOwnUptoRow.laidByTextAt .later Tryd.pinned [.handle, .sentinel] true :=
  OpenClaim.laidByTextAt_later rfl rfl tie noOwnUnsafe
theorem worldSeenUpto_row_tie : Rows.worldSeenUptoRow.laidByTextAt .later Tryd.pinned [.handle, .sentinel] true :=
  OpenClaim.laidByTextAt_later rfl rfl tie noOwnUnsafe
end Go.Proofs.YtmjmmcdhpognaaaDoor
