/-
  DERIVED. GIVEN WITH THE SEED: THE PROGRAM's TIES (one call each: nine closed facts by the kernel) AND EACH ROW's TIE, after the 31st guide's Derived/Test/Toyas{Tie, Card}.lean. No idea stands in it: it is a product of the set-up. Laid BY PROGRAM, IN A SANDBOX (cutbox-door.mjs). By AI agents, Wed Nov 11 2026. No macro, syntax, notation, axiom, sorry.
-/
import Derived.Test.YtgobdhedeodpiaaDoorRows
import Derived.LaidByTextLater
import Derived.SevenTiedAt
import Derived.LaidSub
import Derived.LaidOnce
namespace Go.Proofs.YtgobdhedeodpiaaDoor
open Go
set_option maxRecDepth 100000
theorem seatTie1 : Tryd.prog.laidByTextLater [("math/bits.deBruijn64tab", Rows.laid_math_bits_deBruijn64tab), ("errors.errorType", Rows.laid_errors_errorType), ("plimsoll/cats.errCats", Rows.laid_plimsoll_cats_errCats)] [.data, .handle, .sentinel] true :=
  Program.laidByTextLater_by_one 40 8 65 (by kernel_rfl) (by kernel_rfl) (by kernel_rfl) (by kernel_rfl) (by kernel_rfl) (by kernel_rfl) (fun _ _ => by kernel_rfl)
theorem noOwnUnsafe : Tryd.pinned.checked.prog.headLifts.contains "ownunsafe" = false := by kernel_rfl
theorem tie : Tryd.prog.laidByTextLater [("math/bits.deBruijn64tab", Rows.laid_math_bits_deBruijn64tab), ("errors.errorType", Rows.laid_errors_errorType), ("plimsoll/cats.errCats", Rows.laid_plimsoll_cats_errCats)] [.data, .handle, .sentinel] true :=
  Program.laidByTextLater.sub seatTie1 ["math/bits.deBruijn64tab", "errors.errorType", "plimsoll/cats.errCats"] (by kernel_rfl) (by kernel_rfl)
theorem labtextPrints_row_tie : Rows.labtextPrintsRow.laidByTextAt .later Tryd.pinned [.data, .handle, .sentinel] true :=
  OpenClaim.laidByTextAt_later rfl rfl tie noOwnUnsafe
theorem labtextParses_row_tie : Rows.labtextParsesRow.laidByTextAt .later Tryd.pinned [.data, .handle, .sentinel] true :=
  OpenClaim.laidByTextAt_later rfl rfl tie noOwnUnsafe
theorem labtextBack_row_tie : Rows.labtextBackRow.laidByTextAt .later Tryd.pinned [.data, .handle, .sentinel] true :=
  OpenClaim.laidByTextAt_later rfl rfl tie noOwnUnsafe
theorem labtextEnds_row_tie : Rows.labtextEndsRow.laidByTextAt .later Tryd.pinned [.data, .handle, .sentinel] true :=
  OpenClaim.laidByTextAt_later rfl rfl tie noOwnUnsafe
theorem labtextPlaces_row_tie : Rows.labtextPlacesRow.laidByTextAt .later Tryd.pinned [.data, .handle, .sentinel] true :=
  OpenClaim.laidByTextAt_later rfl rfl tie noOwnUnsafe
theorem labtextDigits_row_tie : Rows.labtextDigitsRow.laidByTextAt .later Tryd.pinned [.data, .handle, .sentinel] true :=
  OpenClaim.laidByTextAt_later rfl rfl tie noOwnUnsafe
theorem labtextPrintsUpto_row_tie : Rows.labtextPrintsUptoRow.laidByTextAt .later Tryd.pinned [.data, .handle, .sentinel] true :=
  OpenClaim.laidByTextAt_later rfl rfl tie noOwnUnsafe
theorem labtextParsesUpto_row_tie : Rows.labtextParsesUptoRow.laidByTextAt .later Tryd.pinned [.data, .handle, .sentinel] true :=
  OpenClaim.laidByTextAt_later rfl rfl tie noOwnUnsafe
theorem labtextBackUpto_row_tie : Rows.labtextBackUptoRow.laidByTextAt .later Tryd.pinned [.data, .handle, .sentinel] true :=
  OpenClaim.laidByTextAt_later rfl rfl tie noOwnUnsafe
theorem labtextEndsUpto_row_tie : Rows.labtextEndsUptoRow.laidByTextAt .later Tryd.pinned [.data, .handle, .sentinel] true :=
  OpenClaim.laidByTextAt_later rfl rfl tie noOwnUnsafe
theorem labtextPlacesUpto_row_tie : Rows.labtextPlacesUptoRow.laidByTextAt .later Tryd.pinned [.data, .handle, .sentinel] true :=
  OpenClaim.laidByTextAt_later rfl rfl tie noOwnUnsafe
theorem labtextDigitsUpto_row_tie : Rows.labtextDigitsUptoRow.laidByTextAt .later Tryd.pinned [.data, .handle, .sentinel] true :=
  OpenClaim.laidByTextAt_later rfl rfl tie noOwnUnsafe
end Go.Proofs.YtgobdhedeodpiaaDoor
