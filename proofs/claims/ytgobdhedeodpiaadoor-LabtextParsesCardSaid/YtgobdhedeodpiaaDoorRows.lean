/-
  NARROWER THAN 'FOR EVERY INPUT', by the rows' own cells (each row's printed sentence says how): LabtextPrints: laid · LabtextParses: laid · LabtextBack: laid · LabtextEnds: laid · LabtextPlaces: laid · LabtextDigits: laid.
  DERIVED. THE GIVEN ROWS OF THIS SEAT. 6 by the template 'for every input the law returns true; each argument reads behind the call as it read before'; 0 by the template 'total and deterministic' (their statements: YtgobdhedeodpiaaDoorTotals.lean).
  GIVEN WITH THE SEED: the statements are not yours to turn. If you find one false, say at which input.
  Laid BY PROGRAM, IN A SANDBOX (cutbox-rows.mjs): the forced cells as the released guide's own fill.sh prints them over the translation 0b4574ac266a14a6… (all of the seat's roots in one cut). By AI agents, Wed Nov 11 2026. No macro, syntax, notation, axiom, sorry.
-/
import Derived.Test.YtgobdhedeodpiaaDoorChecked
import GoSem.Claim
import GoSem.ClaimJoined
import GoSem.ClaimMapViews
import Derived.JoinedTies
import Derived.KernelRfl
namespace Go.Proofs.YtgobdhedeodpiaaDoor
/- THE CELL 'sum', in the pinned program and in every row, IS THE sha256 OF THE DUMP (.gsa) THAT YtgobdhedeodpiaaDoorProg.lean LOADS. Nothing in Lean hashes anything: it is a label: what it is worth is what the hold of that sum in a sandbox is worth. -/
noncomputable def Tryd.pinned : Pinned := { name := "ytgobdhedeodpiaadoor", sum := "0b4574ac266a14a6c74c59e15091878297189e4b151402def981880b176b75fc", checked := Tryd.checked }
namespace Rows
def none {H : Type} : Left H := { results := [], args := [] }

/- WHAT THE LISTED PACKAGE-LEVEL VARIABLES READ AS WHEN THE CALL BEGINS. Each datum BY PROGRAM (the guide's laid-datum.mjs) off the statement by which the dump's own 'gosem.cut.vars' lays the variable. In a bare row this is a premise. The card (YtgobdhedeodpiaaDoorCards.lean) ties it to the program's text. -/
def laid_math_bits_deBruijn64tab {H : Type} : DataW H := .agg [.lit (.int .u8 0), .lit (.int .u8 1), .lit (.int .u8 56), .lit (.int .u8 2), .lit (.int .u8 57), .lit (.int .u8 49), .lit (.int .u8 28), .lit (.int .u8 3), .lit (.int .u8 61), .lit (.int .u8 58), .lit (.int .u8 42), .lit (.int .u8 50), .lit (.int .u8 38), .lit (.int .u8 29), .lit (.int .u8 17), .lit (.int .u8 4), .lit (.int .u8 62), .lit (.int .u8 47), .lit (.int .u8 59), .lit (.int .u8 36), .lit (.int .u8 45), .lit (.int .u8 43), .lit (.int .u8 51), .lit (.int .u8 22), .lit (.int .u8 53), .lit (.int .u8 39), .lit (.int .u8 33), .lit (.int .u8 30), .lit (.int .u8 24), .lit (.int .u8 18), .lit (.int .u8 12), .lit (.int .u8 5), .lit (.int .u8 63), .lit (.int .u8 55), .lit (.int .u8 48), .lit (.int .u8 27), .lit (.int .u8 60), .lit (.int .u8 41), .lit (.int .u8 37), .lit (.int .u8 16), .lit (.int .u8 46), .lit (.int .u8 35), .lit (.int .u8 44), .lit (.int .u8 21), .lit (.int .u8 52), .lit (.int .u8 32), .lit (.int .u8 23), .lit (.int .u8 11), .lit (.int .u8 54), .lit (.int .u8 26), .lit (.int .u8 40), .lit (.int .u8 15), .lit (.int .u8 34), .lit (.int .u8 20), .lit (.int .u8 31), .lit (.int .u8 10), .lit (.int .u8 25), .lit (.int .u8 14), .lit (.int .u8 19), .lit (.int .u8 9), .lit (.int .u8 13), .lit (.int .u8 8), .lit (.int .u8 7), .lit (.int .u8 6)]
def laid_errors_errorType {H : Type} : DataW H := .iface "internal/reflectlite.rtype" (.agg [.ptr (.lit (.string [101, 114, 114, 111, 114]))])
def laid_plimsoll_cats_errCats {H : Type} : DataW H := .iface "*errors.errorString" (.ptr (.agg [.lit (.string [110, 111, 32, 99, 97, 116, 101, 103, 111, 114, 121])]))

/-- 'plimsolllaw05.LabtextPrints': WHATEVER THE INPUT: true; the input reads as it did. -/
def labtextPrintsSpec : ChangeSpec := { name := "labtextPrints", fn := fun _ => fun
  | [d1, d2] => { results := [.lit (.bool true)], args := [d1, d2] }
  | _ => none }
def labtextPrintsRow : OpenClaim := { program := "ytgobdhedeodpiaadoor", sum := "0b4574ac266a14a6c74c59e15091878297189e4b151402def981880b176b75fc", func := "plimsoll/plimsolllaw05.LabtextPrints", spec := "labtextPrints", inPlace := ["internal/abi.NoEscape", "internal/bytealg.MakeNoZero", "internal/reflectlite.TypeOf", "internal/reflectlite.ValueOf", "(internal/reflectlite.Value).Type", "(internal/reflectlite.Value).IsNil", "(internal/reflectlite.Value).Elem", "(internal/reflectlite.Value).Set"], unfollowed := true, recurses := true, named := ["math/bits.deBruijn64tab", "plimsoll/cats.errCats", "errors.errorType"], apart := false, laid := [("math/bits.deBruijn64tab", laid_math_bits_deBruijn64tab), ("errors.errorType", laid_errors_errorType), ("plimsoll/cats.errCats", laid_plimsoll_cats_errCats)] }
def LabtextPrintsSaid : Prop := labtextPrintsRow.holds Tryd.pinned (OpenSpec.ofChange labtextPrintsSpec)

/-- ITS FALSE NEIGHBOUR: 'it returns false'. Refute it at one input. -/
def labtextPrintsWrong : ChangeSpec := { name := "labtextPrints", fn := fun _ => fun
  | [d1, d2] => { results := [.lit (.bool false)], args := [d1, d2] }
  | _ => none }
def LabtextPrintsWrongFalsely : Prop := labtextPrintsRow.holds Tryd.pinned (OpenSpec.ofChange labtextPrintsWrong)

/-- 'plimsolllaw05.LabtextParses': WHATEVER THE INPUT: true; the input reads as it did. -/
def labtextParsesSpec : ChangeSpec := { name := "labtextParses", fn := fun _ => fun
  | [d] => { results := [.lit (.bool true)], args := [d] }
  | _ => none }
def labtextParsesRow : OpenClaim := { program := "ytgobdhedeodpiaadoor", sum := "0b4574ac266a14a6c74c59e15091878297189e4b151402def981880b176b75fc", func := "plimsoll/plimsolllaw05.LabtextParses", spec := "labtextParses", inPlace := ["internal/abi.NoEscape", "internal/bytealg.MakeNoZero", "internal/reflectlite.TypeOf", "internal/reflectlite.ValueOf", "(internal/reflectlite.Value).Type", "(internal/reflectlite.Value).IsNil", "(internal/reflectlite.Value).Elem", "(internal/reflectlite.Value).Set"], unfollowed := true, recurses := true, named := ["math/bits.deBruijn64tab", "plimsoll/cats.errCats", "errors.errorType"], apart := false, laid := [("math/bits.deBruijn64tab", laid_math_bits_deBruijn64tab), ("errors.errorType", laid_errors_errorType), ("plimsoll/cats.errCats", laid_plimsoll_cats_errCats)] }
def LabtextParsesSaid : Prop := labtextParsesRow.holds Tryd.pinned (OpenSpec.ofChange labtextParsesSpec)

/-- ITS FALSE NEIGHBOUR: 'it returns false'. Refute it at one input. -/
def labtextParsesWrong : ChangeSpec := { name := "labtextParses", fn := fun _ => fun
  | [d] => { results := [.lit (.bool false)], args := [d] }
  | _ => none }
def LabtextParsesWrongFalsely : Prop := labtextParsesRow.holds Tryd.pinned (OpenSpec.ofChange labtextParsesWrong)

/-- 'plimsolllaw05.LabtextBack': WHATEVER THE INPUT: true; the input reads as it did. -/
def labtextBackSpec : ChangeSpec := { name := "labtextBack", fn := fun _ => fun
  | [d1, d2] => { results := [.lit (.bool true)], args := [d1, d2] }
  | _ => none }
def labtextBackRow : OpenClaim := { program := "ytgobdhedeodpiaadoor", sum := "0b4574ac266a14a6c74c59e15091878297189e4b151402def981880b176b75fc", func := "plimsoll/plimsolllaw05.LabtextBack", spec := "labtextBack", inPlace := ["internal/abi.NoEscape", "internal/bytealg.MakeNoZero", "internal/reflectlite.TypeOf", "internal/reflectlite.ValueOf", "(internal/reflectlite.Value).Type", "(internal/reflectlite.Value).IsNil", "(internal/reflectlite.Value).Elem", "(internal/reflectlite.Value).Set"], unfollowed := true, recurses := true, named := ["math/bits.deBruijn64tab", "plimsoll/cats.errCats", "errors.errorType"], apart := false, laid := [("math/bits.deBruijn64tab", laid_math_bits_deBruijn64tab), ("errors.errorType", laid_errors_errorType), ("plimsoll/cats.errCats", laid_plimsoll_cats_errCats)] }
def LabtextBackSaid : Prop := labtextBackRow.holds Tryd.pinned (OpenSpec.ofChange labtextBackSpec)

/-- ITS FALSE NEIGHBOUR: 'it returns false'. Refute it at one input. -/
def labtextBackWrong : ChangeSpec := { name := "labtextBack", fn := fun _ => fun
  | [d1, d2] => { results := [.lit (.bool false)], args := [d1, d2] }
  | _ => none }
def LabtextBackWrongFalsely : Prop := labtextBackRow.holds Tryd.pinned (OpenSpec.ofChange labtextBackWrong)

/-- 'plimsolllaw05.LabtextEnds': WHATEVER THE INPUT: true; the input reads as it did. -/
def labtextEndsSpec : ChangeSpec := { name := "labtextEnds", fn := fun _ => fun
  | [d1, d2] => { results := [.lit (.bool true)], args := [d1, d2] }
  | _ => none }
def labtextEndsRow : OpenClaim := { program := "ytgobdhedeodpiaadoor", sum := "0b4574ac266a14a6c74c59e15091878297189e4b151402def981880b176b75fc", func := "plimsoll/plimsolllaw05.LabtextEnds", spec := "labtextEnds", inPlace := ["internal/abi.NoEscape", "internal/bytealg.MakeNoZero", "internal/reflectlite.TypeOf", "internal/reflectlite.ValueOf", "(internal/reflectlite.Value).Type", "(internal/reflectlite.Value).IsNil", "(internal/reflectlite.Value).Elem", "(internal/reflectlite.Value).Set"], unfollowed := true, recurses := true, named := ["math/bits.deBruijn64tab", "plimsoll/cats.errCats", "errors.errorType"], apart := false, laid := [("math/bits.deBruijn64tab", laid_math_bits_deBruijn64tab), ("errors.errorType", laid_errors_errorType), ("plimsoll/cats.errCats", laid_plimsoll_cats_errCats)] }
def LabtextEndsSaid : Prop := labtextEndsRow.holds Tryd.pinned (OpenSpec.ofChange labtextEndsSpec)

/-- ITS FALSE NEIGHBOUR: 'it returns false'. Refute it at one input. -/
def labtextEndsWrong : ChangeSpec := { name := "labtextEnds", fn := fun _ => fun
  | [d1, d2] => { results := [.lit (.bool false)], args := [d1, d2] }
  | _ => none }
def LabtextEndsWrongFalsely : Prop := labtextEndsRow.holds Tryd.pinned (OpenSpec.ofChange labtextEndsWrong)

/-- 'plimsolllaw05.LabtextPlaces': WHATEVER THE INPUT: true; the input reads as it did. -/
def labtextPlacesSpec : ChangeSpec := { name := "labtextPlaces", fn := fun _ => fun
  | [d] => { results := [.lit (.bool true)], args := [d] }
  | _ => none }
def labtextPlacesRow : OpenClaim := { program := "ytgobdhedeodpiaadoor", sum := "0b4574ac266a14a6c74c59e15091878297189e4b151402def981880b176b75fc", func := "plimsoll/plimsolllaw05.LabtextPlaces", spec := "labtextPlaces", inPlace := ["internal/abi.NoEscape", "internal/bytealg.MakeNoZero", "internal/reflectlite.TypeOf", "internal/reflectlite.ValueOf", "(internal/reflectlite.Value).Type", "(internal/reflectlite.Value).IsNil", "(internal/reflectlite.Value).Elem", "(internal/reflectlite.Value).Set"], unfollowed := true, recurses := true, named := ["math/bits.deBruijn64tab", "plimsoll/cats.errCats", "errors.errorType"], apart := false, laid := [("math/bits.deBruijn64tab", laid_math_bits_deBruijn64tab), ("errors.errorType", laid_errors_errorType), ("plimsoll/cats.errCats", laid_plimsoll_cats_errCats)] }
def LabtextPlacesSaid : Prop := labtextPlacesRow.holds Tryd.pinned (OpenSpec.ofChange labtextPlacesSpec)

/-- ITS FALSE NEIGHBOUR: 'it returns false'. Refute it at one input. -/
def labtextPlacesWrong : ChangeSpec := { name := "labtextPlaces", fn := fun _ => fun
  | [d] => { results := [.lit (.bool false)], args := [d] }
  | _ => none }
def LabtextPlacesWrongFalsely : Prop := labtextPlacesRow.holds Tryd.pinned (OpenSpec.ofChange labtextPlacesWrong)

/-- 'plimsolllaw05.LabtextDigits': WHATEVER THE INPUT: true; the input reads as it did. -/
def labtextDigitsSpec : ChangeSpec := { name := "labtextDigits", fn := fun _ => fun
  | [d] => { results := [.lit (.bool true)], args := [d] }
  | _ => none }
def labtextDigitsRow : OpenClaim := { program := "ytgobdhedeodpiaadoor", sum := "0b4574ac266a14a6c74c59e15091878297189e4b151402def981880b176b75fc", func := "plimsoll/plimsolllaw05.LabtextDigits", spec := "labtextDigits", inPlace := ["internal/abi.NoEscape", "internal/bytealg.MakeNoZero", "internal/reflectlite.TypeOf", "internal/reflectlite.ValueOf", "(internal/reflectlite.Value).Type", "(internal/reflectlite.Value).IsNil", "(internal/reflectlite.Value).Elem", "(internal/reflectlite.Value).Set"], unfollowed := true, recurses := true, named := ["math/bits.deBruijn64tab", "plimsoll/cats.errCats", "errors.errorType"], apart := false, laid := [("math/bits.deBruijn64tab", laid_math_bits_deBruijn64tab), ("errors.errorType", laid_errors_errorType), ("plimsoll/cats.errCats", laid_plimsoll_cats_errCats)] }
def LabtextDigitsSaid : Prop := labtextDigitsRow.holds Tryd.pinned (OpenSpec.ofChange labtextDigitsSpec)

/-- ITS FALSE NEIGHBOUR: 'it returns false'. Refute it at one input. -/
def labtextDigitsWrong : ChangeSpec := { name := "labtextDigits", fn := fun _ => fun
  | [d] => { results := [.lit (.bool false)], args := [d] }
  | _ => none }
def LabtextDigitsWrongFalsely : Prop := labtextDigitsRow.holds Tryd.pinned (OpenSpec.ofChange labtextDigitsWrong)

/- THE SECOND FORM. 'bulk': how many values and letters a reading holds, each counted each time it is reached (what is shared counts as often as it is met; a slice's spare places count too). A statement '..UptoSaid' is the law's where the arguments, and the package variables that the reading takes, are together of bulk at most 1048576: NARROWER than '..Said'. Prove '..Said' where nothing that the law and all that it calls make is longer than what came in: it says more and counts as full. Else prove '..UptoSaid'. A law counts once. -/
mutual
def uptoBulk {H : Type} : DataW H → Nat
  | .lit (.string bytes) => bytes.length + 1
  | .lit _ => 1
  | .nil => 1
  | .ptr d => uptoBulk d + 1
  | .slice elems spare => uptoBulkAll elems + uptoBulkAll spare + 1
  | .agg parts => uptoBulkAll parts + 1
  | .iface _ d => uptoBulk d + 1
  | .map entries => uptoBulkEntries entries + 1
  | .held _ => 1
def uptoBulkAll {H : Type} : List (DataW H) → Nat
  | [] => 0
  | d :: r => uptoBulk d + uptoBulkAll r
def uptoBulkEntries {H : Type} : List (Lit × DataW H) → Nat
  | [] => 0
  | x :: r => uptoBulkEntry x + uptoBulkEntries r
def uptoBulkEntry {H : Type} : Lit × DataW H → Nat
  | (.string bytes, d) => bytes.length + uptoBulk d + 1
  | (_, d) => uptoBulk d + 1
 end
def uptoSmall : (H : Type) → List (DataW H) → Bool := fun _ ds => decide (uptoBulkAll ds ≤ 1048576)
def OpenSpec.upto (s : _root_.Go.ChangeSpec) : _root_.Go.OpenSpec := { _root_.Go.OpenSpec.ofChange s with cond := some uptoSmall }

/-- 'plimsolllaw05.LabtextPrints', WHERE WHAT IT READS IS OF BULK AT MOST 1048576: true; the input reads as it did. -/
def labtextPrintsUptoRow : OpenClaim := { program := "ytgobdhedeodpiaadoor", sum := "0b4574ac266a14a6c74c59e15091878297189e4b151402def981880b176b75fc", func := "plimsoll/plimsolllaw05.LabtextPrints", spec := "labtextPrints", inPlace := ["internal/abi.NoEscape", "internal/bytealg.MakeNoZero", "internal/reflectlite.TypeOf", "internal/reflectlite.ValueOf", "(internal/reflectlite.Value).Type", "(internal/reflectlite.Value).IsNil", "(internal/reflectlite.Value).Elem", "(internal/reflectlite.Value).Set"], unfollowed := true, recurses := true, named := ["math/bits.deBruijn64tab", "plimsoll/cats.errCats", "errors.errorType"], apart := false, laid := [("math/bits.deBruijn64tab", laid_math_bits_deBruijn64tab), ("errors.errorType", laid_errors_errorType), ("plimsoll/cats.errCats", laid_plimsoll_cats_errCats)], narrowed := true }
def LabtextPrintsUptoSaid : Prop := labtextPrintsUptoRow.holds Tryd.pinned (OpenSpec.upto labtextPrintsSpec)

/-- 'plimsolllaw05.LabtextParses', WHERE WHAT IT READS IS OF BULK AT MOST 1048576: true; the input reads as it did. -/
def labtextParsesUptoRow : OpenClaim := { program := "ytgobdhedeodpiaadoor", sum := "0b4574ac266a14a6c74c59e15091878297189e4b151402def981880b176b75fc", func := "plimsoll/plimsolllaw05.LabtextParses", spec := "labtextParses", inPlace := ["internal/abi.NoEscape", "internal/bytealg.MakeNoZero", "internal/reflectlite.TypeOf", "internal/reflectlite.ValueOf", "(internal/reflectlite.Value).Type", "(internal/reflectlite.Value).IsNil", "(internal/reflectlite.Value).Elem", "(internal/reflectlite.Value).Set"], unfollowed := true, recurses := true, named := ["math/bits.deBruijn64tab", "plimsoll/cats.errCats", "errors.errorType"], apart := false, laid := [("math/bits.deBruijn64tab", laid_math_bits_deBruijn64tab), ("errors.errorType", laid_errors_errorType), ("plimsoll/cats.errCats", laid_plimsoll_cats_errCats)], narrowed := true }
def LabtextParsesUptoSaid : Prop := labtextParsesUptoRow.holds Tryd.pinned (OpenSpec.upto labtextParsesSpec)

/-- 'plimsolllaw05.LabtextBack', WHERE WHAT IT READS IS OF BULK AT MOST 1048576: true; the input reads as it did. -/
def labtextBackUptoRow : OpenClaim := { program := "ytgobdhedeodpiaadoor", sum := "0b4574ac266a14a6c74c59e15091878297189e4b151402def981880b176b75fc", func := "plimsoll/plimsolllaw05.LabtextBack", spec := "labtextBack", inPlace := ["internal/abi.NoEscape", "internal/bytealg.MakeNoZero", "internal/reflectlite.TypeOf", "internal/reflectlite.ValueOf", "(internal/reflectlite.Value).Type", "(internal/reflectlite.Value).IsNil", "(internal/reflectlite.Value).Elem", "(internal/reflectlite.Value).Set"], unfollowed := true, recurses := true, named := ["math/bits.deBruijn64tab", "plimsoll/cats.errCats", "errors.errorType"], apart := false, laid := [("math/bits.deBruijn64tab", laid_math_bits_deBruijn64tab), ("errors.errorType", laid_errors_errorType), ("plimsoll/cats.errCats", laid_plimsoll_cats_errCats)], narrowed := true }
def LabtextBackUptoSaid : Prop := labtextBackUptoRow.holds Tryd.pinned (OpenSpec.upto labtextBackSpec)

/-- 'plimsolllaw05.LabtextEnds', WHERE WHAT IT READS IS OF BULK AT MOST 1048576: true; the input reads as it did. -/
def labtextEndsUptoRow : OpenClaim := { program := "ytgobdhedeodpiaadoor", sum := "0b4574ac266a14a6c74c59e15091878297189e4b151402def981880b176b75fc", func := "plimsoll/plimsolllaw05.LabtextEnds", spec := "labtextEnds", inPlace := ["internal/abi.NoEscape", "internal/bytealg.MakeNoZero", "internal/reflectlite.TypeOf", "internal/reflectlite.ValueOf", "(internal/reflectlite.Value).Type", "(internal/reflectlite.Value).IsNil", "(internal/reflectlite.Value).Elem", "(internal/reflectlite.Value).Set"], unfollowed := true, recurses := true, named := ["math/bits.deBruijn64tab", "plimsoll/cats.errCats", "errors.errorType"], apart := false, laid := [("math/bits.deBruijn64tab", laid_math_bits_deBruijn64tab), ("errors.errorType", laid_errors_errorType), ("plimsoll/cats.errCats", laid_plimsoll_cats_errCats)], narrowed := true }
def LabtextEndsUptoSaid : Prop := labtextEndsUptoRow.holds Tryd.pinned (OpenSpec.upto labtextEndsSpec)

/-- 'plimsolllaw05.LabtextPlaces', WHERE WHAT IT READS IS OF BULK AT MOST 1048576: true; the input reads as it did. -/
def labtextPlacesUptoRow : OpenClaim := { program := "ytgobdhedeodpiaadoor", sum := "0b4574ac266a14a6c74c59e15091878297189e4b151402def981880b176b75fc", func := "plimsoll/plimsolllaw05.LabtextPlaces", spec := "labtextPlaces", inPlace := ["internal/abi.NoEscape", "internal/bytealg.MakeNoZero", "internal/reflectlite.TypeOf", "internal/reflectlite.ValueOf", "(internal/reflectlite.Value).Type", "(internal/reflectlite.Value).IsNil", "(internal/reflectlite.Value).Elem", "(internal/reflectlite.Value).Set"], unfollowed := true, recurses := true, named := ["math/bits.deBruijn64tab", "plimsoll/cats.errCats", "errors.errorType"], apart := false, laid := [("math/bits.deBruijn64tab", laid_math_bits_deBruijn64tab), ("errors.errorType", laid_errors_errorType), ("plimsoll/cats.errCats", laid_plimsoll_cats_errCats)], narrowed := true }
def LabtextPlacesUptoSaid : Prop := labtextPlacesUptoRow.holds Tryd.pinned (OpenSpec.upto labtextPlacesSpec)

/-- 'plimsolllaw05.LabtextDigits', WHERE WHAT IT READS IS OF BULK AT MOST 1048576: true; the input reads as it did. -/
def labtextDigitsUptoRow : OpenClaim := { program := "ytgobdhedeodpiaadoor", sum := "0b4574ac266a14a6c74c59e15091878297189e4b151402def981880b176b75fc", func := "plimsoll/plimsolllaw05.LabtextDigits", spec := "labtextDigits", inPlace := ["internal/abi.NoEscape", "internal/bytealg.MakeNoZero", "internal/reflectlite.TypeOf", "internal/reflectlite.ValueOf", "(internal/reflectlite.Value).Type", "(internal/reflectlite.Value).IsNil", "(internal/reflectlite.Value).Elem", "(internal/reflectlite.Value).Set"], unfollowed := true, recurses := true, named := ["math/bits.deBruijn64tab", "plimsoll/cats.errCats", "errors.errorType"], apart := false, laid := [("math/bits.deBruijn64tab", laid_math_bits_deBruijn64tab), ("errors.errorType", laid_errors_errorType), ("plimsoll/cats.errCats", laid_plimsoll_cats_errCats)], narrowed := true }
def LabtextDigitsUptoSaid : Prop := labtextDigitsUptoRow.holds Tryd.pinned (OpenSpec.upto labtextDigitsSpec)

end Rows
end Go.Proofs.YtgobdhedeodpiaaDoor
