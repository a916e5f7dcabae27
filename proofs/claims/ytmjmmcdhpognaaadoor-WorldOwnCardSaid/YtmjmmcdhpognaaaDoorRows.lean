/-
  NARROWER THAN 'FOR EVERY INPUT', by the rows' own cells (each row's printed sentence says how): WorldSets: laid · WorldBounds: laid · WorldBack: laid · WorldTurns: laid · WorldOwn: laid · WorldSeen: laid.
  DERIVED. THE GIVEN ROWS OF THIS SEAT. 6 by the template 'for every input the law returns true; each argument reads behind the call as it read before'; 0 by the template 'total and deterministic' (their statements: YtmjmmcdhpognaaaDoorTotals.lean).
  GIVEN WITH THE SEED: the statements are not yours to turn. If you find one false, say at which input.
  Laid BY PROGRAM, IN A SANDBOX (cutbox-rows.mjs): the forced cells as the released guide's own fill.sh prints them over the translation 842e86449f840914… (all of the seat's roots in one cut). By AI agents, Wed Nov 11 2026. No macro, syntax, notation, axiom, sorry.
-/
import Derived.Test.YtmjmmcdhpognaaaDoorChecked
import GoSem.Claim
import GoSem.ClaimJoined
import GoSem.ClaimMapViews
import Derived.JoinedTies
import Derived.KernelRfl
namespace Go.Proofs.YtmjmmcdhpognaaaDoor
/- THE CELL 'sum', in the pinned program and in every row, IS THE sha256 OF THE DUMP (.gsa) THAT YtmjmmcdhpognaaaDoorProg.lean LOADS. Nothing in Lean hashes anything: it is a label: what it is worth is what the hold of that sum in a sandbox is worth. -/
noncomputable def Tryd.pinned : Pinned := { name := "ytmjmmcdhpognaaadoor", sum := "842e86449f84091425637cb4d3d5567c5e0c611d8ca968f41fca9b1261200db2", checked := Tryd.checked }
namespace Rows
def none {H : Type} : Left H := { results := [], args := [] }

/- WHAT THE LISTED PACKAGE-LEVEL VARIABLES READ AS WHEN THE CALL BEGINS. Each datum BY PROGRAM (the guide's laid-datum.mjs) off the statement by which the dump's own 'gosem.cut.vars' lays the variable. In a bare row this is a premise. The card (YtmjmmcdhpognaaaDoorCards.lean) ties it to the program's text. -/
def laid_errors_errorType {H : Type} : DataW H := .iface "internal/reflectlite.rtype" (.agg [.ptr (.lit (.string [101, 114, 114, 111, 114]))])
def laid_plimsoll_ring_errArg {H : Type} : DataW H := .iface "*errors.errorString" (.ptr (.agg [.lit (.string [110, 111, 32, 114, 105, 110, 103])]))

/-- 'plimsolllaw11.WorldSets': WHATEVER THE INPUT: true; the input reads as it did. -/
def worldSetsSpec : ChangeSpec := { name := "worldSets", fn := fun _ => fun
  | [d1, d2, d3] => { results := [.lit (.bool true)], args := [d1, d2, d3] }
  | _ => none }
def worldSetsRow : OpenClaim := { program := "ytmjmmcdhpognaaadoor", sum := "842e86449f84091425637cb4d3d5567c5e0c611d8ca968f41fca9b1261200db2", func := "plimsoll/plimsolllaw11.WorldSets", spec := "worldSets", inPlace := ["internal/reflectlite.ValueOf", "(internal/reflectlite.Value).Type", "(internal/reflectlite.Value).IsNil", "internal/reflectlite.TypeOf", "(internal/reflectlite.Value).Elem", "(internal/reflectlite.Value).Set"], unfollowed := true, recurses := true, named := ["plimsoll/ring.errArg", "errors.errorType"], apart := false, laid := [("errors.errorType", laid_errors_errorType), ("plimsoll/ring.errArg", laid_plimsoll_ring_errArg)] }
def WorldSetsSaid : Prop := worldSetsRow.holds Tryd.pinned (OpenSpec.ofChange worldSetsSpec)

/-- ITS FALSE NEIGHBOUR: 'it returns false'. Refute it at one input. -/
def worldSetsWrong : ChangeSpec := { name := "worldSets", fn := fun _ => fun
  | [d1, d2, d3] => { results := [.lit (.bool false)], args := [d1, d2, d3] }
  | _ => none }
def WorldSetsWrongFalsely : Prop := worldSetsRow.holds Tryd.pinned (OpenSpec.ofChange worldSetsWrong)

/-- 'plimsolllaw11.WorldBounds': WHATEVER THE INPUT: true; the input reads as it did. -/
def worldBoundsSpec : ChangeSpec := { name := "worldBounds", fn := fun _ => fun
  | [d1, d2, d3] => { results := [.lit (.bool true)], args := [d1, d2, d3] }
  | _ => none }
def worldBoundsRow : OpenClaim := { program := "ytmjmmcdhpognaaadoor", sum := "842e86449f84091425637cb4d3d5567c5e0c611d8ca968f41fca9b1261200db2", func := "plimsoll/plimsolllaw11.WorldBounds", spec := "worldBounds", inPlace := ["internal/reflectlite.ValueOf", "(internal/reflectlite.Value).Type", "(internal/reflectlite.Value).IsNil", "internal/reflectlite.TypeOf", "(internal/reflectlite.Value).Elem", "(internal/reflectlite.Value).Set"], unfollowed := true, recurses := true, named := ["plimsoll/ring.errArg", "errors.errorType"], apart := false, laid := [("errors.errorType", laid_errors_errorType), ("plimsoll/ring.errArg", laid_plimsoll_ring_errArg)] }
def WorldBoundsSaid : Prop := worldBoundsRow.holds Tryd.pinned (OpenSpec.ofChange worldBoundsSpec)

/-- ITS FALSE NEIGHBOUR: 'it returns false'. Refute it at one input. -/
def worldBoundsWrong : ChangeSpec := { name := "worldBounds", fn := fun _ => fun
  | [d1, d2, d3] => { results := [.lit (.bool false)], args := [d1, d2, d3] }
  | _ => none }
def WorldBoundsWrongFalsely : Prop := worldBoundsRow.holds Tryd.pinned (OpenSpec.ofChange worldBoundsWrong)

/-- 'plimsolllaw11.WorldBack': WHATEVER THE INPUT: true; the input reads as it did. -/
def worldBackSpec : ChangeSpec := { name := "worldBack", fn := fun _ => fun
  | [d1, d2, d3, d4] => { results := [.lit (.bool true)], args := [d1, d2, d3, d4] }
  | _ => none }
def worldBackRow : OpenClaim := { program := "ytmjmmcdhpognaaadoor", sum := "842e86449f84091425637cb4d3d5567c5e0c611d8ca968f41fca9b1261200db2", func := "plimsoll/plimsolllaw11.WorldBack", spec := "worldBack", inPlace := ["internal/reflectlite.ValueOf", "(internal/reflectlite.Value).Type", "(internal/reflectlite.Value).IsNil", "internal/reflectlite.TypeOf", "(internal/reflectlite.Value).Elem", "(internal/reflectlite.Value).Set"], unfollowed := true, recurses := true, named := ["plimsoll/ring.errArg", "errors.errorType"], apart := false, laid := [("errors.errorType", laid_errors_errorType), ("plimsoll/ring.errArg", laid_plimsoll_ring_errArg)] }
def WorldBackSaid : Prop := worldBackRow.holds Tryd.pinned (OpenSpec.ofChange worldBackSpec)

/-- ITS FALSE NEIGHBOUR: 'it returns false'. Refute it at one input. -/
def worldBackWrong : ChangeSpec := { name := "worldBack", fn := fun _ => fun
  | [d1, d2, d3, d4] => { results := [.lit (.bool false)], args := [d1, d2, d3, d4] }
  | _ => none }
def WorldBackWrongFalsely : Prop := worldBackRow.holds Tryd.pinned (OpenSpec.ofChange worldBackWrong)

/-- 'plimsolllaw11.WorldTurns': WHATEVER THE INPUT: true; the input reads as it did. -/
def worldTurnsSpec : ChangeSpec := { name := "worldTurns", fn := fun _ => fun
  | [d1, d2, d3, d4, d5] => { results := [.lit (.bool true)], args := [d1, d2, d3, d4, d5] }
  | _ => none }
def worldTurnsRow : OpenClaim := { program := "ytmjmmcdhpognaaadoor", sum := "842e86449f84091425637cb4d3d5567c5e0c611d8ca968f41fca9b1261200db2", func := "plimsoll/plimsolllaw11.WorldTurns", spec := "worldTurns", inPlace := ["internal/reflectlite.ValueOf", "(internal/reflectlite.Value).Type", "(internal/reflectlite.Value).IsNil", "internal/reflectlite.TypeOf", "(internal/reflectlite.Value).Elem", "(internal/reflectlite.Value).Set"], unfollowed := true, recurses := true, named := ["plimsoll/ring.errArg", "errors.errorType"], apart := false, laid := [("errors.errorType", laid_errors_errorType), ("plimsoll/ring.errArg", laid_plimsoll_ring_errArg)] }
def WorldTurnsSaid : Prop := worldTurnsRow.holds Tryd.pinned (OpenSpec.ofChange worldTurnsSpec)

/-- ITS FALSE NEIGHBOUR: 'it returns false'. Refute it at one input. -/
def worldTurnsWrong : ChangeSpec := { name := "worldTurns", fn := fun _ => fun
  | [d1, d2, d3, d4, d5] => { results := [.lit (.bool false)], args := [d1, d2, d3, d4, d5] }
  | _ => none }
def WorldTurnsWrongFalsely : Prop := worldTurnsRow.holds Tryd.pinned (OpenSpec.ofChange worldTurnsWrong)

/-- 'plimsolllaw11.WorldOwn': WHATEVER THE INPUT: true; the input reads as it did. -/
def worldOwnSpec : ChangeSpec := { name := "worldOwn", fn := fun _ => fun
  | [d1, d2] => { results := [.lit (.bool true)], args := [d1, d2] }
  | _ => none }
def worldOwnRow : OpenClaim := { program := "ytmjmmcdhpognaaadoor", sum := "842e86449f84091425637cb4d3d5567c5e0c611d8ca968f41fca9b1261200db2", func := "plimsoll/plimsolllaw11.WorldOwn", spec := "worldOwn", inPlace := ["internal/reflectlite.ValueOf", "(internal/reflectlite.Value).Type", "(internal/reflectlite.Value).IsNil", "internal/reflectlite.TypeOf", "(internal/reflectlite.Value).Elem", "(internal/reflectlite.Value).Set"], unfollowed := true, recurses := true, named := ["plimsoll/ring.errArg", "errors.errorType"], apart := false, laid := [("errors.errorType", laid_errors_errorType), ("plimsoll/ring.errArg", laid_plimsoll_ring_errArg)] }
def WorldOwnSaid : Prop := worldOwnRow.holds Tryd.pinned (OpenSpec.ofChange worldOwnSpec)

/-- ITS FALSE NEIGHBOUR: 'it returns false'. Refute it at one input. -/
def worldOwnWrong : ChangeSpec := { name := "worldOwn", fn := fun _ => fun
  | [d1, d2] => { results := [.lit (.bool false)], args := [d1, d2] }
  | _ => none }
def WorldOwnWrongFalsely : Prop := worldOwnRow.holds Tryd.pinned (OpenSpec.ofChange worldOwnWrong)

/-- 'plimsolllaw11.WorldSeen': WHATEVER THE INPUT: true; the input reads as it did. -/
def worldSeenSpec : ChangeSpec := { name := "worldSeen", fn := fun _ => fun
  | [d1, d2, d3, d4] => { results := [.lit (.bool true)], args := [d1, d2, d3, d4] }
  | _ => none }
def worldSeenRow : OpenClaim := { program := "ytmjmmcdhpognaaadoor", sum := "842e86449f84091425637cb4d3d5567c5e0c611d8ca968f41fca9b1261200db2", func := "plimsoll/plimsolllaw11.WorldSeen", spec := "worldSeen", inPlace := ["internal/reflectlite.ValueOf", "(internal/reflectlite.Value).Type", "(internal/reflectlite.Value).IsNil", "internal/reflectlite.TypeOf", "(internal/reflectlite.Value).Elem", "(internal/reflectlite.Value).Set"], unfollowed := true, recurses := true, named := ["plimsoll/ring.errArg", "errors.errorType"], apart := false, laid := [("errors.errorType", laid_errors_errorType), ("plimsoll/ring.errArg", laid_plimsoll_ring_errArg)] }
def WorldSeenSaid : Prop := worldSeenRow.holds Tryd.pinned (OpenSpec.ofChange worldSeenSpec)

/-- ITS FALSE NEIGHBOUR: 'it returns false'. Refute it at one input. -/
def worldSeenWrong : ChangeSpec := { name := "worldSeen", fn := fun _ => fun
  | [d1, d2, d3, d4] => { results := [.lit (.bool false)], args := [d1, d2, d3, d4] }
  | _ => none }
def WorldSeenWrongFalsely : Prop := worldSeenRow.holds Tryd.pinned (OpenSpec.ofChange worldSeenWrong)

/- THE SECOND FORM. 'bulk': how many values and letters a reading holds, each counted each time it is reached (what is shared counts as often as it is met; a slice's spare places count too). A statement '..UptoSaid' is the law's where the arguments, and the package variables that the reading takes, are together of bulk at most 1048576: NARROWER than '..Said'. Prove '..Said' where nothing that the law and all that it calls make is longer than what came in: it says more and counts as full. Else prove '..UptoSaid'. A law counts once. -/
mutual
def uptoBulk {H : Type} : DataW H → Nat
  | .lit (.string bytes) => bytes.length + 1
  | .lit _ => 1
  | .nil => 1
  | .ptr d => uptoBulk d + 1
  | .slice elems spare => uptoBulkAll elems + uptoBulkAll spare + 1
  | .agg parts => uptoBulkAll parts + 1
  | .iface _ d => uptoBulk d + 1
  | .map entries => uptoBulkEntries entries + 1
  | .held _ => 1
def uptoBulkAll {H : Type} : List (DataW H) → Nat
  | [] => 0
  | d :: r => uptoBulk d + uptoBulkAll r
def uptoBulkEntries {H : Type} : List (Lit × DataW H) → Nat
  | [] => 0
  | x :: r => uptoBulkEntry x + uptoBulkEntries r
def uptoBulkEntry {H : Type} : Lit × DataW H → Nat
  | (.string bytes, d) => bytes.length + uptoBulk d + 1
  | (_, d) => uptoBulk d + 1
 end
def uptoSmall : (H : Type) → List (DataW H) → Bool := fun _ ds => decide (uptoBulkAll ds ≤ 1048576)
def OpenSpec.upto (s : _root_.Go.ChangeSpec) : _root_.Go.OpenSpec := { _root_.Go.OpenSpec.ofChange s with cond := some uptoSmall }

/-- 'plimsolllaw11.WorldSets', WHERE WHAT IT READS IS OF BULK AT MOST 1048576: true; the input reads as it did. -/
def worldSetsUptoRow : OpenClaim := { program := "ytmjmmcdhpognaaadoor", sum := "842e86449f84091425637cb4d3d5567c5e0c611d8ca968f41fca9b1261200db2", func := "plimsoll/plimsolllaw11.WorldSets", spec := "worldSets", inPlace := ["internal/reflectlite.ValueOf", "(internal/reflectlite.Value).Type", "(internal/reflectlite.Value).IsNil", "internal/reflectlite.TypeOf", "(internal/reflectlite.Value).Elem", "(internal/reflectlite.Value).Set"], unfollowed := true, recurses := true, named := ["plimsoll/ring.errArg", "errors.errorType"], apart := false, laid := [("errors.errorType", laid_errors_errorType), ("plimsoll/ring.errArg", laid_plimsoll_ring_errArg)], narrowed := true }
def WorldSetsUptoSaid : Prop := worldSetsUptoRow.holds Tryd.pinned (OpenSpec.upto worldSetsSpec)

/-- 'plimsolllaw11.WorldBounds', WHERE WHAT IT READS IS OF BULK AT MOST 1048576: true; the input reads as it did. -/
def worldBoundsUptoRow : OpenClaim := { program := "ytmjmmcdhpognaaadoor", sum := "842e86449f84091425637cb4d3d5567c5e0c611d8ca968f41fca9b1261200db2", func := "plimsoll/plimsolllaw11.WorldBounds", spec := "worldBounds", inPlace := ["internal/reflectlite.ValueOf", "(internal/reflectlite.Value).Type", "(internal/reflectlite.Value).IsNil", "internal/reflectlite.TypeOf", "(internal/reflectlite.Value).Elem", "(internal/reflectlite.Value).Set"], unfollowed := true, recurses := true, named := ["plimsoll/ring.errArg", "errors.errorType"], apart := false, laid := [("errors.errorType", laid_errors_errorType), ("plimsoll/ring.errArg", laid_plimsoll_ring_errArg)], narrowed := true }
def WorldBoundsUptoSaid : Prop := worldBoundsUptoRow.holds Tryd.pinned (OpenSpec.upto worldBoundsSpec)

/-- 'plimsolllaw11.WorldBack', WHERE WHAT IT READS IS OF BULK AT MOST 1048576: true; the input reads as it did. -/
def worldBackUptoRow : OpenClaim := { program := "ytmjmmcdhpognaaadoor", sum := "842e86449f84091425637cb4d3d5567c5e0c611d8ca968f41fca9b1261200db2", func := "plimsoll/plimsolllaw11.WorldBack", spec := "worldBack", inPlace := ["internal/reflectlite.ValueOf", "(internal/reflectlite.Value).Type", "(internal/reflectlite.Value).IsNil", "internal/reflectlite.TypeOf", "(internal/reflectlite.Value).Elem", "(internal/reflectlite.Value).Set"], unfollowed := true, recurses := true, named := ["plimsoll/ring.errArg", "errors.errorType"], apart := false, laid := [("errors.errorType", laid_errors_errorType), ("plimsoll/ring.errArg", laid_plimsoll_ring_errArg)], narrowed := true }
def WorldBackUptoSaid : Prop := worldBackUptoRow.holds Tryd.pinned (OpenSpec.upto worldBackSpec)

/-- 'plimsolllaw11.WorldTurns', WHERE WHAT IT READS IS OF BULK AT MOST 1048576: true; the input reads as it did. -/
def worldTurnsUptoRow : OpenClaim := { program := "ytmjmmcdhpognaaadoor", sum := "842e86449f84091425637cb4d3d5567c5e0c611d8ca968f41fca9b1261200db2", func := "plimsoll/plimsolllaw11.WorldTurns", spec := "worldTurns", inPlace := ["internal/reflectlite.ValueOf", "(internal/reflectlite.Value).Type", "(internal/reflectlite.Value).IsNil", "internal/reflectlite.TypeOf", "(internal/reflectlite.Value).Elem", "(internal/reflectlite.Value).Set"], unfollowed := true, recurses := true, named := ["plimsoll/ring.errArg", "errors.errorType"], apart := false, laid := [("errors.errorType", laid_errors_errorType), ("plimsoll/ring.errArg", laid_plimsoll_ring_errArg)], narrowed := true }
def WorldTurnsUptoSaid : Prop := worldTurnsUptoRow.holds Tryd.pinned (OpenSpec.upto worldTurnsSpec)

/-- 'plimsolllaw11.WorldOwn', WHERE WHAT IT READS IS OF BULK AT MOST 1048576: true; the input reads as it did. -/
def worldOwnUptoRow : OpenClaim := { program := "ytmjmmcdhpognaaadoor", sum := "842e86449f84091425637cb4d3d5567c5e0c611d8ca968f41fca9b1261200db2", func := "plimsoll/plimsolllaw11.WorldOwn", spec := "worldOwn", inPlace := ["internal/reflectlite.ValueOf", "(internal/reflectlite.Value).Type", "(internal/reflectlite.Value).IsNil", "internal/reflectlite.TypeOf", "(internal/reflectlite.Value).Elem", "(internal/reflectlite.Value).Set"], unfollowed := true, recurses := true, named := ["plimsoll/ring.errArg", "errors.errorType"], apart := false, laid := [("errors.errorType", laid_errors_errorType), ("plimsoll/ring.errArg", laid_plimsoll_ring_errArg)], narrowed := true }
def WorldOwnUptoSaid : Prop := worldOwnUptoRow.holds Tryd.pinned (OpenSpec.upto worldOwnSpec)

/-- 'plimsolllaw11.WorldSeen', WHERE WHAT IT READS IS OF BULK AT MOST 1048576: true; the input reads as it did. -/
def worldSeenUptoRow : OpenClaim := { program := "ytmjmmcdhpognaaadoor", sum := "842e86449f84091425637cb4d3d5567c5e0c611d8ca968f41fca9b1261200db2", func := "plimsoll/plimsolllaw11.WorldSeen", spec := "worldSeen", inPlace := ["internal/reflectlite.ValueOf", "(internal/reflectlite.Value).Type", "(internal/reflectlite.Value).IsNil", "internal/reflectlite.TypeOf", "(internal/reflectlite.Value).Elem", "(internal/reflectlite.Value).Set"], unfollowed := true, recurses := true, named := ["plimsoll/ring.errArg", "errors.errorType"], apart := false, laid := [("errors.errorType", laid_errors_errorType), ("plimsoll/ring.errArg", laid_plimsoll_ring_errArg)], narrowed := true }
def WorldSeenUptoSaid : Prop := worldSeenUptoRow.holds Tryd.pinned (OpenSpec.upto worldSeenSpec)

end Rows
end Go.Proofs.YtmjmmcdhpognaaaDoor
