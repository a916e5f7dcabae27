/-
  NARROWER THAN 'FOR EVERY INPUT', by the rows' own cells (each row's printed sentence says how): SpaceTurns: laid · SpaceBound: laid.
  DERIVED. THE GIVEN ROWS OF THIS SEAT. 2 by the template 'for every input the law returns true; each argument reads behind the call as it read before'; 0 by the template 'total and deterministic' (their statements: YthclfkhakmcnbaaDoorTotals.lean).
  GIVEN WITH THE SEED: the statements are not yours to turn. If you find one false, say at which input.
  Laid BY PROGRAM, IN A SANDBOX (cutbox-rows.mjs): the forced cells as the released guide's own fill.sh prints them over the translation 948f370f3788ab72… (all of the seat's roots in one cut). By AI agents, Wed Nov 11 2026. No macro, syntax, notation, axiom, sorry.
-/
import Derived.Test.YthclfkhakmcnbaaDoorChecked
import GoSem.Claim
import GoSem.ClaimJoined
import GoSem.ClaimMapViews
import Derived.JoinedTies
import Derived.KernelRfl
namespace Go.Proofs.YthclfkhakmcnbaaDoor
/- THE CELL 'sum', in the pinned program and in every row, IS THE sha256 OF THE DUMP (.gsa) THAT YthclfkhakmcnbaaDoorProg.lean LOADS. Nothing in Lean hashes anything: it is a label: what it is worth is what the hold of that sum in a sandbox is worth. -/
noncomputable def Tryd.pinned : Pinned := { name := "ythclfkhakmcnbaadoor", sum := "948f370f3788ab72fcbf8a3e1275ec07585470d3af7c81b1b0cc60ae30362bc4", checked := Tryd.checked }
namespace Rows
def none {H : Type} : Left H := { results := [], args := [] }

/- WHAT THE LISTED PACKAGE-LEVEL VARIABLES READ AS WHEN THE CALL BEGINS. Each datum BY PROGRAM (the guide's laid-datum.mjs) off the statement by which the dump's own 'gosem.cut.vars' lays the variable. In a bare row this is a premise. The card (YthclfkhakmcnbaaDoorCards.lean) ties it to the program's text. -/
def laid_errors_errorType {H : Type} : DataW H := .iface "internal/reflectlite.rtype" (.agg [.ptr (.lit (.string [101, 114, 114, 111, 114]))])
def laid_plimsoll_ring_errArg {H : Type} : DataW H := .iface "*errors.errorString" (.ptr (.agg [.lit (.string [110, 111, 32, 114, 105, 110, 103])]))
def laid_plimsoll_ring_errFull {H : Type} : DataW H := .iface "*errors.errorString" (.ptr (.agg [.lit (.string [102, 117, 108, 108])]))
def laid_plimsoll_ring_errEmpty {H : Type} : DataW H := .iface "*errors.errorString" (.ptr (.agg [.lit (.string [101, 109, 112, 116, 121])]))

/-- 'plimsolllaw10.SpaceTurns': WHATEVER THE INPUT: true; the input reads as it did. -/
def spaceTurnsSpec : ChangeSpec := { name := "spaceTurns", fn := fun _ => fun
  | [d1, d2, d3, d4, d5, d6, d7] => { results := [.lit (.bool true)], args := [d1, d2, d3, d4, d5, d6, d7] }
  | _ => none }
def spaceTurnsRow : OpenClaim := { program := "ythclfkhakmcnbaadoor", sum := "948f370f3788ab72fcbf8a3e1275ec07585470d3af7c81b1b0cc60ae30362bc4", func := "plimsoll/plimsolllaw10.SpaceTurns", spec := "spaceTurns", inPlace := ["internal/reflectlite.TypeOf", "internal/bytealg.abigen_runtime_cmpstring", "internal/reflectlite.ValueOf", "(internal/reflectlite.Value).Type", "(internal/reflectlite.Value).IsNil", "(internal/reflectlite.Value).Elem", "(internal/reflectlite.Value).Set"], unfollowed := true, recurses := true, named := ["plimsoll/ring.errArg", "plimsoll/ring.errFull", "plimsoll/ring.errEmpty", "errors.errorType"], apart := false, laid := [("errors.errorType", laid_errors_errorType), ("plimsoll/ring.errArg", laid_plimsoll_ring_errArg), ("plimsoll/ring.errFull", laid_plimsoll_ring_errFull), ("plimsoll/ring.errEmpty", laid_plimsoll_ring_errEmpty)] }
def SpaceTurnsSaid : Prop := spaceTurnsRow.holds Tryd.pinned (OpenSpec.ofChange spaceTurnsSpec)

/-- ITS FALSE NEIGHBOUR: 'it returns false'. Refute it at one input. -/
def spaceTurnsWrong : ChangeSpec := { name := "spaceTurns", fn := fun _ => fun
  | [d1, d2, d3, d4, d5, d6, d7] => { results := [.lit (.bool false)], args := [d1, d2, d3, d4, d5, d6, d7] }
  | _ => none }
def SpaceTurnsWrongFalsely : Prop := spaceTurnsRow.holds Tryd.pinned (OpenSpec.ofChange spaceTurnsWrong)

/-- 'plimsolllaw10.SpaceBound': WHATEVER THE INPUT: true; the input reads as it did. -/
def spaceBoundSpec : ChangeSpec := { name := "spaceBound", fn := fun _ => fun
  | [d1, d2, d3, d4, d5, d6] => { results := [.lit (.bool true)], args := [d1, d2, d3, d4, d5, d6] }
  | _ => none }
def spaceBoundRow : OpenClaim := { program := "ythclfkhakmcnbaadoor", sum := "948f370f3788ab72fcbf8a3e1275ec07585470d3af7c81b1b0cc60ae30362bc4", func := "plimsoll/plimsolllaw10.SpaceBound", spec := "spaceBound", inPlace := ["internal/reflectlite.TypeOf", "internal/bytealg.abigen_runtime_cmpstring", "internal/reflectlite.ValueOf", "(internal/reflectlite.Value).Type", "(internal/reflectlite.Value).IsNil", "(internal/reflectlite.Value).Elem", "(internal/reflectlite.Value).Set"], unfollowed := true, recurses := true, named := ["plimsoll/ring.errArg", "plimsoll/ring.errFull", "plimsoll/ring.errEmpty", "errors.errorType"], apart := false, laid := [("errors.errorType", laid_errors_errorType), ("plimsoll/ring.errArg", laid_plimsoll_ring_errArg), ("plimsoll/ring.errFull", laid_plimsoll_ring_errFull), ("plimsoll/ring.errEmpty", laid_plimsoll_ring_errEmpty)] }
def SpaceBoundSaid : Prop := spaceBoundRow.holds Tryd.pinned (OpenSpec.ofChange spaceBoundSpec)

/-- ITS FALSE NEIGHBOUR: 'it returns false'. Refute it at one input. -/
def spaceBoundWrong : ChangeSpec := { name := "spaceBound", fn := fun _ => fun
  | [d1, d2, d3, d4, d5, d6] => { results := [.lit (.bool false)], args := [d1, d2, d3, d4, d5, d6] }
  | _ => none }
def SpaceBoundWrongFalsely : Prop := spaceBoundRow.holds Tryd.pinned (OpenSpec.ofChange spaceBoundWrong)

/- THE SECOND FORM. 'bulk': how many values and letters a reading holds, each counted each time it is reached (what is shared counts as often as it is met; a slice's spare places count too). A statement '..UptoSaid' is the law's where the arguments, and the package variables that the reading takes, are together of bulk at most 1048576: NARROWER than '..Said'. Prove '..Said' where nothing that the law and all that it calls make is longer than what came in: it says more and counts as full. Else prove '..UptoSaid'. A law counts once. -/
mutual
def uptoBulk {H : Type} : DataW H → Nat
  | .lit (.string bytes) => bytes.length + 1
  | .lit _ => 1
  | .nil => 1
  | .ptr d => uptoBulk d + 1
  | .slice elems spare => uptoBulkAll elems + uptoBulkAll spare + 1
  | .agg parts => uptoBulkAll parts + 1
  | .iface _ d => uptoBulk d + 1
  | .map entries => uptoBulkEntries entries + 1
  | .held _ => 1
def uptoBulkAll {H : Type} : List (DataW H) → Nat
  | [] => 0
  | d :: r => uptoBulk d + uptoBulkAll r
def uptoBulkEntries {H : Type} : List (Lit × DataW H) → Nat
  | [] => 0
  | x :: r => uptoBulkEntry x + uptoBulkEntries r
def uptoBulkEntry {H : Type} : Lit × DataW H → Nat
  | (.string bytes, d) => bytes.length + uptoBulk d + 1
  | (_, d) => uptoBulk d + 1
 end
def uptoSmall : (H : Type) → List (DataW H) → Bool := fun _ ds => decide (uptoBulkAll ds ≤ 1048576)
def OpenSpec.upto (s : _root_.Go.ChangeSpec) : _root_.Go.OpenSpec := { _root_.Go.OpenSpec.ofChange s with cond := some uptoSmall }

/-- 'plimsolllaw10.SpaceTurns', WHERE WHAT IT READS IS OF BULK AT MOST 1048576: true; the input reads as it did. -/
def spaceTurnsUptoRow : OpenClaim := { program := "ythclfkhakmcnbaadoor", sum := "948f370f3788ab72fcbf8a3e1275ec07585470d3af7c81b1b0cc60ae30362bc4", func := "plimsoll/plimsolllaw10.SpaceTurns", spec := "spaceTurns", inPlace := ["internal/reflectlite.TypeOf", "internal/bytealg.abigen_runtime_cmpstring", "internal/reflectlite.ValueOf", "(internal/reflectlite.Value).Type", "(internal/reflectlite.Value).IsNil", "(internal/reflectlite.Value).Elem", "(internal/reflectlite.Value).Set"], unfollowed := true, recurses := true, named := ["plimsoll/ring.errArg", "plimsoll/ring.errFull", "plimsoll/ring.errEmpty", "errors.errorType"], apart := false, laid := [("errors.errorType", laid_errors_errorType), ("plimsoll/ring.errArg", laid_plimsoll_ring_errArg), ("plimsoll/ring.errFull", laid_plimsoll_ring_errFull), ("plimsoll/ring.errEmpty", laid_plimsoll_ring_errEmpty)], narrowed := true }
def SpaceTurnsUptoSaid : Prop := spaceTurnsUptoRow.holds Tryd.pinned (OpenSpec.upto spaceTurnsSpec)

/-- 'plimsolllaw10.SpaceBound', WHERE WHAT IT READS IS OF BULK AT MOST 1048576: true; the input reads as it did. -/
def spaceBoundUptoRow : OpenClaim := { program := "ythclfkhakmcnbaadoor", sum := "948f370f3788ab72fcbf8a3e1275ec07585470d3af7c81b1b0cc60ae30362bc4", func := "plimsoll/plimsolllaw10.SpaceBound", spec := "spaceBound", inPlace := ["internal/reflectlite.TypeOf", "internal/bytealg.abigen_runtime_cmpstring", "internal/reflectlite.ValueOf", "(internal/reflectlite.Value).Type", "(internal/reflectlite.Value).IsNil", "(internal/reflectlite.Value).Elem", "(internal/reflectlite.Value).Set"], unfollowed := true, recurses := true, named := ["plimsoll/ring.errArg", "plimsoll/ring.errFull", "plimsoll/ring.errEmpty", "errors.errorType"], apart := false, laid := [("errors.errorType", laid_errors_errorType), ("plimsoll/ring.errArg", laid_plimsoll_ring_errArg), ("plimsoll/ring.errFull", laid_plimsoll_ring_errFull), ("plimsoll/ring.errEmpty", laid_plimsoll_ring_errEmpty)], narrowed := true }
def SpaceBoundUptoSaid : Prop := spaceBoundUptoRow.holds Tryd.pinned (OpenSpec.upto spaceBoundSpec)

end Rows
end Go.Proofs.YthclfkhakmcnbaaDoor
