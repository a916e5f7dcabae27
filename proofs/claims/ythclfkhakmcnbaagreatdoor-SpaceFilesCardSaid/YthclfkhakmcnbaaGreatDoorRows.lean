/-
  NARROWER THAN 'FOR EVERY INPUT', by the rows' own cells (each row's printed sentence says how): SpaceFiles: laid · SpaceMakes: laid · SpaceTells: laid · SpaceBack: laid · SpaceApart: laid · SpaceRings: laid · SpaceQueues: laid.
  DERIVED. THE GIVEN ROWS OF THIS SEAT. 7 by the template 'for every input the law returns true; each argument reads behind the call as it read before'; 0 by the template 'total and deterministic' (their statements: YthclfkhakmcnbaaGreatDoorTotals.lean).
  GIVEN WITH THE SEED: the statements are not yours to turn. If you find one false, say at which input.
  Laid BY PROGRAM, IN A SANDBOX (cutbox-rows.mjs): the forced cells as the released guide's own fill.sh prints them over the translation a47ad77fb68a4f5b… (all of the seat's roots in one cut). By AI agents, Wed Nov 11 2026. No macro, syntax, notation, axiom, sorry.
-/
import Derived.Test.YthclfkhakmcnbaaGreatDoorChecked
import GoSem.Claim
import GoSem.ClaimJoined
import GoSem.ClaimMapViews
import Derived.JoinedTies
import Derived.KernelRfl
namespace Go.Proofs.YthclfkhakmcnbaaGreatDoor
/- THE CELL 'sum', in the pinned program and in every row, IS THE sha256 OF THE DUMP (.gsa) THAT YthclfkhakmcnbaaGreatDoorProg.lean LOADS. Nothing in Lean hashes anything: it is a label: what it is worth is what the hold of that sum in a sandbox is worth. -/
noncomputable def Tryz.pinned : Pinned := { name := "ythclfkhakmcnbaagreatdoor", sum := "a47ad77fb68a4f5bff9e1300a63c51287ca8565e57a1c04423dff4c94933330c", checked := Tryz.checked }
namespace Rows
def none {H : Type} : Left H := { results := [], args := [] }

/- WHAT THE LISTED PACKAGE-LEVEL VARIABLES READ AS WHEN THE CALL BEGINS. Each datum BY PROGRAM (the guide's laid-datum.mjs) off the statement by which the dump's own 'gosem.cut.vars' lays the variable. In a bare row this is a premise. The card (YthclfkhakmcnbaaGreatDoorCards.lean) ties it to the program's text. -/
def laid_errors_errorType {H : Type} : DataW H := .iface "internal/reflectlite.rtype" (.agg [.ptr (.lit (.string [101, 114, 114, 111, 114]))])
def laid_plimsoll_ring_errArg {H : Type} : DataW H := .iface "*errors.errorString" (.ptr (.agg [.lit (.string [110, 111, 32, 114, 105, 110, 103])]))
def laid_plimsoll_ring_errFull {H : Type} : DataW H := .iface "*errors.errorString" (.ptr (.agg [.lit (.string [102, 117, 108, 108])]))
def laid_plimsoll_ring_errEmpty {H : Type} : DataW H := .iface "*errors.errorString" (.ptr (.agg [.lit (.string [101, 109, 112, 116, 121])]))

/-- 'plimsolllaw10.SpaceFiles': WHATEVER THE INPUT: true; the input reads as it did. -/
def spaceFilesSpec : ChangeSpec := { name := "spaceFiles", fn := fun _ => fun
  | [d1, d2, d3, d4, d5, d6] => { results := [.lit (.bool true)], args := [d1, d2, d3, d4, d5, d6] }
  | _ => none }
def spaceFilesRow : OpenClaim := { program := "ythclfkhakmcnbaagreatdoor", sum := "a47ad77fb68a4f5bff9e1300a63c51287ca8565e57a1c04423dff4c94933330c", func := "plimsoll/plimsolllaw10.SpaceFiles", spec := "spaceFiles", inPlace := ["internal/reflectlite.TypeOf", "internal/bytealg.abigen_runtime_cmpstring", "internal/reflectlite.ValueOf", "(internal/reflectlite.Value).Type", "(internal/reflectlite.Value).IsNil", "(internal/reflectlite.Value).Elem", "(internal/reflectlite.Value).Set"], unfollowed := true, recurses := true, named := ["plimsoll/ring.errArg", "plimsoll/ring.errFull", "plimsoll/ring.errEmpty", "errors.errorType"], apart := false, laid := [("errors.errorType", laid_errors_errorType), ("plimsoll/ring.errArg", laid_plimsoll_ring_errArg), ("plimsoll/ring.errFull", laid_plimsoll_ring_errFull), ("plimsoll/ring.errEmpty", laid_plimsoll_ring_errEmpty)] }
def SpaceFilesSaid : Prop := spaceFilesRow.holds Tryz.pinned (OpenSpec.ofChange spaceFilesSpec)

/-- ITS FALSE NEIGHBOUR: 'it returns false'. Refute it at one input. -/
def spaceFilesWrong : ChangeSpec := { name := "spaceFiles", fn := fun _ => fun
  | [d1, d2, d3, d4, d5, d6] => { results := [.lit (.bool false)], args := [d1, d2, d3, d4, d5, d6] }
  | _ => none }
def SpaceFilesWrongFalsely : Prop := spaceFilesRow.holds Tryz.pinned (OpenSpec.ofChange spaceFilesWrong)

/-- 'plimsolllaw10.SpaceMakes': WHATEVER THE INPUT: true; the input reads as it did. -/
def spaceMakesSpec : ChangeSpec := { name := "spaceMakes", fn := fun _ => fun
  | [d1, d2, d3, d4, d5] => { results := [.lit (.bool true)], args := [d1, d2, d3, d4, d5] }
  | _ => none }
def spaceMakesRow : OpenClaim := { program := "ythclfkhakmcnbaagreatdoor", sum := "a47ad77fb68a4f5bff9e1300a63c51287ca8565e57a1c04423dff4c94933330c", func := "plimsoll/plimsolllaw10.SpaceMakes", spec := "spaceMakes", inPlace := ["internal/reflectlite.TypeOf", "internal/bytealg.abigen_runtime_cmpstring", "internal/reflectlite.ValueOf", "(internal/reflectlite.Value).Type", "(internal/reflectlite.Value).IsNil", "(internal/reflectlite.Value).Elem", "(internal/reflectlite.Value).Set"], unfollowed := true, recurses := true, named := ["plimsoll/ring.errArg", "plimsoll/ring.errFull", "plimsoll/ring.errEmpty", "errors.errorType"], apart := false, laid := [("errors.errorType", laid_errors_errorType), ("plimsoll/ring.errArg", laid_plimsoll_ring_errArg), ("plimsoll/ring.errFull", laid_plimsoll_ring_errFull), ("plimsoll/ring.errEmpty", laid_plimsoll_ring_errEmpty)] }
def SpaceMakesSaid : Prop := spaceMakesRow.holds Tryz.pinned (OpenSpec.ofChange spaceMakesSpec)

/-- ITS FALSE NEIGHBOUR: 'it returns false'. Refute it at one input. -/
def spaceMakesWrong : ChangeSpec := { name := "spaceMakes", fn := fun _ => fun
  | [d1, d2, d3, d4, d5] => { results := [.lit (.bool false)], args := [d1, d2, d3, d4, d5] }
  | _ => none }
def SpaceMakesWrongFalsely : Prop := spaceMakesRow.holds Tryz.pinned (OpenSpec.ofChange spaceMakesWrong)

/-- 'plimsolllaw10.SpaceTells': WHATEVER THE INPUT: true; the input reads as it did. -/
def spaceTellsSpec : ChangeSpec := { name := "spaceTells", fn := fun _ => fun
  | [d1, d2, d3] => { results := [.lit (.bool true)], args := [d1, d2, d3] }
  | _ => none }
def spaceTellsRow : OpenClaim := { program := "ythclfkhakmcnbaagreatdoor", sum := "a47ad77fb68a4f5bff9e1300a63c51287ca8565e57a1c04423dff4c94933330c", func := "plimsoll/plimsolllaw10.SpaceTells", spec := "spaceTells", inPlace := ["internal/reflectlite.TypeOf", "internal/bytealg.abigen_runtime_cmpstring", "internal/reflectlite.ValueOf", "(internal/reflectlite.Value).Type", "(internal/reflectlite.Value).IsNil", "(internal/reflectlite.Value).Elem", "(internal/reflectlite.Value).Set"], unfollowed := true, recurses := true, named := ["plimsoll/ring.errArg", "plimsoll/ring.errFull", "plimsoll/ring.errEmpty", "errors.errorType"], apart := false, laid := [("errors.errorType", laid_errors_errorType), ("plimsoll/ring.errArg", laid_plimsoll_ring_errArg), ("plimsoll/ring.errFull", laid_plimsoll_ring_errFull), ("plimsoll/ring.errEmpty", laid_plimsoll_ring_errEmpty)] }
def SpaceTellsSaid : Prop := spaceTellsRow.holds Tryz.pinned (OpenSpec.ofChange spaceTellsSpec)

/-- ITS FALSE NEIGHBOUR: 'it returns false'. Refute it at one input. -/
def spaceTellsWrong : ChangeSpec := { name := "spaceTells", fn := fun _ => fun
  | [d1, d2, d3] => { results := [.lit (.bool false)], args := [d1, d2, d3] }
  | _ => none }
def SpaceTellsWrongFalsely : Prop := spaceTellsRow.holds Tryz.pinned (OpenSpec.ofChange spaceTellsWrong)

/-- 'plimsolllaw10.SpaceBack': WHATEVER THE INPUT: true; the input reads as it did. -/
def spaceBackSpec : ChangeSpec := { name := "spaceBack", fn := fun _ => fun
  | [d1, d2, d3, d4, d5] => { results := [.lit (.bool true)], args := [d1, d2, d3, d4, d5] }
  | _ => none }
def spaceBackRow : OpenClaim := { program := "ythclfkhakmcnbaagreatdoor", sum := "a47ad77fb68a4f5bff9e1300a63c51287ca8565e57a1c04423dff4c94933330c", func := "plimsoll/plimsolllaw10.SpaceBack", spec := "spaceBack", inPlace := ["internal/reflectlite.TypeOf", "internal/bytealg.abigen_runtime_cmpstring", "internal/reflectlite.ValueOf", "(internal/reflectlite.Value).Type", "(internal/reflectlite.Value).IsNil", "(internal/reflectlite.Value).Elem", "(internal/reflectlite.Value).Set"], unfollowed := true, recurses := true, named := ["plimsoll/ring.errArg", "plimsoll/ring.errFull", "plimsoll/ring.errEmpty", "errors.errorType"], apart := false, laid := [("errors.errorType", laid_errors_errorType), ("plimsoll/ring.errArg", laid_plimsoll_ring_errArg), ("plimsoll/ring.errFull", laid_plimsoll_ring_errFull), ("plimsoll/ring.errEmpty", laid_plimsoll_ring_errEmpty)] }
def SpaceBackSaid : Prop := spaceBackRow.holds Tryz.pinned (OpenSpec.ofChange spaceBackSpec)

/-- ITS FALSE NEIGHBOUR: 'it returns false'. Refute it at one input. -/
def spaceBackWrong : ChangeSpec := { name := "spaceBack", fn := fun _ => fun
  | [d1, d2, d3, d4, d5] => { results := [.lit (.bool false)], args := [d1, d2, d3, d4, d5] }
  | _ => none }
def SpaceBackWrongFalsely : Prop := spaceBackRow.holds Tryz.pinned (OpenSpec.ofChange spaceBackWrong)

/-- 'plimsolllaw10.SpaceApart': WHATEVER THE INPUT: true; the input reads as it did. -/
def spaceApartSpec : ChangeSpec := { name := "spaceApart", fn := fun _ => fun
  | [d1, d2, d3, d4, d5, d6, d7] => { results := [.lit (.bool true)], args := [d1, d2, d3, d4, d5, d6, d7] }
  | _ => none }
def spaceApartRow : OpenClaim := { program := "ythclfkhakmcnbaagreatdoor", sum := "a47ad77fb68a4f5bff9e1300a63c51287ca8565e57a1c04423dff4c94933330c", func := "plimsoll/plimsolllaw10.SpaceApart", spec := "spaceApart", inPlace := ["internal/reflectlite.TypeOf", "internal/bytealg.abigen_runtime_cmpstring", "internal/reflectlite.ValueOf", "(internal/reflectlite.Value).Type", "(internal/reflectlite.Value).IsNil", "(internal/reflectlite.Value).Elem", "(internal/reflectlite.Value).Set"], unfollowed := true, recurses := true, named := ["plimsoll/ring.errArg", "plimsoll/ring.errFull", "plimsoll/ring.errEmpty", "errors.errorType"], apart := false, laid := [("errors.errorType", laid_errors_errorType), ("plimsoll/ring.errArg", laid_plimsoll_ring_errArg), ("plimsoll/ring.errFull", laid_plimsoll_ring_errFull), ("plimsoll/ring.errEmpty", laid_plimsoll_ring_errEmpty)] }
def SpaceApartSaid : Prop := spaceApartRow.holds Tryz.pinned (OpenSpec.ofChange spaceApartSpec)

/-- ITS FALSE NEIGHBOUR: 'it returns false'. Refute it at one input. -/
def spaceApartWrong : ChangeSpec := { name := "spaceApart", fn := fun _ => fun
  | [d1, d2, d3, d4, d5, d6, d7] => { results := [.lit (.bool false)], args := [d1, d2, d3, d4, d5, d6, d7] }
  | _ => none }
def SpaceApartWrongFalsely : Prop := spaceApartRow.holds Tryz.pinned (OpenSpec.ofChange spaceApartWrong)

/-- 'plimsolllaw10.SpaceRings': WHATEVER THE INPUT: true; the input reads as it did. -/
def spaceRingsSpec : ChangeSpec := { name := "spaceRings", fn := fun _ => fun
  | [d1, d2, d3] => { results := [.lit (.bool true)], args := [d1, d2, d3] }
  | _ => none }
def spaceRingsRow : OpenClaim := { program := "ythclfkhakmcnbaagreatdoor", sum := "a47ad77fb68a4f5bff9e1300a63c51287ca8565e57a1c04423dff4c94933330c", func := "plimsoll/plimsolllaw10.SpaceRings", spec := "spaceRings", inPlace := ["internal/reflectlite.TypeOf", "internal/bytealg.abigen_runtime_cmpstring", "internal/reflectlite.ValueOf", "(internal/reflectlite.Value).Type", "(internal/reflectlite.Value).IsNil", "(internal/reflectlite.Value).Elem", "(internal/reflectlite.Value).Set"], unfollowed := true, recurses := true, named := ["plimsoll/ring.errArg", "plimsoll/ring.errFull", "plimsoll/ring.errEmpty", "errors.errorType"], apart := false, laid := [("errors.errorType", laid_errors_errorType), ("plimsoll/ring.errArg", laid_plimsoll_ring_errArg), ("plimsoll/ring.errFull", laid_plimsoll_ring_errFull), ("plimsoll/ring.errEmpty", laid_plimsoll_ring_errEmpty)] }
def SpaceRingsSaid : Prop := spaceRingsRow.holds Tryz.pinned (OpenSpec.ofChange spaceRingsSpec)

/-- ITS FALSE NEIGHBOUR: 'it returns false'. Refute it at one input. -/
def spaceRingsWrong : ChangeSpec := { name := "spaceRings", fn := fun _ => fun
  | [d1, d2, d3] => { results := [.lit (.bool false)], args := [d1, d2, d3] }
  | _ => none }
def SpaceRingsWrongFalsely : Prop := spaceRingsRow.holds Tryz.pinned (OpenSpec.ofChange spaceRingsWrong)

/-- 'plimsolllaw10.SpaceQueues': WHATEVER THE INPUT: true; the input reads as it did. -/
def spaceQueuesSpec : ChangeSpec := { name := "spaceQueues", fn := fun _ => fun
  | [d1, d2, d3] => { results := [.lit (.bool true)], args := [d1, d2, d3] }
  | _ => none }
def spaceQueuesRow : OpenClaim := { program := "ythclfkhakmcnbaagreatdoor", sum := "a47ad77fb68a4f5bff9e1300a63c51287ca8565e57a1c04423dff4c94933330c", func := "plimsoll/plimsolllaw10.SpaceQueues", spec := "spaceQueues", inPlace := ["internal/reflectlite.TypeOf", "internal/bytealg.abigen_runtime_cmpstring", "internal/reflectlite.ValueOf", "(internal/reflectlite.Value).Type", "(internal/reflectlite.Value).IsNil", "(internal/reflectlite.Value).Elem", "(internal/reflectlite.Value).Set"], unfollowed := true, recurses := true, named := ["plimsoll/ring.errArg", "plimsoll/ring.errFull", "plimsoll/ring.errEmpty", "errors.errorType"], apart := false, laid := [("errors.errorType", laid_errors_errorType), ("plimsoll/ring.errArg", laid_plimsoll_ring_errArg), ("plimsoll/ring.errFull", laid_plimsoll_ring_errFull), ("plimsoll/ring.errEmpty", laid_plimsoll_ring_errEmpty)] }
def SpaceQueuesSaid : Prop := spaceQueuesRow.holds Tryz.pinned (OpenSpec.ofChange spaceQueuesSpec)

/-- ITS FALSE NEIGHBOUR: 'it returns false'. Refute it at one input. -/
def spaceQueuesWrong : ChangeSpec := { name := "spaceQueues", fn := fun _ => fun
  | [d1, d2, d3] => { results := [.lit (.bool false)], args := [d1, d2, d3] }
  | _ => none }
def SpaceQueuesWrongFalsely : Prop := spaceQueuesRow.holds Tryz.pinned (OpenSpec.ofChange spaceQueuesWrong)

/- THE SECOND FORM. 'bulk': how many values and letters a reading holds, each counted each time it is reached (what is shared counts as often as it is met; a slice's spare places count too). A statement '..UptoSaid' is the law's where the arguments, and the package variables that the reading takes, are together of bulk at most 1048576: NARROWER than '..Said'. Prove '..Said' where nothing that the law and all that it calls make is longer than what came in: it says more and counts as full. Else prove '..UptoSaid'. A law counts once. -/
mutual
def uptoBulk {H : Type} : DataW H → Nat
  | .lit (.string bytes) => bytes.length + 1
  | .lit _ => 1
  | .nil => 1
  | .ptr d => uptoBulk d + 1
  | .slice elems spare => uptoBulkAll elems + uptoBulkAll spare + 1
  | .agg parts => uptoBulkAll parts + 1
  | .iface _ d => uptoBulk d + 1
  | .map entries => uptoBulkEntries entries + 1
  | .held _ => 1
def uptoBulkAll {H : Type} : List (DataW H) → Nat
  | [] => 0
  | d :: r => uptoBulk d + uptoBulkAll r
def uptoBulkEntries {H : Type} : List (Lit × DataW H) → Nat
  | [] => 0
  | x :: r => uptoBulkEntry x + uptoBulkEntries r
def uptoBulkEntry {H : Type} : Lit × DataW H → Nat
  | (.string bytes, d) => bytes.length + uptoBulk d + 1
  | (_, d) => uptoBulk d + 1
 end
def uptoSmall : (H : Type) → List (DataW H) → Bool := fun _ ds => decide (uptoBulkAll ds ≤ 1048576)
def OpenSpec.upto (s : _root_.Go.ChangeSpec) : _root_.Go.OpenSpec := { _root_.Go.OpenSpec.ofChange s with cond := some uptoSmall }

/-- 'plimsolllaw10.SpaceFiles', WHERE WHAT IT READS IS OF BULK AT MOST 1048576: true; the input reads as it did. -/
def spaceFilesUptoRow : OpenClaim := { program := "ythclfkhakmcnbaagreatdoor", sum := "a47ad77fb68a4f5bff9e1300a63c51287ca8565e57a1c04423dff4c94933330c", func := "plimsoll/plimsolllaw10.SpaceFiles", spec := "spaceFiles", inPlace := ["internal/reflectlite.TypeOf", "internal/bytealg.abigen_runtime_cmpstring", "internal/reflectlite.ValueOf", "(internal/reflectlite.Value).Type", "(internal/reflectlite.Value).IsNil", "(internal/reflectlite.Value).Elem", "(internal/reflectlite.Value).Set"], unfollowed := true, recurses := true, named := ["plimsoll/ring.errArg", "plimsoll/ring.errFull", "plimsoll/ring.errEmpty", "errors.errorType"], apart := false, laid := [("errors.errorType", laid_errors_errorType), ("plimsoll/ring.errArg", laid_plimsoll_ring_errArg), ("plimsoll/ring.errFull", laid_plimsoll_ring_errFull), ("plimsoll/ring.errEmpty", laid_plimsoll_ring_errEmpty)], narrowed := true }
def SpaceFilesUptoSaid : Prop := spaceFilesUptoRow.holds Tryz.pinned (OpenSpec.upto spaceFilesSpec)

/-- 'plimsolllaw10.SpaceMakes', WHERE WHAT IT READS IS OF BULK AT MOST 1048576: true; the input reads as it did. -/
def spaceMakesUptoRow : OpenClaim := { program := "ythclfkhakmcnbaagreatdoor", sum := "a47ad77fb68a4f5bff9e1300a63c51287ca8565e57a1c04423dff4c94933330c", func := "plimsoll/plimsolllaw10.SpaceMakes", spec := "spaceMakes", inPlace := ["internal/reflectlite.TypeOf", "internal/bytealg.abigen_runtime_cmpstring", "internal/reflectlite.ValueOf", "(internal/reflectlite.Value).Type", "(internal/reflectlite.Value).IsNil", "(internal/reflectlite.Value).Elem", "(internal/reflectlite.Value).Set"], unfollowed := true, recurses := true, named := ["plimsoll/ring.errArg", "plimsoll/ring.errFull", "plimsoll/ring.errEmpty", "errors.errorType"], apart := false, laid := [("errors.errorType", laid_errors_errorType), ("plimsoll/ring.errArg", laid_plimsoll_ring_errArg), ("plimsoll/ring.errFull", laid_plimsoll_ring_errFull), ("plimsoll/ring.errEmpty", laid_plimsoll_ring_errEmpty)], narrowed := true }
def SpaceMakesUptoSaid : Prop := spaceMakesUptoRow.holds Tryz.pinned (OpenSpec.upto spaceMakesSpec)

/-- 'plimsolllaw10.SpaceTells', WHERE WHAT IT READS IS OF BULK AT MOST 1048576: true; the input reads as it did. -/
def spaceTellsUptoRow : OpenClaim := { program := "ythclfkhakmcnbaagreatdoor", sum := "a47ad77fb68a4f5bff9e1300a63c51287ca8565e57a1c04423dff4c94933330c", func := "plimsoll/plimsolllaw10.SpaceTells", spec := "spaceTells", inPlace := ["internal/reflectlite.TypeOf", "internal/bytealg.abigen_runtime_cmpstring", "internal/reflectlite.ValueOf", "(internal/reflectlite.Value).Type", "(internal/reflectlite.Value).IsNil", "(internal/reflectlite.Value).Elem", "(internal/reflectlite.Value).Set"], unfollowed := true, recurses := true, named := ["plimsoll/ring.errArg", "plimsoll/ring.errFull", "plimsoll/ring.errEmpty", "errors.errorType"], apart := false, laid := [("errors.errorType", laid_errors_errorType), ("plimsoll/ring.errArg", laid_plimsoll_ring_errArg), ("plimsoll/ring.errFull", laid_plimsoll_ring_errFull), ("plimsoll/ring.errEmpty", laid_plimsoll_ring_errEmpty)], narrowed := true }
def SpaceTellsUptoSaid : Prop := spaceTellsUptoRow.holds Tryz.pinned (OpenSpec.upto spaceTellsSpec)

/-- 'plimsolllaw10.SpaceBack', WHERE WHAT IT READS IS OF BULK AT MOST 1048576: true; the input reads as it did. -/
def spaceBackUptoRow : OpenClaim := { program := "ythclfkhakmcnbaagreatdoor", sum := "a47ad77fb68a4f5bff9e1300a63c51287ca8565e57a1c04423dff4c94933330c", func := "plimsoll/plimsolllaw10.SpaceBack", spec := "spaceBack", inPlace := ["internal/reflectlite.TypeOf", "internal/bytealg.abigen_runtime_cmpstring", "internal/reflectlite.ValueOf", "(internal/reflectlite.Value).Type", "(internal/reflectlite.Value).IsNil", "(internal/reflectlite.Value).Elem", "(internal/reflectlite.Value).Set"], unfollowed := true, recurses := true, named := ["plimsoll/ring.errArg", "plimsoll/ring.errFull", "plimsoll/ring.errEmpty", "errors.errorType"], apart := false, laid := [("errors.errorType", laid_errors_errorType), ("plimsoll/ring.errArg", laid_plimsoll_ring_errArg), ("plimsoll/ring.errFull", laid_plimsoll_ring_errFull), ("plimsoll/ring.errEmpty", laid_plimsoll_ring_errEmpty)], narrowed := true }
def SpaceBackUptoSaid : Prop := spaceBackUptoRow.holds Tryz.pinned (OpenSpec.upto spaceBackSpec)

/-- 'plimsolllaw10.SpaceApart', WHERE WHAT IT READS IS OF BULK AT MOST 1048576: true; the input reads as it did. -/
def spaceApartUptoRow : OpenClaim := { program := "ythclfkhakmcnbaagreatdoor", sum := "a47ad77fb68a4f5bff9e1300a63c51287ca8565e57a1c04423dff4c94933330c", func := "plimsoll/plimsolllaw10.SpaceApart", spec := "spaceApart", inPlace := ["internal/reflectlite.TypeOf", "internal/bytealg.abigen_runtime_cmpstring", "internal/reflectlite.ValueOf", "(internal/reflectlite.Value).Type", "(internal/reflectlite.Value).IsNil", "(internal/reflectlite.Value).Elem", "(internal/reflectlite.Value).Set"], unfollowed := true, recurses := true, named := ["plimsoll/ring.errArg", "plimsoll/ring.errFull", "plimsoll/ring.errEmpty", "errors.errorType"], apart := false, laid := [("errors.errorType", laid_errors_errorType), ("plimsoll/ring.errArg", laid_plimsoll_ring_errArg), ("plimsoll/ring.errFull", laid_plimsoll_ring_errFull), ("plimsoll/ring.errEmpty", laid_plimsoll_ring_errEmpty)], narrowed := true }
def SpaceApartUptoSaid : Prop := spaceApartUptoRow.holds Tryz.pinned (OpenSpec.upto spaceApartSpec)

/-- 'plimsolllaw10.SpaceRings', WHERE WHAT IT READS IS OF BULK AT MOST 1048576: true; the input reads as it did. -/
def spaceRingsUptoRow : OpenClaim := { program := "ythclfkhakmcnbaagreatdoor", sum := "a47ad77fb68a4f5bff9e1300a63c51287ca8565e57a1c04423dff4c94933330c", func := "plimsoll/plimsolllaw10.SpaceRings", spec := "spaceRings", inPlace := ["internal/reflectlite.TypeOf", "internal/bytealg.abigen_runtime_cmpstring", "internal/reflectlite.ValueOf", "(internal/reflectlite.Value).Type", "(internal/reflectlite.Value).IsNil", "(internal/reflectlite.Value).Elem", "(internal/reflectlite.Value).Set"], unfollowed := true, recurses := true, named := ["plimsoll/ring.errArg", "plimsoll/ring.errFull", "plimsoll/ring.errEmpty", "errors.errorType"], apart := false, laid := [("errors.errorType", laid_errors_errorType), ("plimsoll/ring.errArg", laid_plimsoll_ring_errArg), ("plimsoll/ring.errFull", laid_plimsoll_ring_errFull), ("plimsoll/ring.errEmpty", laid_plimsoll_ring_errEmpty)], narrowed := true }
def SpaceRingsUptoSaid : Prop := spaceRingsUptoRow.holds Tryz.pinned (OpenSpec.upto spaceRingsSpec)

/-- 'plimsolllaw10.SpaceQueues', WHERE WHAT IT READS IS OF BULK AT MOST 1048576: true; the input reads as it did. -/
def spaceQueuesUptoRow : OpenClaim := { program := "ythclfkhakmcnbaagreatdoor", sum := "a47ad77fb68a4f5bff9e1300a63c51287ca8565e57a1c04423dff4c94933330c", func := "plimsoll/plimsolllaw10.SpaceQueues", spec := "spaceQueues", inPlace := ["internal/reflectlite.TypeOf", "internal/bytealg.abigen_runtime_cmpstring", "internal/reflectlite.ValueOf", "(internal/reflectlite.Value).Type", "(internal/reflectlite.Value).IsNil", "(internal/reflectlite.Value).Elem", "(internal/reflectlite.Value).Set"], unfollowed := true, recurses := true, named := ["plimsoll/ring.errArg", "plimsoll/ring.errFull", "plimsoll/ring.errEmpty", "errors.errorType"], apart := false, laid := [("errors.errorType", laid_errors_errorType), ("plimsoll/ring.errArg", laid_plimsoll_ring_errArg), ("plimsoll/ring.errFull", laid_plimsoll_ring_errFull), ("plimsoll/ring.errEmpty", laid_plimsoll_ring_errEmpty)], narrowed := true }
def SpaceQueuesUptoSaid : Prop := spaceQueuesUptoRow.holds Tryz.pinned (OpenSpec.upto spaceQueuesSpec)

end Rows
end Go.Proofs.YthclfkhakmcnbaaGreatDoor
