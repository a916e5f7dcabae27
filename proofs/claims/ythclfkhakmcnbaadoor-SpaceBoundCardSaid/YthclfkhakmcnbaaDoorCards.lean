/-
  DERIVED. GIVEN WITH THE SEED: THE CARDS: each row of YthclfkhakmcnbaaDoorRows.lean that lists a variable, with what it lists TIED to the program's text (the seventh form; the later family's looks); each row that meets fmt, with fmt's text TOLD by the authors' own Lean function (tested against real Go, not proved from fmt's source: count such statements apart). THE CARD IS WHAT COUNTS. Prove the row's statement (the work); the ties are given (YthclfkhakmcnbaaDoorTie.lean); close each card by the builder's one call (the guide's Derived/Test/ToyasCard.lean, 'card_holds'). Laid BY PROGRAM, IN A SANDBOX (cutbox-door.mjs). By AI agents, Wed Nov 11 2026. No macro, syntax, notation, axiom, sorry.
-/
import Derived.Test.YthclfkhakmcnbaaDoorRows
import GoSem.ClaimSeven
namespace Go.Proofs.YthclfkhakmcnbaaDoor
namespace Rows

/-- THE TIED CARD OF 'plimsolllaw10.SpaceTurns'. -/
def spaceTurnsCard : Claim7 := { stood := { row := spaceTurnsRow, standIns := [], harness := (true, "8677c038b524c1b8e42a34bb3349a7630e81c4f4104ff5546c0012336b27d787"), looks := true }, kinds := [], alts := [], laidByText := true, laidKinds := [.handle, .sentinel, .sentinel, .sentinel], laidTests := true, laidLooks := .later }
def SpaceTurnsCardSaid : Prop := Claim7.holds Tryd.pinned (.plain (OpenSpec.ofChange spaceTurnsSpec)) spaceTurnsCard

/-- THE TIED CARD OF 'plimsolllaw10.SpaceBound'. -/
def spaceBoundCard : Claim7 := { stood := { row := spaceBoundRow, standIns := [], harness := (true, "8677c038b524c1b8e42a34bb3349a7630e81c4f4104ff5546c0012336b27d787"), looks := true }, kinds := [], alts := [], laidByText := true, laidKinds := [.handle, .sentinel, .sentinel, .sentinel], laidTests := true, laidLooks := .later }
def SpaceBoundCardSaid : Prop := Claim7.holds Tryd.pinned (.plain (OpenSpec.ofChange spaceBoundSpec)) spaceBoundCard

/-- THE SECOND FORM's CARD OF 'plimsolllaw10.SpaceTurns'. -/
def spaceTurnsUptoCard : Claim7 := { stood := { row := spaceTurnsUptoRow, standIns := [], harness := (true, "8677c038b524c1b8e42a34bb3349a7630e81c4f4104ff5546c0012336b27d787"), looks := true }, kinds := [], alts := [], laidByText := true, laidKinds := [.handle, .sentinel, .sentinel, .sentinel], laidTests := true, laidLooks := .later }
def SpaceTurnsUptoCardSaid : Prop := Claim7.holds Tryd.pinned (.plain (OpenSpec.upto spaceTurnsSpec)) spaceTurnsUptoCard

/-- THE SECOND FORM's CARD OF 'plimsolllaw10.SpaceBound'. -/
def spaceBoundUptoCard : Claim7 := { stood := { row := spaceBoundUptoRow, standIns := [], harness := (true, "8677c038b524c1b8e42a34bb3349a7630e81c4f4104ff5546c0012336b27d787"), looks := true }, kinds := [], alts := [], laidByText := true, laidKinds := [.handle, .sentinel, .sentinel, .sentinel], laidTests := true, laidLooks := .later }
def SpaceBoundUptoCardSaid : Prop := Claim7.holds Tryd.pinned (.plain (OpenSpec.upto spaceBoundSpec)) spaceBoundUptoCard
end Rows
end Go.Proofs.YthclfkhakmcnbaaDoor
