/-
  DERIVED. GIVEN WITH THE SEED: THE CARDS: each row of YtmjmmcdhpognaaaDoorRows.lean that lists a variable, with what it lists TIED to the program's text (the seventh form; the later family's looks); each row that meets fmt, with fmt's text TOLD by the authors' own Lean function (tested against real Go, not proved from fmt's source: count such statements apart). THE CARD IS WHAT COUNTS. Prove the row's statement (the work); the ties are given (YtmjmmcdhpognaaaDoorTie.lean); close each card by the builder's one call (the guide's Derived/Test/ToyasCard.lean, 'card_holds'). Laid BY PROGRAM, IN A SANDBOX (cutbox-door.mjs). By AI agents, Wed Nov 11 2026. No macro, syntax, notation, axiom, sorry.
-/
import Derived.Test.YtmjmmcdhpognaaaDoorRows
import GoSem.ClaimSeven
namespace Go.Proofs.YtmjmmcdhpognaaaDoor
namespace Rows

/-- THE TIED CARD OF 'plimsolllaw11.WorldSets'. -/
def worldSetsCard : Claim7 := { stood := { row := worldSetsRow, standIns := [], harness := (true, "033a14cf92dde5ae82615a6584e3f5d4d0a46e12534e19963527f5326182203b"), looks := true }, kinds := [], alts := [], laidByText := true, laidKinds := [.handle, .sentinel], laidTests := true, laidLooks := .later }
def WorldSetsCardSaid : Prop := Claim7.holds Tryd.pinned (.plain (OpenSpec.ofChange worldSetsSpec)) worldSetsCard

/-- THE TIED CARD OF 'plimsolllaw11.WorldBounds'. -/
def worldBoundsCard : Claim7 := { stood := { row := worldBoundsRow, standIns := [], harness := (true, "033a14cf92dde5ae82615a6584e3f5d4d0a46e12534e19963527f5326182203b"), looks := true }, kinds := [], alts := [], laidByText := true, laidKinds := [.handle, .sentinel], laidTests := true, laidLooks := .later }
def WorldBoundsCardSaid : Prop := Claim7.holds Tryd.pinned (.plain (OpenSpec.ofChange worldBoundsSpec)) worldBoundsCard

/-- THE TIED CARD OF 'plimsolllaw11.WorldBack'. -/
def worldBackCard : Claim7 := { stood := { row := worldBackRow, standIns := [], harness := (true, "033a14cf92dde5ae82615a6584e3f5d4d0a46e12534e19963527f5326182203b"), looks := true }, kinds := [], alts := [], laidByText := true, laidKinds := [.handle, .sentinel], laidTests := true, laidLooks := .later }
def WorldBackCardSaid : Prop := Claim7.holds Tryd.pinned (.plain (OpenSpec.ofChange worldBackSpec)) worldBackCard

/-- THE TIED CARD OF 'plimsolllaw11.WorldTurns'. -/
def worldTurnsCard : Claim7 := { stood := { row := worldTurnsRow, standIns := [], harness := (true, "033a14cf92dde5ae82615a6584e3f5d4d0a46e12534e19963527f5326182203b"), looks := true }, kinds := [], alts := [], laidByText := true, laidKinds := [.handle, .sentinel], laidTests := true, laidLooks := .later }
def WorldTurnsCardSaid : Prop := Claim7.holds Tryd.pinned (.plain (OpenSpec.ofChange worldTurnsSpec)) worldTurnsCard

/-- THE TIED CARD OF 'plimsolllaw11.WorldOwn'. -/
def worldOwnCard : Claim7 := { stood := { row := worldOwnRow, standIns := [], harness := (true, "033a14cf92dde5ae82615a6584e3f5d4d0a46e12534e19963527f5326182203b"), looks := true }, kinds := [], alts := [], laidByText := true, laidKinds := [.handle, .sentinel], laidTests := true, laidLooks := .later }
def WorldOwnCardSaid : Prop := Claim7.holds Tryd.pinned (.plain (OpenSpec.ofChange worldOwnSpec)) worldOwnCard

/-- THE TIED CARD OF 'plimsolllaw11.WorldSeen'. -/
def worldSeenCard : Claim7 := { stood := { row := worldSeenRow, standIns := [], harness := (true, "033a14cf92dde5ae82615a6584e3f5d4d0a46e12534e19963527f5326182203b"), looks := true }, kinds := [], alts := [], laidByText := true, laidKinds := [.handle, .sentinel], laidTests := true, laidLooks := .later }
def WorldSeenCardSaid : Prop := Claim7.holds Tryd.pinned (.plain (OpenSpec.ofChange worldSeenSpec)) worldSeenCard

/-- THE SECOND FORM's CARD OF 'plimsolllaw11.WorldSets'. -/
def worldSetsUptoCard : Claim7 := { stood := { row := worldSetsUptoRow, standIns := [], harness := (true, "033a14cf92dde5ae82615a6584e3f5d4d0a46e12534e19963527f5326182203b"), looks := true }, kinds := [], alts := [], laidByText := true, laidKinds := [.handle, .sentinel], laidTests := true, laidLooks := .later }
def WorldSetsUptoCardSaid : Prop := Claim7.holds Tryd.pinned (.plain (OpenSpec.upto worldSetsSpec)) worldSetsUptoCard

/-- THE SECOND FORM's CARD OF 'plimsolllaw11.WorldBounds'. -/
def worldBoundsUptoCard : Claim7 := { stood := { row := worldBoundsUptoRow, standIns := [], harness := (true, "033a14cf92dde5ae82615a6584e3f5d4d0a46e12534e19963527f5326182203b"), looks := true }, kinds := [], alts := [], laidByText := true, laidKinds := [.handle, .sentinel], laidTests := true, laidLooks := .later }
def WorldBoundsUptoCardSaid : Prop := Claim7.holds Tryd.pinned (.plain (OpenSpec.upto worldBoundsSpec)) worldBoundsUptoCard

/-- THE SECOND FORM's CARD OF 'plimsolllaw11.WorldBack'. -/
def worldBackUptoCard : Claim7 := { stood := { row := worldBackUptoRow, standIns := [], harness := (true, "033a14cf92dde5ae82615a6584e3f5d4d0a46e12534e19963527f5326182203b"), looks := true }, kinds := [], alts := [], laidByText := true, laidKinds := [.handle, .sentinel], laidTests := true, laidLooks := .later }
def WorldBackUptoCardSaid : Prop := Claim7.holds Tryd.pinned (.plain (OpenSpec.upto worldBackSpec)) worldBackUptoCard

/-- THE SECOND FORM's CARD OF 'plimsolllaw11.WorldTurns'. -/
def worldTurnsUptoCard : Claim7 := { stood := { row := worldTurnsUptoRow, standIns := [], harness := (true, "033a14cf92dde5ae82615a6584e3f5d4d0a46e12534e19963527f5326182203b"), looks := true }, kinds := [], alts := [], laidByText := true, laidKinds := [.handle, .sentinel], laidTests := true, laidLooks := .later }
def WorldTurnsUptoCardSaid : Prop := Claim7.holds Tryd.pinned (.plain (OpenSpec.upto worldTurnsSpec)) worldTurnsUptoCard

/-- THE SECOND FORM's CARD OF 'plimsolllaw11.WorldOwn'. -/
def worldOwnUptoCard : Claim7 := { stood := { row := worldOwnUptoRow, standIns := [], harness := (true, "033a14cf92dde5ae82615a6584e3f5d4d0a46e12534e19963527f5326182203b"), looks := true }, kinds := [], alts := [], laidByText := true, laidKinds := [.handle, .sentinel], laidTests := true, laidLooks := .later }
def WorldOwnUptoCardSaid : Prop := Claim7.holds Tryd.pinned (.plain (OpenSpec.upto worldOwnSpec)) worldOwnUptoCard

/-- THE SECOND FORM's CARD OF 'plimsolllaw11.WorldSeen'. -/
def worldSeenUptoCard : Claim7 := { stood := { row := worldSeenUptoRow, standIns := [], harness := (true, "033a14cf92dde5ae82615a6584e3f5d4d0a46e12534e19963527f5326182203b"), looks := true }, kinds := [], alts := [], laidByText := true, laidKinds := [.handle, .sentinel], laidTests := true, laidLooks := .later }
def WorldSeenUptoCardSaid : Prop := Claim7.holds Tryd.pinned (.plain (OpenSpec.upto worldSeenSpec)) worldSeenUptoCard
end Rows
end Go.Proofs.YtmjmmcdhpognaaaDoor
