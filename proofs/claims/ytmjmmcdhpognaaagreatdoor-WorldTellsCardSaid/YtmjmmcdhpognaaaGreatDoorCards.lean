/-
  DERIVED. GIVEN WITH THE SEED: THE CARDS: each row of YtmjmmcdhpognaaaGreatDoorRows.lean that lists a variable, with what it lists TIED to the program's text (the seventh form; the later family's looks); each row that meets fmt, with fmt's text TOLD by the authors' own Lean function (tested against real Go, not proved from fmt's source: count such statements apart). THE CARD IS WHAT COUNTS. Prove the row's statement (the work); the ties are given (YtmjmmcdhpognaaaGreatDoorTie.lean); close each card by the builder's one call (the guide's Derived/Test/ToyasCard.lean, 'card_holds'). Laid BY PROGRAM, IN A SANDBOX (cutbox-door.mjs). By AI agents, Wed Nov 11 2026. No macro, syntax, notation, axiom, sorry.
-/
import Derived.Test.YtmjmmcdhpognaaaGreatDoorRows
import GoSem.ClaimSeven
namespace Go.Proofs.YtmjmmcdhpognaaaGreatDoor
namespace Rows

/-- THE TIED CARD OF 'plimsolllaw11.WorldTells'. -/
def worldTellsCard : Claim7 := { stood := { row := worldTellsRow, standIns := [], harness := (true, "c9ea8f934bea3c388d64806e60a420b3ab348392eac9c271dc6d0b6710eb1b31"), looks := true }, kinds := [], alts := [], laidByText := true, laidKinds := [.handle, .sentinel], laidTests := true, laidLooks := .later }
def WorldTellsCardSaid : Prop := Claim7.holds Tryz.pinned (.plain (OpenSpec.ofChange worldTellsSpec)) worldTellsCard

/-- THE SECOND FORM's CARD OF 'plimsolllaw11.WorldTells'. -/
def worldTellsUptoCard : Claim7 := { stood := { row := worldTellsUptoRow, standIns := [], harness := (true, "c9ea8f934bea3c388d64806e60a420b3ab348392eac9c271dc6d0b6710eb1b31"), looks := true }, kinds := [], alts := [], laidByText := true, laidKinds := [.handle, .sentinel], laidTests := true, laidLooks := .later }
def WorldTellsUptoCardSaid : Prop := Claim7.holds Tryz.pinned (.plain (OpenSpec.upto worldTellsSpec)) worldTellsUptoCard
end Rows
end Go.Proofs.YtmjmmcdhpognaaaGreatDoor
