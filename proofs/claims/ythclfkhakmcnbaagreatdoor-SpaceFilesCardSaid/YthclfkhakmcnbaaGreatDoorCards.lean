/-
  DERIVED. GIVEN WITH THE SEED: THE CARDS: each row of YthclfkhakmcnbaaGreatDoorRows.lean that lists a variable, with what it lists TIED to the program's text (the seventh form; the later family's looks); each row that meets fmt, with fmt's text TOLD by the authors' own Lean function (tested against real Go, not proved from fmt's source: count such statements apart). THE CARD IS WHAT COUNTS. Prove the row's statement (the work); the ties are given (YthclfkhakmcnbaaGreatDoorTie.lean); close each card by the builder's one call (the guide's Derived/Test/ToyasCard.lean, 'card_holds'). Laid BY PROGRAM, IN A SANDBOX (cutbox-door.mjs). By AI agents, Wed Nov 11 2026. No macro, syntax, notation, axiom, sorry.
-/
import Derived.Test.YthclfkhakmcnbaaGreatDoorRows
import GoSem.ClaimSeven
namespace Go.Proofs.YthclfkhakmcnbaaGreatDoor
namespace Rows

/-- THE TIED CARD OF 'plimsolllaw10.SpaceFiles'. -/
def spaceFilesCard : Claim7 := { stood := { row := spaceFilesRow, standIns := [], harness := (true, "0818e53712b321fb0bb2e677bb909fd9a3f25c913992395dc8b14c722731b510"), looks := true }, kinds := [], alts := [], laidByText := true, laidKinds := [.handle, .sentinel, .sentinel, .sentinel], laidTests := true, laidLooks := .later }
def SpaceFilesCardSaid : Prop := Claim7.holds Tryz.pinned (.plain (OpenSpec.ofChange spaceFilesSpec)) spaceFilesCard

/-- THE TIED CARD OF 'plimsolllaw10.SpaceMakes'. -/
def spaceMakesCard : Claim7 := { stood := { row := spaceMakesRow, standIns := [], harness := (true, "0818e53712b321fb0bb2e677bb909fd9a3f25c913992395dc8b14c722731b510"), looks := true }, kinds := [], alts := [], laidByText := true, laidKinds := [.handle, .sentinel, .sentinel, .sentinel], laidTests := true, laidLooks := .later }
def SpaceMakesCardSaid : Prop := Claim7.holds Tryz.pinned (.plain (OpenSpec.ofChange spaceMakesSpec)) spaceMakesCard

/-- THE TIED CARD OF 'plimsolllaw10.SpaceTells'. -/
def spaceTellsCard : Claim7 := { stood := { row := spaceTellsRow, standIns := [], harness := (true, "0818e53712b321fb0bb2e677bb909fd9a3f25c913992395dc8b14c722731b510"), looks := true }, kinds := [], alts := [], laidByText := true, laidKinds := [.handle, .sentinel, .sentinel, .sentinel], laidTests := true, laidLooks := .later }
def SpaceTellsCardSaid : Prop := Claim7.holds Tryz.pinned (.plain (OpenSpec.ofChange spaceTellsSpec)) spaceTellsCard

/-- THE TIED CARD OF 'plimsolllaw10.SpaceBack'. -/
def spaceBackCard : Claim7 := { stood := { row := spaceBackRow, standIns := [], harness := (true, "0818e53712b321fb0bb2e677bb909fd9a3f25c913992395dc8b14c722731b510"), looks := true }, kinds := [], alts := [], laidByText := true, laidKinds := [.handle, .sentinel, .sentinel, .sentinel], laidTests := true, laidLooks := .later }
def SpaceBackCardSaid : Prop := Claim7.holds Tryz.pinned (.plain (OpenSpec.ofChange spaceBackSpec)) spaceBackCard

/-- THE TIED CARD OF 'plimsolllaw10.SpaceApart'. -/
def spaceApartCard : Claim7 := { stood := { row := spaceApartRow, standIns := [], harness := (true, "0818e53712b321fb0bb2e677bb909fd9a3f25c913992395dc8b14c722731b510"), looks := true }, kinds := [], alts := [], laidByText := true, laidKinds := [.handle, .sentinel, .sentinel, .sentinel], laidTests := true, laidLooks := .later }
def SpaceApartCardSaid : Prop := Claim7.holds Tryz.pinned (.plain (OpenSpec.ofChange spaceApartSpec)) spaceApartCard

/-- THE TIED CARD OF 'plimsolllaw10.SpaceRings'. -/
def spaceRingsCard : Claim7 := { stood := { row := spaceRingsRow, standIns := [], harness := (true, "0818e53712b321fb0bb2e677bb909fd9a3f25c913992395dc8b14c722731b510"), looks := true }, kinds := [], alts := [], laidByText := true, laidKinds := [.handle, .sentinel, .sentinel, .sentinel], laidTests := true, laidLooks := .later }
def SpaceRingsCardSaid : Prop := Claim7.holds Tryz.pinned (.plain (OpenSpec.ofChange spaceRingsSpec)) spaceRingsCard

/-- THE TIED CARD OF 'plimsolllaw10.SpaceQueues'. -/
def spaceQueuesCard : Claim7 := { stood := { row := spaceQueuesRow, standIns := [], harness := (true, "0818e53712b321fb0bb2e677bb909fd9a3f25c913992395dc8b14c722731b510"), looks := true }, kinds := [], alts := [], laidByText := true, laidKinds := [.handle, .sentinel, .sentinel, .sentinel], laidTests := true, laidLooks := .later }
def SpaceQueuesCardSaid : Prop := Claim7.holds Tryz.pinned (.plain (OpenSpec.ofChange spaceQueuesSpec)) spaceQueuesCard

/-- THE SECOND FORM's CARD OF 'plimsolllaw10.SpaceFiles'. -/
def spaceFilesUptoCard : Claim7 := { stood := { row := spaceFilesUptoRow, standIns := [], harness := (true, "0818e53712b321fb0bb2e677bb909fd9a3f25c913992395dc8b14c722731b510"), looks := true }, kinds := [], alts := [], laidByText := true, laidKinds := [.handle, .sentinel, .sentinel, .sentinel], laidTests := true, laidLooks := .later }
def SpaceFilesUptoCardSaid : Prop := Claim7.holds Tryz.pinned (.plain (OpenSpec.upto spaceFilesSpec)) spaceFilesUptoCard

/-- THE SECOND FORM's CARD OF 'plimsolllaw10.SpaceMakes'. -/
def spaceMakesUptoCard : Claim7 := { stood := { row := spaceMakesUptoRow, standIns := [], harness := (true, "0818e53712b321fb0bb2e677bb909fd9a3f25c913992395dc8b14c722731b510"), looks := true }, kinds := [], alts := [], laidByText := true, laidKinds := [.handle, .sentinel, .sentinel, .sentinel], laidTests := true, laidLooks := .later }
def SpaceMakesUptoCardSaid : Prop := Claim7.holds Tryz.pinned (.plain (OpenSpec.upto spaceMakesSpec)) spaceMakesUptoCard

/-- THE SECOND FORM's CARD OF 'plimsolllaw10.SpaceTells'. -/
def spaceTellsUptoCard : Claim7 := { stood := { row := spaceTellsUptoRow, standIns := [], harness := (true, "0818e53712b321fb0bb2e677bb909fd9a3f25c913992395dc8b14c722731b510"), looks := true }, kinds := [], alts := [], laidByText := true, laidKinds := [.handle, .sentinel, .sentinel, .sentinel], laidTests := true, laidLooks := .later }
def SpaceTellsUptoCardSaid : Prop := Claim7.holds Tryz.pinned (.plain (OpenSpec.upto spaceTellsSpec)) spaceTellsUptoCard

/-- THE SECOND FORM's CARD OF 'plimsolllaw10.SpaceBack'. -/
def spaceBackUptoCard : Claim7 := { stood := { row := spaceBackUptoRow, standIns := [], harness := (true, "0818e53712b321fb0bb2e677bb909fd9a3f25c913992395dc8b14c722731b510"), looks := true }, kinds := [], alts := [], laidByText := true, laidKinds := [.handle, .sentinel, .sentinel, .sentinel], laidTests := true, laidLooks := .later }
def SpaceBackUptoCardSaid : Prop := Claim7.holds Tryz.pinned (.plain (OpenSpec.upto spaceBackSpec)) spaceBackUptoCard

/-- THE SECOND FORM's CARD OF 'plimsolllaw10.SpaceApart'. -/
def spaceApartUptoCard : Claim7 := { stood := { row := spaceApartUptoRow, standIns := [], harness := (true, "0818e53712b321fb0bb2e677bb909fd9a3f25c913992395dc8b14c722731b510"), looks := true }, kinds := [], alts := [], laidByText := true, laidKinds := [.handle, .sentinel, .sentinel, .sentinel], laidTests := true, laidLooks := .later }
def SpaceApartUptoCardSaid : Prop := Claim7.holds Tryz.pinned (.plain (OpenSpec.upto spaceApartSpec)) spaceApartUptoCard

/-- THE SECOND FORM's CARD OF 'plimsolllaw10.SpaceRings'. -/
def spaceRingsUptoCard : Claim7 := { stood := { row := spaceRingsUptoRow, standIns := [], harness := (true, "0818e53712b321fb0bb2e677bb909fd9a3f25c913992395dc8b14c722731b510"), looks := true }, kinds := [], alts := [], laidByText := true, laidKinds := [.handle, .sentinel, .sentinel, .sentinel], laidTests := true, laidLooks := .later }
def SpaceRingsUptoCardSaid : Prop := Claim7.holds Tryz.pinned (.plain (OpenSpec.upto spaceRingsSpec)) spaceRingsUptoCard

/-- THE SECOND FORM's CARD OF 'plimsolllaw10.SpaceQueues'. -/
def spaceQueuesUptoCard : Claim7 := { stood := { row := spaceQueuesUptoRow, standIns := [], harness := (true, "0818e53712b321fb0bb2e677bb909fd9a3f25c913992395dc8b14c722731b510"), looks := true }, kinds := [], alts := [], laidByText := true, laidKinds := [.handle, .sentinel, .sentinel, .sentinel], laidTests := true, laidLooks := .later }
def SpaceQueuesUptoCardSaid : Prop := Claim7.holds Tryz.pinned (.plain (OpenSpec.upto spaceQueuesSpec)) spaceQueuesUptoCard
end Rows
end Go.Proofs.YthclfkhakmcnbaaGreatDoor
