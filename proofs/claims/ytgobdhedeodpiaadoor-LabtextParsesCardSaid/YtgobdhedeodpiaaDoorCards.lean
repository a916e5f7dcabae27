/-
  DERIVED. GIVEN WITH THE SEED: THE CARDS: each row of YtgobdhedeodpiaaDoorRows.lean that lists a variable, with what it lists TIED to the program's text (the seventh form; the later family's looks); each row that meets fmt, with fmt's text TOLD by the authors' own Lean function (tested against real Go, not proved from fmt's source: count such statements apart). THE CARD IS WHAT COUNTS. Prove the row's statement (the work); the ties are given (YtgobdhedeodpiaaDoorTie.lean); close each card by the builder's one call (the guide's Derived/Test/ToyasCard.lean, 'card_holds'). Laid BY PROGRAM, IN A SANDBOX (cutbox-door.mjs). By AI agents, Wed Nov 11 2026. No macro, syntax, notation, axiom, sorry.
-/
import Derived.Test.YtgobdhedeodpiaaDoorRows
import GoSem.ClaimSeven
namespace Go.Proofs.YtgobdhedeodpiaaDoor
namespace Rows

/-- THE TIED CARD OF 'plimsolllaw05.LabtextPrints'. -/
def labtextPrintsCard : Claim7 := { stood := { row := labtextPrintsRow, standIns := [], harness := (true, "2033a6ca68f795e164c36c02cfb9f53c4c53d16cc55d3daf09a85c50ba9e8499"), looks := true }, kinds := [], alts := [], laidByText := true, laidKinds := [.data, .handle, .sentinel], laidTests := true, laidLooks := .later }
def LabtextPrintsCardSaid : Prop := Claim7.holds Tryd.pinned (.plain (OpenSpec.ofChange labtextPrintsSpec)) labtextPrintsCard

/-- THE TIED CARD OF 'plimsolllaw05.LabtextParses'. -/
def labtextParsesCard : Claim7 := { stood := { row := labtextParsesRow, standIns := [], harness := (true, "2033a6ca68f795e164c36c02cfb9f53c4c53d16cc55d3daf09a85c50ba9e8499"), looks := true }, kinds := [], alts := [], laidByText := true, laidKinds := [.data, .handle, .sentinel], laidTests := true, laidLooks := .later }
def LabtextParsesCardSaid : Prop := Claim7.holds Tryd.pinned (.plain (OpenSpec.ofChange labtextParsesSpec)) labtextParsesCard

/-- THE TIED CARD OF 'plimsolllaw05.LabtextBack'. -/
def labtextBackCard : Claim7 := { stood := { row := labtextBackRow, standIns := [], harness := (true, "2033a6ca68f795e164c36c02cfb9f53c4c53d16cc55d3daf09a85c50ba9e8499"), looks := true }, kinds := [], alts := [], laidByText := true, laidKinds := [.data, .handle, .sentinel], laidTests := true, laidLooks := .later }
def LabtextBackCardSaid : Prop := Claim7.holds Tryd.pinned (.plain (OpenSpec.ofChange labtextBackSpec)) labtextBackCard

/-- THE TIED CARD OF 'plimsolllaw05.LabtextEnds'. -/
def labtextEndsCard : Claim7 := { stood := { row := labtextEndsRow, standIns := [], harness := (true, "2033a6ca68f795e164c36c02cfb9f53c4c53d16cc55d3daf09a85c50ba9e8499"), looks := true }, kinds := [], alts := [], laidByText := true, laidKinds := [.data, .handle, .sentinel], laidTests := true, laidLooks := .later }
def LabtextEndsCardSaid : Prop := Claim7.holds Tryd.pinned (.plain (OpenSpec.ofChange labtextEndsSpec)) labtextEndsCard

/-- THE TIED CARD OF 'plimsolllaw05.LabtextPlaces'. -/
def labtextPlacesCard : Claim7 := { stood := { row := labtextPlacesRow, standIns := [], harness := (true, "2033a6ca68f795e164c36c02cfb9f53c4c53d16cc55d3daf09a85c50ba9e8499"), looks := true }, kinds := [], alts := [], laidByText := true, laidKinds := [.data, .handle, .sentinel], laidTests := true, laidLooks := .later }
def LabtextPlacesCardSaid : Prop := Claim7.holds Tryd.pinned (.plain (OpenSpec.ofChange labtextPlacesSpec)) labtextPlacesCard

/-- THE TIED CARD OF 'plimsolllaw05.LabtextDigits'. -/
def labtextDigitsCard : Claim7 := { stood := { row := labtextDigitsRow, standIns := [], harness := (true, "2033a6ca68f795e164c36c02cfb9f53c4c53d16cc55d3daf09a85c50ba9e8499"), looks := true }, kinds := [], alts := [], laidByText := true, laidKinds := [.data, .handle, .sentinel], laidTests := true, laidLooks := .later }
def LabtextDigitsCardSaid : Prop := Claim7.holds Tryd.pinned (.plain (OpenSpec.ofChange labtextDigitsSpec)) labtextDigitsCard

/-- THE SECOND FORM's CARD OF 'plimsolllaw05.LabtextPrints'. -/
def labtextPrintsUptoCard : Claim7 := { stood := { row := labtextPrintsUptoRow, standIns := [], harness := (true, "2033a6ca68f795e164c36c02cfb9f53c4c53d16cc55d3daf09a85c50ba9e8499"), looks := true }, kinds := [], alts := [], laidByText := true, laidKinds := [.data, .handle, .sentinel], laidTests := true, laidLooks := .later }
def LabtextPrintsUptoCardSaid : Prop := Claim7.holds Tryd.pinned (.plain (OpenSpec.upto labtextPrintsSpec)) labtextPrintsUptoCard

/-- THE SECOND FORM's CARD OF 'plimsolllaw05.LabtextParses'. -/
def labtextParsesUptoCard : Claim7 := { stood := { row := labtextParsesUptoRow, standIns := [], harness := (true, "2033a6ca68f795e164c36c02cfb9f53c4c53d16cc55d3daf09a85c50ba9e8499"), looks := true }, kinds := [], alts := [], laidByText := true, laidKinds := [.data, .handle, .sentinel], laidTests := true, laidLooks := .later }
def LabtextParsesUptoCardSaid : Prop := Claim7.holds Tryd.pinned (.plain (OpenSpec.upto labtextParsesSpec)) labtextParsesUptoCard

/-- THE SECOND FORM's CARD OF 'plimsolllaw05.LabtextBack'. -/
def labtextBackUptoCard : Claim7 := { stood := { row := labtextBackUptoRow, standIns := [], harness := (true, "2033a6ca68f795e164c36c02cfb9f53c4c53d16cc55d3daf09a85c50ba9e8499"), looks := true }, kinds := [], alts := [], laidByText := true, laidKinds := [.data, .handle, .sentinel], laidTests := true, laidLooks := .later }
def LabtextBackUptoCardSaid : Prop := Claim7.holds Tryd.pinned (.plain (OpenSpec.upto labtextBackSpec)) labtextBackUptoCard

/-- THE SECOND FORM's CARD OF 'plimsolllaw05.LabtextEnds'. -/
def labtextEndsUptoCard : Claim7 := { stood := { row := labtextEndsUptoRow, standIns := [], harness := (true, "2033a6ca68f795e164c36c02cfb9f53c4c53d16cc55d3daf09a85c50ba9e8499"), looks := true }, kinds := [], alts := [], laidByText := true, laidKinds := [.data, .handle, .sentinel], laidTests := true, laidLooks := .later }
def LabtextEndsUptoCardSaid : Prop := Claim7.holds Tryd.pinned (.plain (OpenSpec.upto labtextEndsSpec)) labtextEndsUptoCard

/-- THE SECOND FORM's CARD OF 'plimsolllaw05.LabtextPlaces'. -/
def labtextPlacesUptoCard : Claim7 := { stood := { row := labtextPlacesUptoRow, standIns := [], harness := (true, "2033a6ca68f795e164c36c02cfb9f53c4c53d16cc55d3daf09a85c50ba9e8499"), looks := true }, kinds := [], alts := [], laidByText := true, laidKinds := [.data, .handle, .sentinel], laidTests := true, laidLooks := .later }
def LabtextPlacesUptoCardSaid : Prop := Claim7.holds Tryd.pinned (.plain (OpenSpec.upto labtextPlacesSpec)) labtextPlacesUptoCard

/-- THE SECOND FORM's CARD OF 'plimsolllaw05.LabtextDigits'. -/
def labtextDigitsUptoCard : Claim7 := { stood := { row := labtextDigitsUptoRow, standIns := [], harness := (true, "2033a6ca68f795e164c36c02cfb9f53c4c53d16cc55d3daf09a85c50ba9e8499"), looks := true }, kinds := [], alts := [], laidByText := true, laidKinds := [.data, .handle, .sentinel], laidTests := true, laidLooks := .later }
def LabtextDigitsUptoCardSaid : Prop := Claim7.holds Tryd.pinned (.plain (OpenSpec.upto labtextDigitsSpec)) labtextDigitsUptoCard
end Rows
end Go.Proofs.YtgobdhedeodpiaaDoor
