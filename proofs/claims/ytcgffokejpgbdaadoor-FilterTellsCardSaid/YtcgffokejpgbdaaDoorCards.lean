/-
  DERIVED. GIVEN WITH THE SEED: THE CARDS: each row of YtcgffokejpgbdaaDoorRows.lean that lists a variable, with what it lists TIED to the program's text (the seventh form; the later family's looks); each row that meets fmt, with fmt's text TOLD by the authors' own Lean function (tested against real Go, not proved from fmt's source: count such statements apart). THE CARD IS WHAT COUNTS. Prove the row's statement (the work); the ties are given (YtcgffokejpgbdaaDoorTie.lean); close each card by the builder's one call (the guide's Derived/Test/ToyasCard.lean, 'card_holds'). Laid BY PROGRAM, IN A SANDBOX (cutbox-door.mjs). By AI agents, Wed Nov 11 2026. No macro, syntax, notation, axiom, sorry.
-/
import Derived.Test.YtcgffokejpgbdaaDoorRows
import GoSem.ClaimSeven
namespace Go.Proofs.YtcgffokejpgbdaaDoor
namespace Rows

/-- THE TIED CARD OF 'plimsolllaw13.FilterTells'. -/
def filterTellsCard : Claim7 := { stood := { row := filterTellsRow, standIns := [], harness := (true, "4ff6cb216073b996e25f7053b3a7a846fcfbc1d212493f1f52a6f7719f5a7996"), looks := true }, kinds := [], alts := [], laidByText := true, laidKinds := [.sentinel], laidTests := true, laidLooks := .later }
def FilterTellsCardSaid : Prop := Claim7.holds Tryd.pinned (.plain (OpenSpec.ofChange filterTellsSpec)) filterTellsCard

/-- THE TIED CARD OF 'plimsolllaw13.FilterPrints'. -/
def filterPrintsCard : Claim7 := { stood := { row := filterPrintsRow, standIns := [], harness := (true, "4ff6cb216073b996e25f7053b3a7a846fcfbc1d212493f1f52a6f7719f5a7996"), looks := true }, kinds := [], alts := [], laidByText := true, laidKinds := [.sentinel], laidTests := true, laidLooks := .later }
def FilterPrintsCardSaid : Prop := Claim7.holds Tryd.pinned (.plain (OpenSpec.ofChange filterPrintsSpec)) filterPrintsCard

/-- THE TIED CARD OF 'plimsolllaw13.FilterBack'. -/
def filterBackCard : Claim7 := { stood := { row := filterBackRow, standIns := [], harness := (true, "4ff6cb216073b996e25f7053b3a7a846fcfbc1d212493f1f52a6f7719f5a7996"), looks := true }, kinds := [], alts := [], laidByText := true, laidKinds := [.sentinel], laidTests := true, laidLooks := .later }
def FilterBackCardSaid : Prop := Claim7.holds Tryd.pinned (.plain (OpenSpec.ofChange filterBackSpec)) filterBackCard

/-- THE TIED CARD OF 'plimsolllaw13.FilterWider'. -/
def filterWiderCard : Claim7 := { stood := { row := filterWiderRow, standIns := [], harness := (true, "4ff6cb216073b996e25f7053b3a7a846fcfbc1d212493f1f52a6f7719f5a7996"), looks := true }, kinds := [], alts := [], laidByText := true, laidKinds := [.sentinel], laidTests := true, laidLooks := .later }
def FilterWiderCardSaid : Prop := Claim7.holds Tryd.pinned (.plain (OpenSpec.ofChange filterWiderSpec)) filterWiderCard

/-- THE TIED CARD OF 'plimsolllaw13.FilterPlaces'. -/
def filterPlacesCard : Claim7 := { stood := { row := filterPlacesRow, standIns := [], harness := (true, "4ff6cb216073b996e25f7053b3a7a846fcfbc1d212493f1f52a6f7719f5a7996"), looks := true }, kinds := [], alts := [], laidByText := true, laidKinds := [.sentinel], laidTests := true, laidLooks := .later }
def FilterPlacesCardSaid : Prop := Claim7.holds Tryd.pinned (.plain (OpenSpec.ofChange filterPlacesSpec)) filterPlacesCard

/-- THE TIED CARD OF 'plimsolllaw13.FilterRecords'. -/
def filterRecordsCard : Claim7 := { stood := { row := filterRecordsRow, standIns := [], harness := (true, "4ff6cb216073b996e25f7053b3a7a846fcfbc1d212493f1f52a6f7719f5a7996"), looks := true }, kinds := [], alts := [], laidByText := true, laidKinds := [.sentinel], laidTests := true, laidLooks := .later }
def FilterRecordsCardSaid : Prop := Claim7.holds Tryd.pinned (.plain (OpenSpec.ofChange filterRecordsSpec)) filterRecordsCard

/-- THE TIED CARD OF 'plimsolllaw13.FilterJoins'. -/
def filterJoinsCard : Claim7 := { stood := { row := filterJoinsRow, standIns := [], harness := (true, "4ff6cb216073b996e25f7053b3a7a846fcfbc1d212493f1f52a6f7719f5a7996"), looks := true }, kinds := [], alts := [], laidByText := true, laidKinds := [.sentinel], laidTests := true, laidLooks := .later }
def FilterJoinsCardSaid : Prop := Claim7.holds Tryd.pinned (.plain (OpenSpec.ofChange filterJoinsSpec)) filterJoinsCard

/-- THE TIED CARD OF 'plimsolllaw13.FilterLong'. -/
def filterLongCard : Claim7 := { stood := { row := filterLongRow, standIns := [], harness := (true, "4ff6cb216073b996e25f7053b3a7a846fcfbc1d212493f1f52a6f7719f5a7996"), looks := true }, kinds := [], alts := [], laidByText := true, laidKinds := [.sentinel], laidTests := true, laidLooks := .later }
def FilterLongCardSaid : Prop := Claim7.holds Tryd.pinned (.plain (OpenSpec.ofChange filterLongSpec)) filterLongCard

/-- THE SECOND FORM's CARD OF 'plimsolllaw13.FilterTells'. -/
def filterTellsUptoCard : Claim7 := { stood := { row := filterTellsUptoRow, standIns := [], harness := (true, "4ff6cb216073b996e25f7053b3a7a846fcfbc1d212493f1f52a6f7719f5a7996"), looks := true }, kinds := [], alts := [], laidByText := true, laidKinds := [.sentinel], laidTests := true, laidLooks := .later }
def FilterTellsUptoCardSaid : Prop := Claim7.holds Tryd.pinned (.plain (OpenSpec.upto filterTellsSpec)) filterTellsUptoCard

/-- THE SECOND FORM's CARD OF 'plimsolllaw13.FilterPrints'. -/
def filterPrintsUptoCard : Claim7 := { stood := { row := filterPrintsUptoRow, standIns := [], harness := (true, "4ff6cb216073b996e25f7053b3a7a846fcfbc1d212493f1f52a6f7719f5a7996"), looks := true }, kinds := [], alts := [], laidByText := true, laidKinds := [.sentinel], laidTests := true, laidLooks := .later }
def FilterPrintsUptoCardSaid : Prop := Claim7.holds Tryd.pinned (.plain (OpenSpec.upto filterPrintsSpec)) filterPrintsUptoCard

/-- THE SECOND FORM's CARD OF 'plimsolllaw13.FilterBack'. -/
def filterBackUptoCard : Claim7 := { stood := { row := filterBackUptoRow, standIns := [], harness := (true, "4ff6cb216073b996e25f7053b3a7a846fcfbc1d212493f1f52a6f7719f5a7996"), looks := true }, kinds := [], alts := [], laidByText := true, laidKinds := [.sentinel], laidTests := true, laidLooks := .later }
def FilterBackUptoCardSaid : Prop := Claim7.holds Tryd.pinned (.plain (OpenSpec.upto filterBackSpec)) filterBackUptoCard

/-- THE SECOND FORM's CARD OF 'plimsolllaw13.FilterWider'. -/
def filterWiderUptoCard : Claim7 := { stood := { row := filterWiderUptoRow, standIns := [], harness := (true, "4ff6cb216073b996e25f7053b3a7a846fcfbc1d212493f1f52a6f7719f5a7996"), looks := true }, kinds := [], alts := [], laidByText := true, laidKinds := [.sentinel], laidTests := true, laidLooks := .later }
def FilterWiderUptoCardSaid : Prop := Claim7.holds Tryd.pinned (.plain (OpenSpec.upto filterWiderSpec)) filterWiderUptoCard

/-- THE SECOND FORM's CARD OF 'plimsolllaw13.FilterPlaces'. -/
def filterPlacesUptoCard : Claim7 := { stood := { row := filterPlacesUptoRow, standIns := [], harness := (true, "4ff6cb216073b996e25f7053b3a7a846fcfbc1d212493f1f52a6f7719f5a7996"), looks := true }, kinds := [], alts := [], laidByText := true, laidKinds := [.sentinel], laidTests := true, laidLooks := .later }
def FilterPlacesUptoCardSaid : Prop := Claim7.holds Tryd.pinned (.plain (OpenSpec.upto filterPlacesSpec)) filterPlacesUptoCard

/-- THE SECOND FORM's CARD OF 'plimsolllaw13.FilterRecords'. -/
def filterRecordsUptoCard : Claim7 := { stood := { row := filterRecordsUptoRow, standIns := [], harness := (true, "4ff6cb216073b996e25f7053b3a7a846fcfbc1d212493f1f52a6f7719f5a7996"), looks := true }, kinds := [], alts := [], laidByText := true, laidKinds := [.sentinel], laidTests := true, laidLooks := .later }
def FilterRecordsUptoCardSaid : Prop := Claim7.holds Tryd.pinned (.plain (OpenSpec.upto filterRecordsSpec)) filterRecordsUptoCard

/-- THE SECOND FORM's CARD OF 'plimsolllaw13.FilterJoins'. -/
def filterJoinsUptoCard : Claim7 := { stood := { row := filterJoinsUptoRow, standIns := [], harness := (true, "4ff6cb216073b996e25f7053b3a7a846fcfbc1d212493f1f52a6f7719f5a7996"), looks := true }, kinds := [], alts := [], laidByText := true, laidKinds := [.sentinel], laidTests := true, laidLooks := .later }
def FilterJoinsUptoCardSaid : Prop := Claim7.holds Tryd.pinned (.plain (OpenSpec.upto filterJoinsSpec)) filterJoinsUptoCard

/-- THE SECOND FORM's CARD OF 'plimsolllaw13.FilterLong'. -/
def filterLongUptoCard : Claim7 := { stood := { row := filterLongUptoRow, standIns := [], harness := (true, "4ff6cb216073b996e25f7053b3a7a846fcfbc1d212493f1f52a6f7719f5a7996"), looks := true }, kinds := [], alts := [], laidByText := true, laidKinds := [.sentinel], laidTests := true, laidLooks := .later }
def FilterLongUptoCardSaid : Prop := Claim7.holds Tryd.pinned (.plain (OpenSpec.upto filterLongSpec)) filterLongUptoCard
end Rows
end Go.Proofs.YtcgffokejpgbdaaDoor
