/-
  DERIVED. GIVEN WITH THE SEED: THE CARDS: each row of YtmmdpjliknmhgaaGreatDoorRows.lean that lists a variable, with what it lists TIED to the program's text (the seventh form; the later family's looks); each row that meets fmt, with fmt's text TOLD by the authors' own Lean function (tested against real Go, not proved from fmt's source: count such statements apart). THE CARD IS WHAT COUNTS. Prove the row's statement (the work); the ties are given (YtmmdpjliknmhgaaGreatDoorTie.lean); close each card by the builder's one call (the guide's Derived/Test/ToyasCard.lean, 'card_holds'). Laid BY PROGRAM, IN A SANDBOX (cutbox-door.mjs). By AI agents, Wed Nov 11 2026. No macro, syntax, notation, axiom, sorry.
-/
import Derived.Test.YtmmdpjliknmhgaaGreatDoorRows
import GoSem.ClaimSeven
namespace Go.Proofs.YtmmdpjliknmhgaaGreatDoor
namespace Rows

/-- THE TIED CARD OF 'plimsolllaw14.RulePrints'. -/
def rulePrintsCard : Claim7 := { stood := { row := rulePrintsRow, standIns := [], harness := (true, "e4f92b298049ca1b94aabd97f4b61afe75033aac2be028bb2706faeebfc6e771"), looks := true }, kinds := [], alts := [], laidByText := true, laidKinds := [.data, .data, .handle, .sentinel, .sentinel, .pinned], laidTests := true, laidLooks := .later }
def RulePrintsCardSaid : Prop := Claim7.holds Tryz.pinned (.plain (OpenSpec.ofChange rulePrintsSpec)) rulePrintsCard

/-- THE TIED CARD OF 'plimsolllaw14.RuleBack'. -/
def ruleBackCard : Claim7 := { stood := { row := ruleBackRow, standIns := [], harness := (true, "e4f92b298049ca1b94aabd97f4b61afe75033aac2be028bb2706faeebfc6e771"), looks := true }, kinds := [], alts := [], laidByText := true, laidKinds := [.data, .data, .handle, .sentinel, .sentinel, .pinned], laidTests := true, laidLooks := .later }
def RuleBackCardSaid : Prop := Claim7.holds Tryz.pinned (.plain (OpenSpec.ofChange ruleBackSpec)) ruleBackCard

/-- THE TIED CARD OF 'plimsolllaw14.RuleLines'. -/
def ruleLinesCard : Claim7 := { stood := { row := ruleLinesRow, standIns := [], harness := (true, "e4f92b298049ca1b94aabd97f4b61afe75033aac2be028bb2706faeebfc6e771"), looks := true }, kinds := [], alts := [], laidByText := true, laidKinds := [.data, .data, .handle, .sentinel, .sentinel, .pinned], laidTests := true, laidLooks := .later }
def RuleLinesCardSaid : Prop := Claim7.holds Tryz.pinned (.plain (OpenSpec.ofChange ruleLinesSpec)) ruleLinesCard

/-- THE TIED CARD OF 'plimsolllaw14.RuleJoins'. -/
def ruleJoinsCard : Claim7 := { stood := { row := ruleJoinsRow, standIns := [], harness := (true, "e4f92b298049ca1b94aabd97f4b61afe75033aac2be028bb2706faeebfc6e771"), looks := true }, kinds := [], alts := [], laidByText := true, laidKinds := [.data, .data, .handle, .sentinel, .sentinel, .pinned], laidTests := true, laidLooks := .later }
def RuleJoinsCardSaid : Prop := Claim7.holds Tryz.pinned (.plain (OpenSpec.ofChange ruleJoinsSpec)) ruleJoinsCard

/-- THE TIED CARD OF 'plimsolllaw14.RuleTells'. -/
def ruleTellsCard : Claim7 := { stood := { row := ruleTellsRow, standIns := [], harness := (true, "e4f92b298049ca1b94aabd97f4b61afe75033aac2be028bb2706faeebfc6e771"), looks := true }, kinds := [], alts := [], laidByText := true, laidKinds := [.data, .data, .handle, .sentinel, .sentinel, .pinned], laidTests := true, laidLooks := .later }
def RuleTellsCardSaid : Prop := Claim7.holds Tryz.pinned (.plain (OpenSpec.ofChange ruleTellsSpec)) ruleTellsCard

/-- THE TIED CARD OF 'plimsolllaw14.RuleFinds'. -/
def ruleFindsCard : Claim7 := { stood := { row := ruleFindsRow, standIns := [], harness := (true, "e4f92b298049ca1b94aabd97f4b61afe75033aac2be028bb2706faeebfc6e771"), looks := true }, kinds := [], alts := [], laidByText := true, laidKinds := [.data, .data, .handle, .sentinel, .sentinel, .pinned], laidTests := true, laidLooks := .later }
def RuleFindsCardSaid : Prop := Claim7.holds Tryz.pinned (.plain (OpenSpec.ofChange ruleFindsSpec)) ruleFindsCard

/-- THE SECOND FORM's CARD OF 'plimsolllaw14.RulePrints'. -/
def rulePrintsUptoCard : Claim7 := { stood := { row := rulePrintsUptoRow, standIns := [], harness := (true, "e4f92b298049ca1b94aabd97f4b61afe75033aac2be028bb2706faeebfc6e771"), looks := true }, kinds := [], alts := [], laidByText := true, laidKinds := [.data, .data, .handle, .sentinel, .sentinel, .pinned], laidTests := true, laidLooks := .later }
def RulePrintsUptoCardSaid : Prop := Claim7.holds Tryz.pinned (.plain (OpenSpec.upto rulePrintsSpec)) rulePrintsUptoCard

/-- THE SECOND FORM's CARD OF 'plimsolllaw14.RuleBack'. -/
def ruleBackUptoCard : Claim7 := { stood := { row := ruleBackUptoRow, standIns := [], harness := (true, "e4f92b298049ca1b94aabd97f4b61afe75033aac2be028bb2706faeebfc6e771"), looks := true }, kinds := [], alts := [], laidByText := true, laidKinds := [.data, .data, .handle, .sentinel, .sentinel, .pinned], laidTests := true, laidLooks := .later }
def RuleBackUptoCardSaid : Prop := Claim7.holds Tryz.pinned (.plain (OpenSpec.upto ruleBackSpec)) ruleBackUptoCard

/-- THE SECOND FORM's CARD OF 'plimsolllaw14.RuleLines'. -/
def ruleLinesUptoCard : Claim7 := { stood := { row := ruleLinesUptoRow, standIns := [], harness := (true, "e4f92b298049ca1b94aabd97f4b61afe75033aac2be028bb2706faeebfc6e771"), looks := true }, kinds := [], alts := [], laidByText := true, laidKinds := [.data, .data, .handle, .sentinel, .sentinel, .pinned], laidTests := true, laidLooks := .later }
def RuleLinesUptoCardSaid : Prop := Claim7.holds Tryz.pinned (.plain (OpenSpec.upto ruleLinesSpec)) ruleLinesUptoCard

/-- THE SECOND FORM's CARD OF 'plimsolllaw14.RuleJoins'. -/
def ruleJoinsUptoCard : Claim7 := { stood := { row := ruleJoinsUptoRow, standIns := [], harness := (true, "e4f92b298049ca1b94aabd97f4b61afe75033aac2be028bb2706faeebfc6e771"), looks := true }, kinds := [], alts := [], laidByText := true, laidKinds := [.data, .data, .handle, .sentinel, .sentinel, .pinned], laidTests := true, laidLooks := .later }
def RuleJoinsUptoCardSaid : Prop := Claim7.holds Tryz.pinned (.plain (OpenSpec.upto ruleJoinsSpec)) ruleJoinsUptoCard

/-- THE SECOND FORM's CARD OF 'plimsolllaw14.RuleTells'. -/
def ruleTellsUptoCard : Claim7 := { stood := { row := ruleTellsUptoRow, standIns := [], harness := (true, "e4f92b298049ca1b94aabd97f4b61afe75033aac2be028bb2706faeebfc6e771"), looks := true }, kinds := [], alts := [], laidByText := true, laidKinds := [.data, .data, .handle, .sentinel, .sentinel, .pinned], laidTests := true, laidLooks := .later }
def RuleTellsUptoCardSaid : Prop := Claim7.holds Tryz.pinned (.plain (OpenSpec.upto ruleTellsSpec)) ruleTellsUptoCard

/-- THE SECOND FORM's CARD OF 'plimsolllaw14.RuleFinds'. -/
def ruleFindsUptoCard : Claim7 := { stood := { row := ruleFindsUptoRow, standIns := [], harness := (true, "e4f92b298049ca1b94aabd97f4b61afe75033aac2be028bb2706faeebfc6e771"), looks := true }, kinds := [], alts := [], laidByText := true, laidKinds := [.data, .data, .handle, .sentinel, .sentinel, .pinned], laidTests := true, laidLooks := .later }
def RuleFindsUptoCardSaid : Prop := Claim7.holds Tryz.pinned (.plain (OpenSpec.upto ruleFindsSpec)) ruleFindsUptoCard
end Rows
end Go.Proofs.YtmmdpjliknmhgaaGreatDoor
