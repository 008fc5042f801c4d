/-
  DERIVED. GIVEN WITH THE SEED: THE CARDS: each row of YtmoelofaojgjfaaGreatDoorRows.lean that lists a variable, with what it lists TIED to the program's text (the seventh form; the later family's looks); each row that meets fmt, with fmt's text TOLD by the authors' own Lean function (tested against real Go, not proved from fmt's source: count such statements apart). THE CARD IS WHAT COUNTS. Prove the row's statement (the work); the ties are given (YtmoelofaojgjfaaGreatDoorTie.lean); close each card by the builder's one call (the guide's Derived/Test/ToyasCard.lean, 'card_holds'). Laid BY PROGRAM, IN A SANDBOX (cutbox-door.mjs). By AI agents, Wed Nov 11 2026. No macro, syntax, notation, axiom, sorry.
-/
import Derived.Test.YtmoelofaojgjfaaGreatDoorRows
import GoSem.ClaimSeven
namespace Go.Proofs.YtmoelofaojgjfaaGreatDoor
namespace Rows

/-- THE TIED CARD OF 'glossatorkeep4.OutlineConcatenation'. -/
def outlineConcatenationCard : Claim7 := { stood := { row := outlineConcatenationRow, standIns := [], harness := (true, "ad094bdc0434c35dbf97df11c8f94dcea20a0701750466039d085e06667e5027"), looks := true }, kinds := [], alts := [], laidByText := true, laidKinds := [.data, .data, .data, .sentinel, .sentinel, .listed, .data], laidTests := true, laidLooks := .later }
def OutlineConcatenationCardSaid : Prop := Claim7.holds Tryz.pinned (.plain (OpenSpec.ofChange outlineConcatenationSpec)) outlineConcatenationCard

/-- THE TIED CARD OF 'glossatorkeep4.CursorSelectionGrows'. -/
def cursorSelectionGrowsCard : Claim7 := { stood := { row := cursorSelectionGrowsRow, standIns := [], harness := (true, "ad094bdc0434c35dbf97df11c8f94dcea20a0701750466039d085e06667e5027"), looks := true }, kinds := [], alts := [], laidByText := true, laidKinds := [.data, .data, .data, .sentinel, .sentinel, .listed, .data], laidTests := true, laidLooks := .later }
def CursorSelectionGrowsCardSaid : Prop := Claim7.holds Tryz.pinned (.plain (OpenSpec.ofChange cursorSelectionGrowsSpec)) cursorSelectionGrowsCard

/-- THE TIED CARD OF 'glossatorkeep4.SemtokensRoundTrip'. -/
def semtokensRoundTripCard : Claim7 := { stood := { row := semtokensRoundTripRow, standIns := [], harness := (true, "ad094bdc0434c35dbf97df11c8f94dcea20a0701750466039d085e06667e5027"), looks := true }, kinds := [], alts := [], laidByText := true, laidKinds := [.data, .data, .data, .sentinel, .sentinel, .listed, .data], laidTests := true, laidLooks := .later }
def SemtokensRoundTripCardSaid : Prop := Claim7.holds Tryz.pinned (.plain (OpenSpec.ofChange semtokensRoundTripSpec)) semtokensRoundTripCard

/-- THE TIED CARD OF 'glossatorkeep4.SemtokensDiffApplies'. -/
def semtokensDiffAppliesCard : Claim7 := { stood := { row := semtokensDiffAppliesRow, standIns := [], harness := (true, "ad094bdc0434c35dbf97df11c8f94dcea20a0701750466039d085e06667e5027"), looks := true }, kinds := [], alts := [], laidByText := true, laidKinds := [.data, .data, .data, .sentinel, .sentinel, .listed, .data], laidTests := true, laidLooks := .later }
def SemtokensDiffAppliesCardSaid : Prop := Claim7.holds Tryz.pinned (.plain (OpenSpec.ofChange semtokensDiffAppliesSpec)) semtokensDiffAppliesCard

/-- THE TIED CARD OF 'glossatorkeep4.ReferencesApplyEditsPerModule'. -/
def referencesApplyEditsPerModuleCard : Claim7 := { stood := { row := referencesApplyEditsPerModuleRow, standIns := [], harness := (true, "ad094bdc0434c35dbf97df11c8f94dcea20a0701750466039d085e06667e5027"), looks := true }, kinds := [], alts := [], laidByText := true, laidKinds := [.data, .data, .data, .sentinel, .sentinel, .listed, .data], laidTests := true, laidLooks := .later }
def ReferencesApplyEditsPerModuleCardSaid : Prop := Claim7.holds Tryz.pinned (.plain (OpenSpec.ofChange referencesApplyEditsPerModuleSpec)) referencesApplyEditsPerModuleCard

/-- THE SECOND FORM's CARD OF 'glossatorkeep4.OutlineConcatenation'. -/
def outlineConcatenationUptoCard : Claim7 := { stood := { row := outlineConcatenationUptoRow, standIns := [], harness := (true, "ad094bdc0434c35dbf97df11c8f94dcea20a0701750466039d085e06667e5027"), looks := true }, kinds := [], alts := [], laidByText := true, laidKinds := [.data, .data, .data, .sentinel, .sentinel, .listed, .data], laidTests := true, laidLooks := .later }
def OutlineConcatenationUptoCardSaid : Prop := Claim7.holds Tryz.pinned (.plain (OpenSpec.upto outlineConcatenationSpec)) outlineConcatenationUptoCard

/-- THE SECOND FORM's CARD OF 'glossatorkeep4.CursorSelectionGrows'. -/
def cursorSelectionGrowsUptoCard : Claim7 := { stood := { row := cursorSelectionGrowsUptoRow, standIns := [], harness := (true, "ad094bdc0434c35dbf97df11c8f94dcea20a0701750466039d085e06667e5027"), looks := true }, kinds := [], alts := [], laidByText := true, laidKinds := [.data, .data, .data, .sentinel, .sentinel, .listed, .data], laidTests := true, laidLooks := .later }
def CursorSelectionGrowsUptoCardSaid : Prop := Claim7.holds Tryz.pinned (.plain (OpenSpec.upto cursorSelectionGrowsSpec)) cursorSelectionGrowsUptoCard

/-- THE SECOND FORM's CARD OF 'glossatorkeep4.SemtokensRoundTrip'. -/
def semtokensRoundTripUptoCard : Claim7 := { stood := { row := semtokensRoundTripUptoRow, standIns := [], harness := (true, "ad094bdc0434c35dbf97df11c8f94dcea20a0701750466039d085e06667e5027"), looks := true }, kinds := [], alts := [], laidByText := true, laidKinds := [.data, .data, .data, .sentinel, .sentinel, .listed, .data], laidTests := true, laidLooks := .later }
def SemtokensRoundTripUptoCardSaid : Prop := Claim7.holds Tryz.pinned (.plain (OpenSpec.upto semtokensRoundTripSpec)) semtokensRoundTripUptoCard

/-- THE SECOND FORM's CARD OF 'glossatorkeep4.SemtokensDiffApplies'. -/
def semtokensDiffAppliesUptoCard : Claim7 := { stood := { row := semtokensDiffAppliesUptoRow, standIns := [], harness := (true, "ad094bdc0434c35dbf97df11c8f94dcea20a0701750466039d085e06667e5027"), looks := true }, kinds := [], alts := [], laidByText := true, laidKinds := [.data, .data, .data, .sentinel, .sentinel, .listed, .data], laidTests := true, laidLooks := .later }
def SemtokensDiffAppliesUptoCardSaid : Prop := Claim7.holds Tryz.pinned (.plain (OpenSpec.upto semtokensDiffAppliesSpec)) semtokensDiffAppliesUptoCard

/-- THE SECOND FORM's CARD OF 'glossatorkeep4.ReferencesApplyEditsPerModule'. -/
def referencesApplyEditsPerModuleUptoCard : Claim7 := { stood := { row := referencesApplyEditsPerModuleUptoRow, standIns := [], harness := (true, "ad094bdc0434c35dbf97df11c8f94dcea20a0701750466039d085e06667e5027"), looks := true }, kinds := [], alts := [], laidByText := true, laidKinds := [.data, .data, .data, .sentinel, .sentinel, .listed, .data], laidTests := true, laidLooks := .later }
def ReferencesApplyEditsPerModuleUptoCardSaid : Prop := Claim7.holds Tryz.pinned (.plain (OpenSpec.upto referencesApplyEditsPerModuleSpec)) referencesApplyEditsPerModuleUptoCard
end Rows
end Go.Proofs.YtmoelofaojgjfaaGreatDoor
