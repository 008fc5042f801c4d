/-
  DERIVED. GIVEN WITH THE SEED: THE CARDS: each row of YtkijamagbgigmaaGreatDoorRows.lean that lists a variable, with what it lists TIED to the program's text (the seventh form; the later family's looks); each row that meets fmt, with fmt's text TOLD by the authors' own Lean function (tested against real Go, not proved from fmt's source: count such statements apart). THE CARD IS WHAT COUNTS. Prove the row's statement (the work); the ties are given (YtkijamagbgigmaaGreatDoorTie.lean); close each card by the builder's one call (the guide's Derived/Test/ToyasCard.lean, 'card_holds'). Laid BY PROGRAM, IN A SANDBOX (cutbox-door.mjs). By AI agents, Wed Nov 11 2026. No macro, syntax, notation, axiom, sorry.
-/
import Derived.Test.YtkijamagbgigmaaGreatDoorRows
import GoSem.ClaimSeven
namespace Go.Proofs.YtkijamagbgigmaaGreatDoor
namespace Rows

/-- THE TIED CARD OF 'glossatorkeep4.OutlineProperlyNested'. -/
def outlineProperlyNestedCard : Claim7 := { stood := { row := outlineProperlyNestedRow, standIns := [], harness := (true, "3e34607de9675f013b15bd46084d2aa6e41db3946a22301fef41171adac32467"), looks := true }, kinds := [], alts := [], laidByText := true, laidKinds := [.data, .data, .data, .sentinel, .sentinel, .listed, .data], laidTests := true, laidLooks := .later }
def OutlineProperlyNestedCardSaid : Prop := Claim7.holds Tryz.pinned (.plain (OpenSpec.ofChange outlineProperlyNestedSpec)) outlineProperlyNestedCard

/-- THE TIED CARD OF 'glossatorkeep4.OutlineConcatenation'. -/
def outlineConcatenationCard : Claim7 := { stood := { row := outlineConcatenationRow, standIns := [], harness := (true, "3e34607de9675f013b15bd46084d2aa6e41db3946a22301fef41171adac32467"), looks := true }, kinds := [], alts := [], laidByText := true, laidKinds := [.data, .data, .data, .sentinel, .sentinel, .listed, .data], laidTests := true, laidLooks := .later }
def OutlineConcatenationCardSaid : Prop := Claim7.holds Tryz.pinned (.plain (OpenSpec.ofChange outlineConcatenationSpec)) outlineConcatenationCard

/-- THE SECOND FORM's CARD OF 'glossatorkeep4.OutlineProperlyNested'. -/
def outlineProperlyNestedUptoCard : Claim7 := { stood := { row := outlineProperlyNestedUptoRow, standIns := [], harness := (true, "3e34607de9675f013b15bd46084d2aa6e41db3946a22301fef41171adac32467"), looks := true }, kinds := [], alts := [], laidByText := true, laidKinds := [.data, .data, .data, .sentinel, .sentinel, .listed, .data], laidTests := true, laidLooks := .later }
def OutlineProperlyNestedUptoCardSaid : Prop := Claim7.holds Tryz.pinned (.plain (OpenSpec.upto outlineProperlyNestedSpec)) outlineProperlyNestedUptoCard

/-- THE SECOND FORM's CARD OF 'glossatorkeep4.OutlineConcatenation'. -/
def outlineConcatenationUptoCard : Claim7 := { stood := { row := outlineConcatenationUptoRow, standIns := [], harness := (true, "3e34607de9675f013b15bd46084d2aa6e41db3946a22301fef41171adac32467"), looks := true }, kinds := [], alts := [], laidByText := true, laidKinds := [.data, .data, .data, .sentinel, .sentinel, .listed, .data], laidTests := true, laidLooks := .later }
def OutlineConcatenationUptoCardSaid : Prop := Claim7.holds Tryz.pinned (.plain (OpenSpec.upto outlineConcatenationSpec)) outlineConcatenationUptoCard
end Rows
end Go.Proofs.YtkijamagbgigmaaGreatDoor
