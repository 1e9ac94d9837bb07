/-
  DERIVED. GIVEN WITH THE SEED: THE CARDS: each row of YtmbemlmkfoblhaaGreatDoorRows.lean that lists a variable, with what it lists TIED to the program's text (the seventh form; the later family's looks); each row that meets fmt, with fmt's text TOLD by the authors' own Lean function (tested against real Go, not proved from fmt's source: count such statements apart). THE CARD IS WHAT COUNTS. Prove the row's statement (the work); the ties are given (YtmbemlmkfoblhaaGreatDoorTie.lean); close each card by the builder's one call (the guide's Derived/Test/ToyasCard.lean, 'card_holds'). Laid BY PROGRAM, IN A SANDBOX (cutbox-door.mjs). By AI agents, Wed Nov 11 2026. No macro, syntax, notation, axiom, sorry.
-/
import Derived.Test.YtmbemlmkfoblhaaGreatDoorRows
import GoSem.ClaimSeven
namespace Go.Proofs.YtmbemlmkfoblhaaGreatDoor
namespace Rows

/-- THE TIED CARD OF 'tympanlaw08.ProofTexts'. -/
def proofTextsCard : Claim7 := { stood := { row := proofTextsRow, standIns := [], harness := (true, "78afc58d925aeda39249293e7347f3d7eb8beb21c441c10f599580b26be95d36"), looks := true }, kinds := [], alts := [], laidByText := true, laidKinds := [.data, .data, .data, .data, .data, .sentinel, .sentinel, .pinned], laidTests := true, laidLooks := .later }
def ProofTextsCardSaid : Prop := Claim7.holds Tryz.pinned (.plain (OpenSpec.ofChange proofTextsSpec)) proofTextsCard

/-- THE TIED CARD OF 'tympanlaw08.ProofLists'. -/
def proofListsCard : Claim7 := { stood := { row := proofListsRow, standIns := [], harness := (true, "78afc58d925aeda39249293e7347f3d7eb8beb21c441c10f599580b26be95d36"), looks := true }, kinds := [], alts := [], laidByText := true, laidKinds := [.data, .data, .data, .data, .data, .sentinel, .sentinel, .pinned], laidTests := true, laidLooks := .later }
def ProofListsCardSaid : Prop := Claim7.holds Tryz.pinned (.plain (OpenSpec.ofChange proofListsSpec)) proofListsCard

/-- THE SECOND FORM's CARD OF 'tympanlaw08.ProofTexts'. -/
def proofTextsUptoCard : Claim7 := { stood := { row := proofTextsUptoRow, standIns := [], harness := (true, "78afc58d925aeda39249293e7347f3d7eb8beb21c441c10f599580b26be95d36"), looks := true }, kinds := [], alts := [], laidByText := true, laidKinds := [.data, .data, .data, .data, .data, .sentinel, .sentinel, .pinned], laidTests := true, laidLooks := .later }
def ProofTextsUptoCardSaid : Prop := Claim7.holds Tryz.pinned (.plain (OpenSpec.upto proofTextsSpec)) proofTextsUptoCard

/-- THE SECOND FORM's CARD OF 'tympanlaw08.ProofLists'. -/
def proofListsUptoCard : Claim7 := { stood := { row := proofListsUptoRow, standIns := [], harness := (true, "78afc58d925aeda39249293e7347f3d7eb8beb21c441c10f599580b26be95d36"), looks := true }, kinds := [], alts := [], laidByText := true, laidKinds := [.data, .data, .data, .data, .data, .sentinel, .sentinel, .pinned], laidTests := true, laidLooks := .later }
def ProofListsUptoCardSaid : Prop := Claim7.holds Tryz.pinned (.plain (OpenSpec.upto proofListsSpec)) proofListsUptoCard
end Rows
end Go.Proofs.YtmbemlmkfoblhaaGreatDoor
