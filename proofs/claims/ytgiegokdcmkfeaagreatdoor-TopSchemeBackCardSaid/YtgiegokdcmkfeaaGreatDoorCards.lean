/-
  DERIVED. GIVEN WITH THE SEED: THE CARDS: each row of YtgiegokdcmkfeaaGreatDoorRows.lean that lists a variable, with what it lists TIED to the program's text (the seventh form; the later family's looks); each row that meets fmt, with fmt's text TOLD by the authors' own Lean function (tested against real Go, not proved from fmt's source: count such statements apart). THE CARD IS WHAT COUNTS. Prove the row's statement (the work); the ties are given (YtgiegokdcmkfeaaGreatDoorTie.lean); close each card by the builder's one call (the guide's Derived/Test/ToyasCard.lean, 'card_holds'). Laid BY PROGRAM, IN A SANDBOX (cutbox-door.mjs). By AI agents, Wed Nov 11 2026. No macro, syntax, notation, axiom, sorry.
-/
import Derived.Test.YtgiegokdcmkfeaaGreatDoorRows
import GoSem.ClaimSeven
namespace Go.Proofs.YtgiegokdcmkfeaaGreatDoor
namespace Rows

/-- THE TIED CARD OF 'tympantop.TopSchemeBack'. -/
def topSchemeBackCard : Claim7 := { stood := { row := topSchemeBackRow, standIns := [], harness := (true, "10e88f8001a0371dadf249813b8ed734c4e01cfbdae166deadb9daf5b12b2e47"), looks := true }, kinds := [], alts := [], laidByText := true, laidKinds := [.data, .data, .data, .data, .sentinel, .sentinel, .pinned], laidTests := true, laidLooks := .later }
def TopSchemeBackCardSaid : Prop := Claim7.holds Tryz.pinned (.plain (OpenSpec.ofChange topSchemeBackSpec)) topSchemeBackCard

/-- THE TIED CARD OF 'tympanlaw06.ImposeTexts'. -/
def imposeTextsCard : Claim7 := { stood := { row := imposeTextsRow, standIns := [], harness := (true, "10e88f8001a0371dadf249813b8ed734c4e01cfbdae166deadb9daf5b12b2e47"), looks := true }, kinds := [], alts := [], laidByText := true, laidKinds := [.data, .data, .data, .data, .sentinel, .sentinel, .pinned], laidTests := true, laidLooks := .later }
def ImposeTextsCardSaid : Prop := Claim7.holds Tryz.pinned (.plain (OpenSpec.ofChange imposeTextsSpec)) imposeTextsCard

/-- THE SECOND FORM's CARD OF 'tympantop.TopSchemeBack'. -/
def topSchemeBackUptoCard : Claim7 := { stood := { row := topSchemeBackUptoRow, standIns := [], harness := (true, "10e88f8001a0371dadf249813b8ed734c4e01cfbdae166deadb9daf5b12b2e47"), looks := true }, kinds := [], alts := [], laidByText := true, laidKinds := [.data, .data, .data, .data, .sentinel, .sentinel, .pinned], laidTests := true, laidLooks := .later }
def TopSchemeBackUptoCardSaid : Prop := Claim7.holds Tryz.pinned (.plain (OpenSpec.upto topSchemeBackSpec)) topSchemeBackUptoCard

/-- THE SECOND FORM's CARD OF 'tympanlaw06.ImposeTexts'. -/
def imposeTextsUptoCard : Claim7 := { stood := { row := imposeTextsUptoRow, standIns := [], harness := (true, "10e88f8001a0371dadf249813b8ed734c4e01cfbdae166deadb9daf5b12b2e47"), looks := true }, kinds := [], alts := [], laidByText := true, laidKinds := [.data, .data, .data, .data, .sentinel, .sentinel, .pinned], laidTests := true, laidLooks := .later }
def ImposeTextsUptoCardSaid : Prop := Claim7.holds Tryz.pinned (.plain (OpenSpec.upto imposeTextsSpec)) imposeTextsUptoCard
end Rows
end Go.Proofs.YtgiegokdcmkfeaaGreatDoor
