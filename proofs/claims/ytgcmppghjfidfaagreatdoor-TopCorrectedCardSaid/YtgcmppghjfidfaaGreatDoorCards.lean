/-
  DERIVED. GIVEN WITH THE SEED: THE CARDS: each row of YtgcmppghjfidfaaGreatDoorRows.lean that lists a variable, with what it lists TIED to the program's text (the seventh form; the later family's looks); each row that meets fmt, with fmt's text TOLD by the authors' own Lean function (tested against real Go, not proved from fmt's source: count such statements apart). THE CARD IS WHAT COUNTS. Prove the row's statement (the work); the ties are given (YtgcmppghjfidfaaGreatDoorTie.lean); close each card by the builder's one call (the guide's Derived/Test/ToyasCard.lean, 'card_holds'). Laid BY PROGRAM, IN A SANDBOX (cutbox-door.mjs). By AI agents, Wed Nov 11 2026. No macro, syntax, notation, axiom, sorry.
-/
import Derived.Test.YtgcmppghjfidfaaGreatDoorRows
import GoSem.ClaimSeven
namespace Go.Proofs.YtgcmppghjfidfaaGreatDoor
namespace Rows

/-- THE TIED CARD OF 'tympantop.TopInverted'. -/
def topInvertedCard : Claim7 := { stood := { row := topInvertedRow, standIns := [], harness := (true, "e9d89d0b5db24926a7585ec78683b5b11f1694f8fdd1eb09324b1caa1df96fac"), looks := true }, kinds := [], alts := [], laidByText := true, laidKinds := [.data, .data, .data, .data, .sentinel, .sentinel, .pinned], laidTests := true, laidLooks := .later }
def TopInvertedCardSaid : Prop := Claim7.holds Tryz.pinned (.plain (OpenSpec.ofChange topInvertedSpec)) topInvertedCard

/-- THE TIED CARD OF 'tympantop.TopCorrected'. -/
def topCorrectedCard : Claim7 := { stood := { row := topCorrectedRow, standIns := [], harness := (true, "e9d89d0b5db24926a7585ec78683b5b11f1694f8fdd1eb09324b1caa1df96fac"), looks := true }, kinds := [], alts := [], laidByText := true, laidKinds := [.data, .pinned], laidTests := true, laidLooks := .later }
def TopCorrectedCardSaid : Prop := Claim7.holds Tryz.pinned (.plain (OpenSpec.ofChange topCorrectedSpec)) topCorrectedCard

/-- THE SECOND FORM's CARD OF 'tympantop.TopInverted'. -/
def topInvertedUptoCard : Claim7 := { stood := { row := topInvertedUptoRow, standIns := [], harness := (true, "e9d89d0b5db24926a7585ec78683b5b11f1694f8fdd1eb09324b1caa1df96fac"), looks := true }, kinds := [], alts := [], laidByText := true, laidKinds := [.data, .data, .data, .data, .sentinel, .sentinel, .pinned], laidTests := true, laidLooks := .later }
def TopInvertedUptoCardSaid : Prop := Claim7.holds Tryz.pinned (.plain (OpenSpec.upto topInvertedSpec)) topInvertedUptoCard

/-- THE SECOND FORM's CARD OF 'tympantop.TopCorrected'. -/
def topCorrectedUptoCard : Claim7 := { stood := { row := topCorrectedUptoRow, standIns := [], harness := (true, "e9d89d0b5db24926a7585ec78683b5b11f1694f8fdd1eb09324b1caa1df96fac"), looks := true }, kinds := [], alts := [], laidByText := true, laidKinds := [.data, .pinned], laidTests := true, laidLooks := .later }
def TopCorrectedUptoCardSaid : Prop := Claim7.holds Tryz.pinned (.plain (OpenSpec.upto topCorrectedSpec)) topCorrectedUptoCard
end Rows
end Go.Proofs.YtgcmppghjfidfaaGreatDoor
