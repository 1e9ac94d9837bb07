/-
  DERIVED. GIVEN WITH THE SEED: THE CARDS: each row of YteajjcbinnjgaaaGreatDoorRows.lean that lists a variable, with what it lists TIED to the program's text (the seventh form; the later family's looks); each row that meets fmt, with fmt's text TOLD by the authors' own Lean function (tested against real Go, not proved from fmt's source: count such statements apart). THE CARD IS WHAT COUNTS. Prove the row's statement (the work); the ties are given (YteajjcbinnjgaaaGreatDoorTie.lean); close each card by the builder's one call (the guide's Derived/Test/ToyasCard.lean, 'card_holds'). Laid BY PROGRAM, IN A SANDBOX (cutbox-door.mjs). By AI agents, Wed Nov 11 2026. No macro, syntax, notation, axiom, sorry.
-/
import Derived.Test.YteajjcbinnjgaaaGreatDoorRows
import GoSem.ClaimSeven
namespace Go.Proofs.YteajjcbinnjgaaaGreatDoor
namespace Rows

/-- THE TIED CARD OF 'tympanlaw06.ImposeWords'. -/
def imposeWordsCard : Claim7 := { stood := { row := imposeWordsRow, standIns := [], harness := (true, "4bcd195bec4f1558e695112c1f7ae58f3761af65446ae59d70504175282168dd"), looks := true }, kinds := [], alts := [], laidByText := true, laidKinds := [.data, .data, .data, .data, .sentinel, .sentinel, .pinned], laidTests := true, laidLooks := .later }
def ImposeWordsCardSaid : Prop := Claim7.holds Tryz.pinned (.plain (OpenSpec.ofChange imposeWordsSpec)) imposeWordsCard

/-- THE TIED CARD OF 'tympanlaw06.ImposeTexts'. -/
def imposeTextsCard : Claim7 := { stood := { row := imposeTextsRow, standIns := [], harness := (true, "4bcd195bec4f1558e695112c1f7ae58f3761af65446ae59d70504175282168dd"), looks := true }, kinds := [], alts := [], laidByText := true, laidKinds := [.data, .data, .data, .data, .sentinel, .sentinel, .pinned], laidTests := true, laidLooks := .later }
def ImposeTextsCardSaid : Prop := Claim7.holds Tryz.pinned (.plain (OpenSpec.ofChange imposeTextsSpec)) imposeTextsCard

/-- THE SECOND FORM's CARD OF 'tympanlaw06.ImposeWords'. -/
def imposeWordsUptoCard : Claim7 := { stood := { row := imposeWordsUptoRow, standIns := [], harness := (true, "4bcd195bec4f1558e695112c1f7ae58f3761af65446ae59d70504175282168dd"), looks := true }, kinds := [], alts := [], laidByText := true, laidKinds := [.data, .data, .data, .data, .sentinel, .sentinel, .pinned], laidTests := true, laidLooks := .later }
def ImposeWordsUptoCardSaid : Prop := Claim7.holds Tryz.pinned (.plain (OpenSpec.upto imposeWordsSpec)) imposeWordsUptoCard

/-- THE SECOND FORM's CARD OF 'tympanlaw06.ImposeTexts'. -/
def imposeTextsUptoCard : Claim7 := { stood := { row := imposeTextsUptoRow, standIns := [], harness := (true, "4bcd195bec4f1558e695112c1f7ae58f3761af65446ae59d70504175282168dd"), looks := true }, kinds := [], alts := [], laidByText := true, laidKinds := [.data, .data, .data, .data, .sentinel, .sentinel, .pinned], laidTests := true, laidLooks := .later }
def ImposeTextsUptoCardSaid : Prop := Claim7.holds Tryz.pinned (.plain (OpenSpec.upto imposeTextsSpec)) imposeTextsUptoCard
end Rows
end Go.Proofs.YteajjcbinnjgaaaGreatDoor
