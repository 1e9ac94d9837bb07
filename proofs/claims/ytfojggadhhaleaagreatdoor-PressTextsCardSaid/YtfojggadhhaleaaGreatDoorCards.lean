/-
  DERIVED. GIVEN WITH THE SEED: THE CARDS: each row of YtfojggadhhaleaaGreatDoorRows.lean that lists a variable, with what it lists TIED to the program's text (the seventh form; the later family's looks); each row that meets fmt, with fmt's text TOLD by the authors' own Lean function (tested against real Go, not proved from fmt's source: count such statements apart). THE CARD IS WHAT COUNTS. Prove the row's statement (the work); the ties are given (YtfojggadhhaleaaGreatDoorTie.lean); close each card by the builder's one call (the guide's Derived/Test/ToyasCard.lean, 'card_holds'). Laid BY PROGRAM, IN A SANDBOX (cutbox-door.mjs). By AI agents, Wed Nov 11 2026. No macro, syntax, notation, axiom, sorry.
-/
import Derived.Test.YtfojggadhhaleaaGreatDoorRows
import GoSem.ClaimSeven
namespace Go.Proofs.YtfojggadhhaleaaGreatDoor
namespace Rows

/-- THE TIED CARD OF 'tympanlaw09.PressTexts'. -/
def pressTextsCard : Claim7 := { stood := { row := pressTextsRow, standIns := [], harness := (true, "c464255c6c64be539268b180781557c668d44b6d606d85f0d6e93c03a1dc5114"), looks := true }, kinds := [], alts := [], laidByText := true, laidKinds := [.data, .data, .data, .data, .sentinel, .sentinel, .pinned], laidTests := true, laidLooks := .later }
def PressTextsCardSaid : Prop := Claim7.holds Tryz.pinned (.plain (OpenSpec.ofChange pressTextsSpec)) pressTextsCard

/-- THE SECOND FORM's CARD OF 'tympanlaw09.PressTexts'. -/
def pressTextsUptoCard : Claim7 := { stood := { row := pressTextsUptoRow, standIns := [], harness := (true, "c464255c6c64be539268b180781557c668d44b6d606d85f0d6e93c03a1dc5114"), looks := true }, kinds := [], alts := [], laidByText := true, laidKinds := [.data, .data, .data, .data, .sentinel, .sentinel, .pinned], laidTests := true, laidLooks := .later }
def PressTextsUptoCardSaid : Prop := Claim7.holds Tryz.pinned (.plain (OpenSpec.upto pressTextsSpec)) pressTextsUptoCard
end Rows
end Go.Proofs.YtfojggadhhaleaaGreatDoor
