/-
  No cell of these rows narrows 'for every input' (looked for: loops, veiled, ifaces, maps, wideKeys, modest, calm, conditions, laid).
  DERIVED. THE GIVEN ROWS OF THIS SEAT. 12 by the template 'for every input the law returns true; each argument reads behind the call as it read before'; 0 by the template 'total and deterministic' (their statements: YtfpkpokkgbobmaaTotals.lean).
  GIVEN WITH THE SEED: the statements are not yours to turn. If you find one false, say at which input.
  Laid BY PROGRAM, IN A SANDBOX (cutbox-rows.mjs): the forced cells as the released guide's own fill.sh prints them over the translation e7148d2cff3ddeb6… (all of the seat's roots in one cut). By AI agents, Wed Nov 11 2026. No macro, syntax, notation, axiom, sorry.
-/
import Derived.Test.YtfpkpokkgbobmaaChecked
import GoSem.Claim
import GoSem.ClaimJoined
import GoSem.ClaimMapViews
import Derived.JoinedTies
import Derived.KernelRfl
namespace Go.Proofs.Ytfpkpokkgbobmaa
/- THE CELL 'sum', in the pinned program and in every row, IS THE sha256 OF THE DUMP (.gsa) THAT YtfpkpokkgbobmaaProg.lean LOADS. Nothing in Lean hashes anything: it is a label: what it is worth is what the hold of that sum in a sandbox is worth. -/
noncomputable def Try.pinned : Pinned := { name := "ytfpkpokkgbobmaa", sum := "e7148d2cff3ddeb62a72cd12d3facdcf2e727b62bb057754192c64dc39f5126e", checked := Try.checked }
namespace Rows
def none {H : Type} : Left H := { results := [], args := [] }

/-- 'tympanlaw06.ImposeTurns': WHATEVER THE INPUT: true; the input reads as it did. -/
def imposeTurnsSpec : ChangeSpec := { name := "imposeTurns", fn := fun _ => fun
  | [d1, d2, d3] => { results := [.lit (.bool true)], args := [d1, d2, d3] }
  | _ => none }
def imposeTurnsRow : OpenClaim := { program := "ytfpkpokkgbobmaa", sum := "e7148d2cff3ddeb62a72cd12d3facdcf2e727b62bb057754192c64dc39f5126e", func := "tympan/tympanlaw06.ImposeTurns", spec := "imposeTurns", unfollowed := true, recurses := true, apart := false }
def ImposeTurnsSaid : Prop := imposeTurnsRow.holds Try.pinned (OpenSpec.ofChange imposeTurnsSpec)

/-- ITS FALSE NEIGHBOUR: 'it returns false'. Refute it at one input. -/
def imposeTurnsWrong : ChangeSpec := { name := "imposeTurns", fn := fun _ => fun
  | [d1, d2, d3] => { results := [.lit (.bool false)], args := [d1, d2, d3] }
  | _ => none }
def ImposeTurnsWrongFalsely : Prop := imposeTurnsRow.holds Try.pinned (OpenSpec.ofChange imposeTurnsWrong)

/-- 'tympanlaw06.ImposeFolds': WHATEVER THE INPUT: true; the input reads as it did. -/
def imposeFoldsSpec : ChangeSpec := { name := "imposeFolds", fn := fun _ => fun
  | [d1, d2] => { results := [.lit (.bool true)], args := [d1, d2] }
  | _ => none }
def imposeFoldsRow : OpenClaim := { program := "ytfpkpokkgbobmaa", sum := "e7148d2cff3ddeb62a72cd12d3facdcf2e727b62bb057754192c64dc39f5126e", func := "tympan/tympanlaw06.ImposeFolds", spec := "imposeFolds", unfollowed := true, recurses := true, apart := false }
def ImposeFoldsSaid : Prop := imposeFoldsRow.holds Try.pinned (OpenSpec.ofChange imposeFoldsSpec)

/-- ITS FALSE NEIGHBOUR: 'it returns false'. Refute it at one input. -/
def imposeFoldsWrong : ChangeSpec := { name := "imposeFolds", fn := fun _ => fun
  | [d1, d2] => { results := [.lit (.bool false)], args := [d1, d2] }
  | _ => none }
def ImposeFoldsWrongFalsely : Prop := imposeFoldsRow.holds Try.pinned (OpenSpec.ofChange imposeFoldsWrong)

/-- 'tympanlaw06.ImposeMarks': WHATEVER THE INPUT: true; the input reads as it did. -/
def imposeMarksSpec : ChangeSpec := { name := "imposeMarks", fn := fun _ => fun
  | [d] => { results := [.lit (.bool true)], args := [d] }
  | _ => none }
def imposeMarksRow : OpenClaim := { program := "ytfpkpokkgbobmaa", sum := "e7148d2cff3ddeb62a72cd12d3facdcf2e727b62bb057754192c64dc39f5126e", func := "tympan/tympanlaw06.ImposeMarks", spec := "imposeMarks", unfollowed := true, recurses := true, apart := false }
def ImposeMarksSaid : Prop := imposeMarksRow.holds Try.pinned (OpenSpec.ofChange imposeMarksSpec)

/-- ITS FALSE NEIGHBOUR: 'it returns false'. Refute it at one input. -/
def imposeMarksWrong : ChangeSpec := { name := "imposeMarks", fn := fun _ => fun
  | [d] => { results := [.lit (.bool false)], args := [d] }
  | _ => none }
def ImposeMarksWrongFalsely : Prop := imposeMarksRow.holds Try.pinned (OpenSpec.ofChange imposeMarksWrong)

/-- 'tympanlaw06.ImposeBooks': WHATEVER THE INPUT: true; the input reads as it did. -/
def imposeBooksSpec : ChangeSpec := { name := "imposeBooks", fn := fun _ => fun
  | [d] => { results := [.lit (.bool true)], args := [d] }
  | _ => none }
def imposeBooksRow : OpenClaim := { program := "ytfpkpokkgbobmaa", sum := "e7148d2cff3ddeb62a72cd12d3facdcf2e727b62bb057754192c64dc39f5126e", func := "tympan/tympanlaw06.ImposeBooks", spec := "imposeBooks", unfollowed := true, recurses := true, apart := false }
def ImposeBooksSaid : Prop := imposeBooksRow.holds Try.pinned (OpenSpec.ofChange imposeBooksSpec)

/-- ITS FALSE NEIGHBOUR: 'it returns false'. Refute it at one input. -/
def imposeBooksWrong : ChangeSpec := { name := "imposeBooks", fn := fun _ => fun
  | [d] => { results := [.lit (.bool false)], args := [d] }
  | _ => none }
def ImposeBooksWrongFalsely : Prop := imposeBooksRow.holds Try.pinned (OpenSpec.ofChange imposeBooksWrong)

/-- 'tympanlaw06.ImposeTwice': WHATEVER THE INPUT: true; the input reads as it did. -/
def imposeTwiceSpec : ChangeSpec := { name := "imposeTwice", fn := fun _ => fun
  | [d1, d2] => { results := [.lit (.bool true)], args := [d1, d2] }
  | _ => none }
def imposeTwiceRow : OpenClaim := { program := "ytfpkpokkgbobmaa", sum := "e7148d2cff3ddeb62a72cd12d3facdcf2e727b62bb057754192c64dc39f5126e", func := "tympan/tympanlaw06.ImposeTwice", spec := "imposeTwice", unfollowed := true, recurses := true, apart := false }
def ImposeTwiceSaid : Prop := imposeTwiceRow.holds Try.pinned (OpenSpec.ofChange imposeTwiceSpec)

/-- ITS FALSE NEIGHBOUR: 'it returns false'. Refute it at one input. -/
def imposeTwiceWrong : ChangeSpec := { name := "imposeTwice", fn := fun _ => fun
  | [d1, d2] => { results := [.lit (.bool false)], args := [d1, d2] }
  | _ => none }
def ImposeTwiceWrongFalsely : Prop := imposeTwiceRow.holds Try.pinned (OpenSpec.ofChange imposeTwiceWrong)

/-- 'tympanlaw06.ImposeFolded': WHATEVER THE INPUT: true; the input reads as it did. -/
def imposeFoldedSpec : ChangeSpec := { name := "imposeFolded", fn := fun _ => fun
  | [d1, d2] => { results := [.lit (.bool true)], args := [d1, d2] }
  | _ => none }
def imposeFoldedRow : OpenClaim := { program := "ytfpkpokkgbobmaa", sum := "e7148d2cff3ddeb62a72cd12d3facdcf2e727b62bb057754192c64dc39f5126e", func := "tympan/tympanlaw06.ImposeFolded", spec := "imposeFolded", unfollowed := true, recurses := true, apart := false }
def ImposeFoldedSaid : Prop := imposeFoldedRow.holds Try.pinned (OpenSpec.ofChange imposeFoldedSpec)

/-- ITS FALSE NEIGHBOUR: 'it returns false'. Refute it at one input. -/
def imposeFoldedWrong : ChangeSpec := { name := "imposeFolded", fn := fun _ => fun
  | [d1, d2] => { results := [.lit (.bool false)], args := [d1, d2] }
  | _ => none }
def ImposeFoldedWrongFalsely : Prop := imposeFoldedRow.holds Try.pinned (OpenSpec.ofChange imposeFoldedWrong)

/-- 'tympanlaw06.ImposeReads': WHATEVER THE INPUT: true; the input reads as it did. -/
def imposeReadsSpec : ChangeSpec := { name := "imposeReads", fn := fun _ => fun
  | [d1, d2] => { results := [.lit (.bool true)], args := [d1, d2] }
  | _ => none }
def imposeReadsRow : OpenClaim := { program := "ytfpkpokkgbobmaa", sum := "e7148d2cff3ddeb62a72cd12d3facdcf2e727b62bb057754192c64dc39f5126e", func := "tympan/tympanlaw06.ImposeReads", spec := "imposeReads", unfollowed := true, recurses := true, apart := false }
def ImposeReadsSaid : Prop := imposeReadsRow.holds Try.pinned (OpenSpec.ofChange imposeReadsSpec)

/-- ITS FALSE NEIGHBOUR: 'it returns false'. Refute it at one input. -/
def imposeReadsWrong : ChangeSpec := { name := "imposeReads", fn := fun _ => fun
  | [d1, d2] => { results := [.lit (.bool false)], args := [d1, d2] }
  | _ => none }
def ImposeReadsWrongFalsely : Prop := imposeReadsRow.holds Try.pinned (OpenSpec.ofChange imposeReadsWrong)

/-- 'tympanlaw06.ImposeHalves': WHATEVER THE INPUT: true; the input reads as it did. -/
def imposeHalvesSpec : ChangeSpec := { name := "imposeHalves", fn := fun _ => fun
  | [d1, d2] => { results := [.lit (.bool true)], args := [d1, d2] }
  | _ => none }
def imposeHalvesRow : OpenClaim := { program := "ytfpkpokkgbobmaa", sum := "e7148d2cff3ddeb62a72cd12d3facdcf2e727b62bb057754192c64dc39f5126e", func := "tympan/tympanlaw06.ImposeHalves", spec := "imposeHalves", unfollowed := true, recurses := true, apart := false }
def ImposeHalvesSaid : Prop := imposeHalvesRow.holds Try.pinned (OpenSpec.ofChange imposeHalvesSpec)

/-- ITS FALSE NEIGHBOUR: 'it returns false'. Refute it at one input. -/
def imposeHalvesWrong : ChangeSpec := { name := "imposeHalves", fn := fun _ => fun
  | [d1, d2] => { results := [.lit (.bool false)], args := [d1, d2] }
  | _ => none }
def ImposeHalvesWrongFalsely : Prop := imposeHalvesRow.holds Try.pinned (OpenSpec.ofChange imposeHalvesWrong)

/-- 'tympanlaw06.ImposeSchemes': WHATEVER THE INPUT: true; the input reads as it did. -/
def imposeSchemesSpec : ChangeSpec := { name := "imposeSchemes", fn := fun _ => fun
  | [d] => { results := [.lit (.bool true)], args := [d] }
  | _ => none }
def imposeSchemesRow : OpenClaim := { program := "ytfpkpokkgbobmaa", sum := "e7148d2cff3ddeb62a72cd12d3facdcf2e727b62bb057754192c64dc39f5126e", func := "tympan/tympanlaw06.ImposeSchemes", spec := "imposeSchemes", unfollowed := true, recurses := true, apart := false }
def ImposeSchemesSaid : Prop := imposeSchemesRow.holds Try.pinned (OpenSpec.ofChange imposeSchemesSpec)

/-- ITS FALSE NEIGHBOUR: 'it returns false'. Refute it at one input. -/
def imposeSchemesWrong : ChangeSpec := { name := "imposeSchemes", fn := fun _ => fun
  | [d] => { results := [.lit (.bool false)], args := [d] }
  | _ => none }
def ImposeSchemesWrongFalsely : Prop := imposeSchemesRow.holds Try.pinned (OpenSpec.ofChange imposeSchemesWrong)

/-- 'tympanlaw06.ImposeFinds': WHATEVER THE INPUT: true; the input reads as it did. -/
def imposeFindsSpec : ChangeSpec := { name := "imposeFinds", fn := fun _ => fun
  | [d] => { results := [.lit (.bool true)], args := [d] }
  | _ => none }
def imposeFindsRow : OpenClaim := { program := "ytfpkpokkgbobmaa", sum := "e7148d2cff3ddeb62a72cd12d3facdcf2e727b62bb057754192c64dc39f5126e", func := "tympan/tympanlaw06.ImposeFinds", spec := "imposeFinds", unfollowed := true, recurses := true, apart := false }
def ImposeFindsSaid : Prop := imposeFindsRow.holds Try.pinned (OpenSpec.ofChange imposeFindsSpec)

/-- ITS FALSE NEIGHBOUR: 'it returns false'. Refute it at one input. -/
def imposeFindsWrong : ChangeSpec := { name := "imposeFinds", fn := fun _ => fun
  | [d] => { results := [.lit (.bool false)], args := [d] }
  | _ => none }
def ImposeFindsWrongFalsely : Prop := imposeFindsRow.holds Try.pinned (OpenSpec.ofChange imposeFindsWrong)

/-- 'tympanlaw06.ImposeFound': WHATEVER THE INPUT: true; the input reads as it did. -/
def imposeFoundSpec : ChangeSpec := { name := "imposeFound", fn := fun _ => fun
  | [d1, d2] => { results := [.lit (.bool true)], args := [d1, d2] }
  | _ => none }
def imposeFoundRow : OpenClaim := { program := "ytfpkpokkgbobmaa", sum := "e7148d2cff3ddeb62a72cd12d3facdcf2e727b62bb057754192c64dc39f5126e", func := "tympan/tympanlaw06.ImposeFound", spec := "imposeFound", unfollowed := true, recurses := true, apart := false }
def ImposeFoundSaid : Prop := imposeFoundRow.holds Try.pinned (OpenSpec.ofChange imposeFoundSpec)

/-- ITS FALSE NEIGHBOUR: 'it returns false'. Refute it at one input. -/
def imposeFoundWrong : ChangeSpec := { name := "imposeFound", fn := fun _ => fun
  | [d1, d2] => { results := [.lit (.bool false)], args := [d1, d2] }
  | _ => none }
def ImposeFoundWrongFalsely : Prop := imposeFoundRow.holds Try.pinned (OpenSpec.ofChange imposeFoundWrong)

/-- 'tympanlaw06.ImposeCombines': WHATEVER THE INPUT: true; the input reads as it did. -/
def imposeCombinesSpec : ChangeSpec := { name := "imposeCombines", fn := fun _ => fun
  | [d1, d2] => { results := [.lit (.bool true)], args := [d1, d2] }
  | _ => none }
def imposeCombinesRow : OpenClaim := { program := "ytfpkpokkgbobmaa", sum := "e7148d2cff3ddeb62a72cd12d3facdcf2e727b62bb057754192c64dc39f5126e", func := "tympan/tympanlaw06.ImposeCombines", spec := "imposeCombines", unfollowed := true, recurses := true, apart := false }
def ImposeCombinesSaid : Prop := imposeCombinesRow.holds Try.pinned (OpenSpec.ofChange imposeCombinesSpec)

/-- ITS FALSE NEIGHBOUR: 'it returns false'. Refute it at one input. -/
def imposeCombinesWrong : ChangeSpec := { name := "imposeCombines", fn := fun _ => fun
  | [d1, d2] => { results := [.lit (.bool false)], args := [d1, d2] }
  | _ => none }
def ImposeCombinesWrongFalsely : Prop := imposeCombinesRow.holds Try.pinned (OpenSpec.ofChange imposeCombinesWrong)

/- THE SECOND FORM. 'bulk': how many values and letters a reading holds, each counted each time it is reached (what is shared counts as often as it is met; a slice's spare places count too). A statement '..UptoSaid' is the law's where the arguments, and the package variables that the reading takes, are together of bulk at most 1048576: NARROWER than '..Said'. Prove '..Said' where nothing that the law and all that it calls make is longer than what came in: it says more and counts as full. Else prove '..UptoSaid'. A law counts once. -/
mutual
def uptoBulk {H : Type} : DataW H → Nat
  | .lit (.string bytes) => bytes.length + 1
  | .lit _ => 1
  | .nil => 1
  | .ptr d => uptoBulk d + 1
  | .slice elems spare => uptoBulkAll elems + uptoBulkAll spare + 1
  | .agg parts => uptoBulkAll parts + 1
  | .iface _ d => uptoBulk d + 1
  | .map entries => uptoBulkEntries entries + 1
  | .held _ => 1
def uptoBulkAll {H : Type} : List (DataW H) → Nat
  | [] => 0
  | d :: r => uptoBulk d + uptoBulkAll r
def uptoBulkEntries {H : Type} : List (Lit × DataW H) → Nat
  | [] => 0
  | x :: r => uptoBulkEntry x + uptoBulkEntries r
def uptoBulkEntry {H : Type} : Lit × DataW H → Nat
  | (.string bytes, d) => bytes.length + uptoBulk d + 1
  | (_, d) => uptoBulk d + 1
 end
def uptoSmall : (H : Type) → List (DataW H) → Bool := fun _ ds => decide (uptoBulkAll ds ≤ 1048576)
def OpenSpec.upto (s : _root_.Go.ChangeSpec) : _root_.Go.OpenSpec := { _root_.Go.OpenSpec.ofChange s with cond := some uptoSmall }

/-- 'tympanlaw06.ImposeTurns', WHERE WHAT IT READS IS OF BULK AT MOST 1048576: true; the input reads as it did. -/
def imposeTurnsUptoRow : OpenClaim := { program := "ytfpkpokkgbobmaa", sum := "e7148d2cff3ddeb62a72cd12d3facdcf2e727b62bb057754192c64dc39f5126e", func := "tympan/tympanlaw06.ImposeTurns", spec := "imposeTurns", unfollowed := true, recurses := true, apart := false, narrowed := true }
def ImposeTurnsUptoSaid : Prop := imposeTurnsUptoRow.holds Try.pinned (OpenSpec.upto imposeTurnsSpec)

/-- 'tympanlaw06.ImposeFolds', WHERE WHAT IT READS IS OF BULK AT MOST 1048576: true; the input reads as it did. -/
def imposeFoldsUptoRow : OpenClaim := { program := "ytfpkpokkgbobmaa", sum := "e7148d2cff3ddeb62a72cd12d3facdcf2e727b62bb057754192c64dc39f5126e", func := "tympan/tympanlaw06.ImposeFolds", spec := "imposeFolds", unfollowed := true, recurses := true, apart := false, narrowed := true }
def ImposeFoldsUptoSaid : Prop := imposeFoldsUptoRow.holds Try.pinned (OpenSpec.upto imposeFoldsSpec)

/-- 'tympanlaw06.ImposeMarks', WHERE WHAT IT READS IS OF BULK AT MOST 1048576: true; the input reads as it did. -/
def imposeMarksUptoRow : OpenClaim := { program := "ytfpkpokkgbobmaa", sum := "e7148d2cff3ddeb62a72cd12d3facdcf2e727b62bb057754192c64dc39f5126e", func := "tympan/tympanlaw06.ImposeMarks", spec := "imposeMarks", unfollowed := true, recurses := true, apart := false, narrowed := true }
def ImposeMarksUptoSaid : Prop := imposeMarksUptoRow.holds Try.pinned (OpenSpec.upto imposeMarksSpec)

/-- 'tympanlaw06.ImposeBooks', WHERE WHAT IT READS IS OF BULK AT MOST 1048576: true; the input reads as it did. -/
def imposeBooksUptoRow : OpenClaim := { program := "ytfpkpokkgbobmaa", sum := "e7148d2cff3ddeb62a72cd12d3facdcf2e727b62bb057754192c64dc39f5126e", func := "tympan/tympanlaw06.ImposeBooks", spec := "imposeBooks", unfollowed := true, recurses := true, apart := false, narrowed := true }
def ImposeBooksUptoSaid : Prop := imposeBooksUptoRow.holds Try.pinned (OpenSpec.upto imposeBooksSpec)

/-- 'tympanlaw06.ImposeTwice', WHERE WHAT IT READS IS OF BULK AT MOST 1048576: true; the input reads as it did. -/
def imposeTwiceUptoRow : OpenClaim := { program := "ytfpkpokkgbobmaa", sum := "e7148d2cff3ddeb62a72cd12d3facdcf2e727b62bb057754192c64dc39f5126e", func := "tympan/tympanlaw06.ImposeTwice", spec := "imposeTwice", unfollowed := true, recurses := true, apart := false, narrowed := true }
def ImposeTwiceUptoSaid : Prop := imposeTwiceUptoRow.holds Try.pinned (OpenSpec.upto imposeTwiceSpec)

/-- 'tympanlaw06.ImposeFolded', WHERE WHAT IT READS IS OF BULK AT MOST 1048576: true; the input reads as it did. -/
def imposeFoldedUptoRow : OpenClaim := { program := "ytfpkpokkgbobmaa", sum := "e7148d2cff3ddeb62a72cd12d3facdcf2e727b62bb057754192c64dc39f5126e", func := "tympan/tympanlaw06.ImposeFolded", spec := "imposeFolded", unfollowed := true, recurses := true, apart := false, narrowed := true }
def ImposeFoldedUptoSaid : Prop := imposeFoldedUptoRow.holds Try.pinned (OpenSpec.upto imposeFoldedSpec)

/-- 'tympanlaw06.ImposeReads', WHERE WHAT IT READS IS OF BULK AT MOST 1048576: true; the input reads as it did. -/
def imposeReadsUptoRow : OpenClaim := { program := "ytfpkpokkgbobmaa", sum := "e7148d2cff3ddeb62a72cd12d3facdcf2e727b62bb057754192c64dc39f5126e", func := "tympan/tympanlaw06.ImposeReads", spec := "imposeReads", unfollowed := true, recurses := true, apart := false, narrowed := true }
def ImposeReadsUptoSaid : Prop := imposeReadsUptoRow.holds Try.pinned (OpenSpec.upto imposeReadsSpec)

/-- 'tympanlaw06.ImposeHalves', WHERE WHAT IT READS IS OF BULK AT MOST 1048576: true; the input reads as it did. -/
def imposeHalvesUptoRow : OpenClaim := { program := "ytfpkpokkgbobmaa", sum := "e7148d2cff3ddeb62a72cd12d3facdcf2e727b62bb057754192c64dc39f5126e", func := "tympan/tympanlaw06.ImposeHalves", spec := "imposeHalves", unfollowed := true, recurses := true, apart := false, narrowed := true }
def ImposeHalvesUptoSaid : Prop := imposeHalvesUptoRow.holds Try.pinned (OpenSpec.upto imposeHalvesSpec)

/-- 'tympanlaw06.ImposeSchemes', WHERE WHAT IT READS IS OF BULK AT MOST 1048576: true; the input reads as it did. -/
def imposeSchemesUptoRow : OpenClaim := { program := "ytfpkpokkgbobmaa", sum := "e7148d2cff3ddeb62a72cd12d3facdcf2e727b62bb057754192c64dc39f5126e", func := "tympan/tympanlaw06.ImposeSchemes", spec := "imposeSchemes", unfollowed := true, recurses := true, apart := false, narrowed := true }
def ImposeSchemesUptoSaid : Prop := imposeSchemesUptoRow.holds Try.pinned (OpenSpec.upto imposeSchemesSpec)

/-- 'tympanlaw06.ImposeFinds', WHERE WHAT IT READS IS OF BULK AT MOST 1048576: true; the input reads as it did. -/
def imposeFindsUptoRow : OpenClaim := { program := "ytfpkpokkgbobmaa", sum := "e7148d2cff3ddeb62a72cd12d3facdcf2e727b62bb057754192c64dc39f5126e", func := "tympan/tympanlaw06.ImposeFinds", spec := "imposeFinds", unfollowed := true, recurses := true, apart := false, narrowed := true }
def ImposeFindsUptoSaid : Prop := imposeFindsUptoRow.holds Try.pinned (OpenSpec.upto imposeFindsSpec)

/-- 'tympanlaw06.ImposeFound', WHERE WHAT IT READS IS OF BULK AT MOST 1048576: true; the input reads as it did. -/
def imposeFoundUptoRow : OpenClaim := { program := "ytfpkpokkgbobmaa", sum := "e7148d2cff3ddeb62a72cd12d3facdcf2e727b62bb057754192c64dc39f5126e", func := "tympan/tympanlaw06.ImposeFound", spec := "imposeFound", unfollowed := true, recurses := true, apart := false, narrowed := true }
def ImposeFoundUptoSaid : Prop := imposeFoundUptoRow.holds Try.pinned (OpenSpec.upto imposeFoundSpec)

/-- 'tympanlaw06.ImposeCombines', WHERE WHAT IT READS IS OF BULK AT MOST 1048576: true; the input reads as it did. -/
def imposeCombinesUptoRow : OpenClaim := { program := "ytfpkpokkgbobmaa", sum := "e7148d2cff3ddeb62a72cd12d3facdcf2e727b62bb057754192c64dc39f5126e", func := "tympan/tympanlaw06.ImposeCombines", spec := "imposeCombines", unfollowed := true, recurses := true, apart := false, narrowed := true }
def ImposeCombinesUptoSaid : Prop := imposeCombinesUptoRow.holds Try.pinned (OpenSpec.upto imposeCombinesSpec)

end Rows
end Go.Proofs.Ytfpkpokkgbobmaa
