/-
  No cell of these rows narrows 'for every input' (looked for: loops, veiled, ifaces, maps, wideKeys, modest, calm, conditions, laid).
  DERIVED. THE GIVEN ROWS OF THIS SEAT. 12 by the template 'for every input the law returns true; each argument reads behind the call as it read before'; 0 by the template 'total and deterministic' (their statements: YtenohgpackcjbaaTotals.lean).
  GIVEN WITH THE SEED: the statements are not yours to turn. If you find one false, say at which input.
  Laid BY PROGRAM, IN A SANDBOX (cutbox-rows.mjs): the forced cells as the released guide's own fill.sh prints them over the translation fbb767eac59baa1a… (all of the seat's roots in one cut). By AI agents, Wed Nov 11 2026. No macro, syntax, notation, axiom, sorry.
-/
import Derived.Test.YtenohgpackcjbaaChecked
import GoSem.Claim
import GoSem.ClaimJoined
import GoSem.ClaimMapViews
import Derived.JoinedTies
import Derived.KernelRfl
namespace Go.Proofs.Ytenohgpackcjbaa
/- THE CELL 'sum', in the pinned program and in every row, IS THE sha256 OF THE DUMP (.gsa) THAT YtenohgpackcjbaaProg.lean LOADS. Nothing in Lean hashes anything: it is a label: what it is worth is what the hold of that sum in a sandbox is worth. -/
noncomputable def Try.pinned : Pinned := { name := "ytenohgpackcjbaa", sum := "fbb767eac59baa1a78b40dbac78cd788fdc5414c992525c2c2da2cb7e3769c33", checked := Try.checked }
namespace Rows
def none {H : Type} : Left H := { results := [], args := [] }

/-- 'tympanlaw08.ProofApplies': WHATEVER THE INPUT: true; the input reads as it did. -/
def proofAppliesSpec : ChangeSpec := { name := "proofApplies", fn := fun _ => fun
  | [d1, d2] => { results := [.lit (.bool true)], args := [d1, d2] }
  | _ => none }
def proofAppliesRow : OpenClaim := { program := "ytenohgpackcjbaa", sum := "fbb767eac59baa1a78b40dbac78cd788fdc5414c992525c2c2da2cb7e3769c33", func := "tympan/tympanlaw08.ProofApplies", spec := "proofApplies", inPlace := ["slices.overlaps[string]", "slices.overlaps[tympan/api.CopyPart]"], unfollowed := true, recurses := true, apart := false }
def ProofAppliesSaid : Prop := proofAppliesRow.holds Try.pinned (OpenSpec.ofChange proofAppliesSpec)

/-- ITS FALSE NEIGHBOUR: 'it returns false'. Refute it at one input. -/
def proofAppliesWrong : ChangeSpec := { name := "proofApplies", fn := fun _ => fun
  | [d1, d2] => { results := [.lit (.bool false)], args := [d1, d2] }
  | _ => none }
def ProofAppliesWrongFalsely : Prop := proofAppliesRow.holds Try.pinned (OpenSpec.ofChange proofAppliesWrong)

/-- 'tympanlaw08.ProofSwaps': WHATEVER THE INPUT: true; the input reads as it did. -/
def proofSwapsSpec : ChangeSpec := { name := "proofSwaps", fn := fun _ => fun
  | [d1, d2] => { results := [.lit (.bool true)], args := [d1, d2] }
  | _ => none }
def proofSwapsRow : OpenClaim := { program := "ytenohgpackcjbaa", sum := "fbb767eac59baa1a78b40dbac78cd788fdc5414c992525c2c2da2cb7e3769c33", func := "tympan/tympanlaw08.ProofSwaps", spec := "proofSwaps", inPlace := ["slices.overlaps[string]", "slices.overlaps[tympan/api.CopyPart]"], unfollowed := true, recurses := true, apart := false }
def ProofSwapsSaid : Prop := proofSwapsRow.holds Try.pinned (OpenSpec.ofChange proofSwapsSpec)

/-- ITS FALSE NEIGHBOUR: 'it returns false'. Refute it at one input. -/
def proofSwapsWrong : ChangeSpec := { name := "proofSwaps", fn := fun _ => fun
  | [d1, d2] => { results := [.lit (.bool false)], args := [d1, d2] }
  | _ => none }
def ProofSwapsWrongFalsely : Prop := proofSwapsRow.holds Try.pinned (OpenSpec.ofChange proofSwapsWrong)

/-- 'tympanlaw08.ProofAppliesAll': WHATEVER THE INPUT: true; the input reads as it did. -/
def proofAppliesAllSpec : ChangeSpec := { name := "proofAppliesAll", fn := fun _ => fun
  | [d1, d2] => { results := [.lit (.bool true)], args := [d1, d2] }
  | _ => none }
def proofAppliesAllRow : OpenClaim := { program := "ytenohgpackcjbaa", sum := "fbb767eac59baa1a78b40dbac78cd788fdc5414c992525c2c2da2cb7e3769c33", func := "tympan/tympanlaw08.ProofAppliesAll", spec := "proofAppliesAll", inPlace := ["slices.overlaps[string]", "slices.overlaps[tympan/api.CopyPart]"], unfollowed := true, recurses := true, apart := false }
def ProofAppliesAllSaid : Prop := proofAppliesAllRow.holds Try.pinned (OpenSpec.ofChange proofAppliesAllSpec)

/-- ITS FALSE NEIGHBOUR: 'it returns false'. Refute it at one input. -/
def proofAppliesAllWrong : ChangeSpec := { name := "proofAppliesAll", fn := fun _ => fun
  | [d1, d2] => { results := [.lit (.bool false)], args := [d1, d2] }
  | _ => none }
def ProofAppliesAllWrongFalsely : Prop := proofAppliesAllRow.holds Try.pinned (OpenSpec.ofChange proofAppliesAllWrong)

/-- 'tympanlaw08.ProofCommutes': WHATEVER THE INPUT: true; the input reads as it did. -/
def proofCommutesSpec : ChangeSpec := { name := "proofCommutes", fn := fun _ => fun
  | [d1, d2, d3] => { results := [.lit (.bool true)], args := [d1, d2, d3] }
  | _ => none }
def proofCommutesRow : OpenClaim := { program := "ytenohgpackcjbaa", sum := "fbb767eac59baa1a78b40dbac78cd788fdc5414c992525c2c2da2cb7e3769c33", func := "tympan/tympanlaw08.ProofCommutes", spec := "proofCommutes", inPlace := ["slices.overlaps[string]", "slices.overlaps[tympan/api.CopyPart]"], unfollowed := true, recurses := true, apart := false }
def ProofCommutesSaid : Prop := proofCommutesRow.holds Try.pinned (OpenSpec.ofChange proofCommutesSpec)

/-- ITS FALSE NEIGHBOUR: 'it returns false'. Refute it at one input. -/
def proofCommutesWrong : ChangeSpec := { name := "proofCommutes", fn := fun _ => fun
  | [d1, d2, d3] => { results := [.lit (.bool false)], args := [d1, d2, d3] }
  | _ => none }
def ProofCommutesWrongFalsely : Prop := proofCommutesRow.holds Try.pinned (OpenSpec.ofChange proofCommutesWrong)

/-- 'tympanlaw08.ProofStets': WHATEVER THE INPUT: true; the input reads as it did. -/
def proofStetsSpec : ChangeSpec := { name := "proofStets", fn := fun _ => fun
  | [d1, d2] => { results := [.lit (.bool true)], args := [d1, d2] }
  | _ => none }
def proofStetsRow : OpenClaim := { program := "ytenohgpackcjbaa", sum := "fbb767eac59baa1a78b40dbac78cd788fdc5414c992525c2c2da2cb7e3769c33", func := "tympan/tympanlaw08.ProofStets", spec := "proofStets", inPlace := ["slices.overlaps[string]", "slices.overlaps[tympan/api.CopyPart]"], unfollowed := true, recurses := true, apart := false }
def ProofStetsSaid : Prop := proofStetsRow.holds Try.pinned (OpenSpec.ofChange proofStetsSpec)

/-- ITS FALSE NEIGHBOUR: 'it returns false'. Refute it at one input. -/
def proofStetsWrong : ChangeSpec := { name := "proofStets", fn := fun _ => fun
  | [d1, d2] => { results := [.lit (.bool false)], args := [d1, d2] }
  | _ => none }
def ProofStetsWrongFalsely : Prop := proofStetsRow.holds Try.pinned (OpenSpec.ofChange proofStetsWrong)

/-- 'tympanlaw08.ProofEditLabels': WHATEVER THE INPUT: true; the input reads as it did. -/
def proofEditLabelsSpec : ChangeSpec := { name := "proofEditLabels", fn := fun _ => fun
  | [d1, d2, d3] => { results := [.lit (.bool true)], args := [d1, d2, d3] }
  | _ => none }
def proofEditLabelsRow : OpenClaim := { program := "ytenohgpackcjbaa", sum := "fbb767eac59baa1a78b40dbac78cd788fdc5414c992525c2c2da2cb7e3769c33", func := "tympan/tympanlaw08.ProofEditLabels", spec := "proofEditLabels", inPlace := ["slices.overlaps[string]", "slices.overlaps[tympan/api.CopyPart]"], unfollowed := true, recurses := true, apart := false }
def ProofEditLabelsSaid : Prop := proofEditLabelsRow.holds Try.pinned (OpenSpec.ofChange proofEditLabelsSpec)

/-- ITS FALSE NEIGHBOUR: 'it returns false'. Refute it at one input. -/
def proofEditLabelsWrong : ChangeSpec := { name := "proofEditLabels", fn := fun _ => fun
  | [d1, d2, d3] => { results := [.lit (.bool false)], args := [d1, d2, d3] }
  | _ => none }
def ProofEditLabelsWrongFalsely : Prop := proofEditLabelsRow.holds Try.pinned (OpenSpec.ofChange proofEditLabelsWrong)

/-- 'tympanlaw08.ProofInverses': WHATEVER THE INPUT: true; the input reads as it did. -/
def proofInversesSpec : ChangeSpec := { name := "proofInverses", fn := fun _ => fun
  | [d] => { results := [.lit (.bool true)], args := [d] }
  | _ => none }
def proofInversesRow : OpenClaim := { program := "ytenohgpackcjbaa", sum := "fbb767eac59baa1a78b40dbac78cd788fdc5414c992525c2c2da2cb7e3769c33", func := "tympan/tympanlaw08.ProofInverses", spec := "proofInverses", inPlace := ["slices.overlaps[string]", "slices.overlaps[tympan/api.CopyPart]"], unfollowed := true, recurses := true, apart := false }
def ProofInversesSaid : Prop := proofInversesRow.holds Try.pinned (OpenSpec.ofChange proofInversesSpec)

/-- ITS FALSE NEIGHBOUR: 'it returns false'. Refute it at one input. -/
def proofInversesWrong : ChangeSpec := { name := "proofInverses", fn := fun _ => fun
  | [d] => { results := [.lit (.bool false)], args := [d] }
  | _ => none }
def ProofInversesWrongFalsely : Prop := proofInversesRow.holds Try.pinned (OpenSpec.ofChange proofInversesWrong)

/-- 'tympanlaw08.ProofEdits': WHATEVER THE INPUT: true; the input reads as it did. -/
def proofEditsSpec : ChangeSpec := { name := "proofEdits", fn := fun _ => fun
  | [d1, d2, d3] => { results := [.lit (.bool true)], args := [d1, d2, d3] }
  | _ => none }
def proofEditsRow : OpenClaim := { program := "ytenohgpackcjbaa", sum := "fbb767eac59baa1a78b40dbac78cd788fdc5414c992525c2c2da2cb7e3769c33", func := "tympan/tympanlaw08.ProofEdits", spec := "proofEdits", inPlace := ["slices.overlaps[string]", "slices.overlaps[tympan/api.CopyPart]"], unfollowed := true, recurses := true, apart := false }
def ProofEditsSaid : Prop := proofEditsRow.holds Try.pinned (OpenSpec.ofChange proofEditsSpec)

/-- ITS FALSE NEIGHBOUR: 'it returns false'. Refute it at one input. -/
def proofEditsWrong : ChangeSpec := { name := "proofEdits", fn := fun _ => fun
  | [d1, d2, d3] => { results := [.lit (.bool false)], args := [d1, d2, d3] }
  | _ => none }
def ProofEditsWrongFalsely : Prop := proofEditsRow.holds Try.pinned (OpenSpec.ofChange proofEditsWrong)

/-- 'tympanlaw08.ProofTakesBack': WHATEVER THE INPUT: true; the input reads as it did. -/
def proofTakesBackSpec : ChangeSpec := { name := "proofTakesBack", fn := fun _ => fun
  | [d1, d2] => { results := [.lit (.bool true)], args := [d1, d2] }
  | _ => none }
def proofTakesBackRow : OpenClaim := { program := "ytenohgpackcjbaa", sum := "fbb767eac59baa1a78b40dbac78cd788fdc5414c992525c2c2da2cb7e3769c33", func := "tympan/tympanlaw08.ProofTakesBack", spec := "proofTakesBack", inPlace := ["slices.overlaps[string]", "slices.overlaps[tympan/api.CopyPart]"], unfollowed := true, recurses := true, apart := false }
def ProofTakesBackSaid : Prop := proofTakesBackRow.holds Try.pinned (OpenSpec.ofChange proofTakesBackSpec)

/-- ITS FALSE NEIGHBOUR: 'it returns false'. Refute it at one input. -/
def proofTakesBackWrong : ChangeSpec := { name := "proofTakesBack", fn := fun _ => fun
  | [d1, d2] => { results := [.lit (.bool false)], args := [d1, d2] }
  | _ => none }
def ProofTakesBackWrongFalsely : Prop := proofTakesBackRow.holds Try.pinned (OpenSpec.ofChange proofTakesBackWrong)

/-- 'tympanlaw08.ProofMerges': WHATEVER THE INPUT: true; the input reads as it did. -/
def proofMergesSpec : ChangeSpec := { name := "proofMerges", fn := fun _ => fun
  | [d1, d2] => { results := [.lit (.bool true)], args := [d1, d2] }
  | _ => none }
def proofMergesRow : OpenClaim := { program := "ytenohgpackcjbaa", sum := "fbb767eac59baa1a78b40dbac78cd788fdc5414c992525c2c2da2cb7e3769c33", func := "tympan/tympanlaw08.ProofMerges", spec := "proofMerges", inPlace := ["slices.overlaps[string]", "slices.overlaps[tympan/api.CopyPart]"], unfollowed := true, recurses := true, apart := false }
def ProofMergesSaid : Prop := proofMergesRow.holds Try.pinned (OpenSpec.ofChange proofMergesSpec)

/-- ITS FALSE NEIGHBOUR: 'it returns false'. Refute it at one input. -/
def proofMergesWrong : ChangeSpec := { name := "proofMerges", fn := fun _ => fun
  | [d1, d2] => { results := [.lit (.bool false)], args := [d1, d2] }
  | _ => none }
def ProofMergesWrongFalsely : Prop := proofMergesRow.holds Try.pinned (OpenSpec.ofChange proofMergesWrong)

/-- 'tympanlaw08.ProofMergesAlike': WHATEVER THE INPUT: true; the input reads as it did. -/
def proofMergesAlikeSpec : ChangeSpec := { name := "proofMergesAlike", fn := fun _ => fun
  | [d1, d2, d3] => { results := [.lit (.bool true)], args := [d1, d2, d3] }
  | _ => none }
def proofMergesAlikeRow : OpenClaim := { program := "ytenohgpackcjbaa", sum := "fbb767eac59baa1a78b40dbac78cd788fdc5414c992525c2c2da2cb7e3769c33", func := "tympan/tympanlaw08.ProofMergesAlike", spec := "proofMergesAlike", inPlace := ["slices.overlaps[string]", "slices.overlaps[tympan/api.CopyPart]"], unfollowed := true, recurses := true, apart := false }
def ProofMergesAlikeSaid : Prop := proofMergesAlikeRow.holds Try.pinned (OpenSpec.ofChange proofMergesAlikeSpec)

/-- ITS FALSE NEIGHBOUR: 'it returns false'. Refute it at one input. -/
def proofMergesAlikeWrong : ChangeSpec := { name := "proofMergesAlike", fn := fun _ => fun
  | [d1, d2, d3] => { results := [.lit (.bool false)], args := [d1, d2, d3] }
  | _ => none }
def ProofMergesAlikeWrongFalsely : Prop := proofMergesAlikeRow.holds Try.pinned (OpenSpec.ofChange proofMergesAlikeWrong)

/-- 'tympanlaw08.ProofMarksOf': WHATEVER THE INPUT: true; the input reads as it did. -/
def proofMarksOfSpec : ChangeSpec := { name := "proofMarksOf", fn := fun _ => fun
  | [d1, d2, d3] => { results := [.lit (.bool true)], args := [d1, d2, d3] }
  | _ => none }
def proofMarksOfRow : OpenClaim := { program := "ytenohgpackcjbaa", sum := "fbb767eac59baa1a78b40dbac78cd788fdc5414c992525c2c2da2cb7e3769c33", func := "tympan/tympanlaw08.ProofMarksOf", spec := "proofMarksOf", inPlace := ["slices.overlaps[string]", "slices.overlaps[tympan/api.CopyPart]"], unfollowed := true, recurses := true, apart := false }
def ProofMarksOfSaid : Prop := proofMarksOfRow.holds Try.pinned (OpenSpec.ofChange proofMarksOfSpec)

/-- ITS FALSE NEIGHBOUR: 'it returns false'. Refute it at one input. -/
def proofMarksOfWrong : ChangeSpec := { name := "proofMarksOf", fn := fun _ => fun
  | [d1, d2, d3] => { results := [.lit (.bool false)], args := [d1, d2, d3] }
  | _ => none }
def ProofMarksOfWrongFalsely : Prop := proofMarksOfRow.holds Try.pinned (OpenSpec.ofChange proofMarksOfWrong)

/- THE SECOND FORM. 'bulk': how many values and letters a reading holds, each counted each time it is reached (what is shared counts as often as it is met; a slice's spare places count too). A statement '..UptoSaid' is the law's where the arguments, and the package variables that the reading takes, are together of bulk at most 1048576: NARROWER than '..Said'. Prove '..Said' where nothing that the law and all that it calls make is longer than what came in: it says more and counts as full. Else prove '..UptoSaid'. A law counts once. -/
mutual
def uptoBulk {H : Type} : DataW H → Nat
  | .lit (.string bytes) => bytes.length + 1
  | .lit _ => 1
  | .nil => 1
  | .ptr d => uptoBulk d + 1
  | .slice elems spare => uptoBulkAll elems + uptoBulkAll spare + 1
  | .agg parts => uptoBulkAll parts + 1
  | .iface _ d => uptoBulk d + 1
  | .map entries => uptoBulkEntries entries + 1
  | .held _ => 1
def uptoBulkAll {H : Type} : List (DataW H) → Nat
  | [] => 0
  | d :: r => uptoBulk d + uptoBulkAll r
def uptoBulkEntries {H : Type} : List (Lit × DataW H) → Nat
  | [] => 0
  | x :: r => uptoBulkEntry x + uptoBulkEntries r
def uptoBulkEntry {H : Type} : Lit × DataW H → Nat
  | (.string bytes, d) => bytes.length + uptoBulk d + 1
  | (_, d) => uptoBulk d + 1
 end
def uptoSmall : (H : Type) → List (DataW H) → Bool := fun _ ds => decide (uptoBulkAll ds ≤ 1048576)
def OpenSpec.upto (s : _root_.Go.ChangeSpec) : _root_.Go.OpenSpec := { _root_.Go.OpenSpec.ofChange s with cond := some uptoSmall }

/-- 'tympanlaw08.ProofApplies', WHERE WHAT IT READS IS OF BULK AT MOST 1048576: true; the input reads as it did. -/
def proofAppliesUptoRow : OpenClaim := { program := "ytenohgpackcjbaa", sum := "fbb767eac59baa1a78b40dbac78cd788fdc5414c992525c2c2da2cb7e3769c33", func := "tympan/tympanlaw08.ProofApplies", spec := "proofApplies", inPlace := ["slices.overlaps[string]", "slices.overlaps[tympan/api.CopyPart]"], unfollowed := true, recurses := true, apart := false, narrowed := true }
def ProofAppliesUptoSaid : Prop := proofAppliesUptoRow.holds Try.pinned (OpenSpec.upto proofAppliesSpec)

/-- 'tympanlaw08.ProofSwaps', WHERE WHAT IT READS IS OF BULK AT MOST 1048576: true; the input reads as it did. -/
def proofSwapsUptoRow : OpenClaim := { program := "ytenohgpackcjbaa", sum := "fbb767eac59baa1a78b40dbac78cd788fdc5414c992525c2c2da2cb7e3769c33", func := "tympan/tympanlaw08.ProofSwaps", spec := "proofSwaps", inPlace := ["slices.overlaps[string]", "slices.overlaps[tympan/api.CopyPart]"], unfollowed := true, recurses := true, apart := false, narrowed := true }
def ProofSwapsUptoSaid : Prop := proofSwapsUptoRow.holds Try.pinned (OpenSpec.upto proofSwapsSpec)

/-- 'tympanlaw08.ProofAppliesAll', WHERE WHAT IT READS IS OF BULK AT MOST 1048576: true; the input reads as it did. -/
def proofAppliesAllUptoRow : OpenClaim := { program := "ytenohgpackcjbaa", sum := "fbb767eac59baa1a78b40dbac78cd788fdc5414c992525c2c2da2cb7e3769c33", func := "tympan/tympanlaw08.ProofAppliesAll", spec := "proofAppliesAll", inPlace := ["slices.overlaps[string]", "slices.overlaps[tympan/api.CopyPart]"], unfollowed := true, recurses := true, apart := false, narrowed := true }
def ProofAppliesAllUptoSaid : Prop := proofAppliesAllUptoRow.holds Try.pinned (OpenSpec.upto proofAppliesAllSpec)

/-- 'tympanlaw08.ProofCommutes', WHERE WHAT IT READS IS OF BULK AT MOST 1048576: true; the input reads as it did. -/
def proofCommutesUptoRow : OpenClaim := { program := "ytenohgpackcjbaa", sum := "fbb767eac59baa1a78b40dbac78cd788fdc5414c992525c2c2da2cb7e3769c33", func := "tympan/tympanlaw08.ProofCommutes", spec := "proofCommutes", inPlace := ["slices.overlaps[string]", "slices.overlaps[tympan/api.CopyPart]"], unfollowed := true, recurses := true, apart := false, narrowed := true }
def ProofCommutesUptoSaid : Prop := proofCommutesUptoRow.holds Try.pinned (OpenSpec.upto proofCommutesSpec)

/-- 'tympanlaw08.ProofStets', WHERE WHAT IT READS IS OF BULK AT MOST 1048576: true; the input reads as it did. -/
def proofStetsUptoRow : OpenClaim := { program := "ytenohgpackcjbaa", sum := "fbb767eac59baa1a78b40dbac78cd788fdc5414c992525c2c2da2cb7e3769c33", func := "tympan/tympanlaw08.ProofStets", spec := "proofStets", inPlace := ["slices.overlaps[string]", "slices.overlaps[tympan/api.CopyPart]"], unfollowed := true, recurses := true, apart := false, narrowed := true }
def ProofStetsUptoSaid : Prop := proofStetsUptoRow.holds Try.pinned (OpenSpec.upto proofStetsSpec)

/-- 'tympanlaw08.ProofEditLabels', WHERE WHAT IT READS IS OF BULK AT MOST 1048576: true; the input reads as it did. -/
def proofEditLabelsUptoRow : OpenClaim := { program := "ytenohgpackcjbaa", sum := "fbb767eac59baa1a78b40dbac78cd788fdc5414c992525c2c2da2cb7e3769c33", func := "tympan/tympanlaw08.ProofEditLabels", spec := "proofEditLabels", inPlace := ["slices.overlaps[string]", "slices.overlaps[tympan/api.CopyPart]"], unfollowed := true, recurses := true, apart := false, narrowed := true }
def ProofEditLabelsUptoSaid : Prop := proofEditLabelsUptoRow.holds Try.pinned (OpenSpec.upto proofEditLabelsSpec)

/-- 'tympanlaw08.ProofInverses', WHERE WHAT IT READS IS OF BULK AT MOST 1048576: true; the input reads as it did. -/
def proofInversesUptoRow : OpenClaim := { program := "ytenohgpackcjbaa", sum := "fbb767eac59baa1a78b40dbac78cd788fdc5414c992525c2c2da2cb7e3769c33", func := "tympan/tympanlaw08.ProofInverses", spec := "proofInverses", inPlace := ["slices.overlaps[string]", "slices.overlaps[tympan/api.CopyPart]"], unfollowed := true, recurses := true, apart := false, narrowed := true }
def ProofInversesUptoSaid : Prop := proofInversesUptoRow.holds Try.pinned (OpenSpec.upto proofInversesSpec)

/-- 'tympanlaw08.ProofEdits', WHERE WHAT IT READS IS OF BULK AT MOST 1048576: true; the input reads as it did. -/
def proofEditsUptoRow : OpenClaim := { program := "ytenohgpackcjbaa", sum := "fbb767eac59baa1a78b40dbac78cd788fdc5414c992525c2c2da2cb7e3769c33", func := "tympan/tympanlaw08.ProofEdits", spec := "proofEdits", inPlace := ["slices.overlaps[string]", "slices.overlaps[tympan/api.CopyPart]"], unfollowed := true, recurses := true, apart := false, narrowed := true }
def ProofEditsUptoSaid : Prop := proofEditsUptoRow.holds Try.pinned (OpenSpec.upto proofEditsSpec)

/-- 'tympanlaw08.ProofTakesBack', WHERE WHAT IT READS IS OF BULK AT MOST 1048576: true; the input reads as it did. -/
def proofTakesBackUptoRow : OpenClaim := { program := "ytenohgpackcjbaa", sum := "fbb767eac59baa1a78b40dbac78cd788fdc5414c992525c2c2da2cb7e3769c33", func := "tympan/tympanlaw08.ProofTakesBack", spec := "proofTakesBack", inPlace := ["slices.overlaps[string]", "slices.overlaps[tympan/api.CopyPart]"], unfollowed := true, recurses := true, apart := false, narrowed := true }
def ProofTakesBackUptoSaid : Prop := proofTakesBackUptoRow.holds Try.pinned (OpenSpec.upto proofTakesBackSpec)

/-- 'tympanlaw08.ProofMerges', WHERE WHAT IT READS IS OF BULK AT MOST 1048576: true; the input reads as it did. -/
def proofMergesUptoRow : OpenClaim := { program := "ytenohgpackcjbaa", sum := "fbb767eac59baa1a78b40dbac78cd788fdc5414c992525c2c2da2cb7e3769c33", func := "tympan/tympanlaw08.ProofMerges", spec := "proofMerges", inPlace := ["slices.overlaps[string]", "slices.overlaps[tympan/api.CopyPart]"], unfollowed := true, recurses := true, apart := false, narrowed := true }
def ProofMergesUptoSaid : Prop := proofMergesUptoRow.holds Try.pinned (OpenSpec.upto proofMergesSpec)

/-- 'tympanlaw08.ProofMergesAlike', WHERE WHAT IT READS IS OF BULK AT MOST 1048576: true; the input reads as it did. -/
def proofMergesAlikeUptoRow : OpenClaim := { program := "ytenohgpackcjbaa", sum := "fbb767eac59baa1a78b40dbac78cd788fdc5414c992525c2c2da2cb7e3769c33", func := "tympan/tympanlaw08.ProofMergesAlike", spec := "proofMergesAlike", inPlace := ["slices.overlaps[string]", "slices.overlaps[tympan/api.CopyPart]"], unfollowed := true, recurses := true, apart := false, narrowed := true }
def ProofMergesAlikeUptoSaid : Prop := proofMergesAlikeUptoRow.holds Try.pinned (OpenSpec.upto proofMergesAlikeSpec)

/-- 'tympanlaw08.ProofMarksOf', WHERE WHAT IT READS IS OF BULK AT MOST 1048576: true; the input reads as it did. -/
def proofMarksOfUptoRow : OpenClaim := { program := "ytenohgpackcjbaa", sum := "fbb767eac59baa1a78b40dbac78cd788fdc5414c992525c2c2da2cb7e3769c33", func := "tympan/tympanlaw08.ProofMarksOf", spec := "proofMarksOf", inPlace := ["slices.overlaps[string]", "slices.overlaps[tympan/api.CopyPart]"], unfollowed := true, recurses := true, apart := false, narrowed := true }
def ProofMarksOfUptoSaid : Prop := proofMarksOfUptoRow.holds Try.pinned (OpenSpec.upto proofMarksOfSpec)

end Rows
end Go.Proofs.Ytenohgpackcjbaa
