/-
  No cell of these rows narrows 'for every input' (looked for: loops, veiled, ifaces, maps, wideKeys, modest, calm, conditions, laid).
  DERIVED. THE GIVEN ROWS OF THIS SEAT. 12 by the template 'for every input the law returns true; each argument reads behind the call as it read before'; 0 by the template 'total and deterministic' (their statements: YtaagelngbbkllaaTotals.lean).
  GIVEN WITH THE SEED: the statements are not yours to turn. If you find one false, say at which input.
  Laid BY PROGRAM, IN A SANDBOX (cutbox-rows.mjs): the forced cells as the released guide's own fill.sh prints them over the translation b8fd15222ee87d9a… (all of the seat's roots in one cut). By AI agents, Wed Nov 11 2026. No macro, syntax, notation, axiom, sorry.
-/
import Derived.Test.YtaagelngbbkllaaChecked
import GoSem.Claim
import GoSem.ClaimJoined
import GoSem.ClaimMapViews
import Derived.JoinedTies
import Derived.KernelRfl
namespace Go.Proofs.Ytaagelngbbkllaa
/- THE CELL 'sum', in the pinned program and in every row, IS THE sha256 OF THE DUMP (.gsa) THAT YtaagelngbbkllaaProg.lean LOADS. Nothing in Lean hashes anything: it is a label: what it is worth is what the hold of that sum in a sandbox is worth. -/
noncomputable def Try.pinned : Pinned := { name := "ytaagelngbbkllaa", sum := "b8fd15222ee87d9a1327e727ce6c1e97baac7e82098028f8cf9b5fc94441e5d1", checked := Try.checked }
namespace Rows
def none {H : Type} : Left H := { results := [], args := [] }

/-- 'tympanlaw09.PressRuns': WHATEVER THE INPUT: true; the input reads as it did. -/
def pressRunsSpec : ChangeSpec := { name := "pressRuns", fn := fun _ => fun
  | [d1, d2] => { results := [.lit (.bool true)], args := [d1, d2] }
  | _ => none }
def pressRunsRow : OpenClaim := { program := "ytaagelngbbkllaa", sum := "b8fd15222ee87d9a1327e727ce6c1e97baac7e82098028f8cf9b5fc94441e5d1", func := "tympan/tympanlaw09.PressRuns", spec := "pressRuns", unfollowed := true, recurses := true, apart := false }
def PressRunsSaid : Prop := pressRunsRow.holds Try.pinned (OpenSpec.ofChange pressRunsSpec)

/-- ITS FALSE NEIGHBOUR: 'it returns false'. Refute it at one input. -/
def pressRunsWrong : ChangeSpec := { name := "pressRuns", fn := fun _ => fun
  | [d1, d2] => { results := [.lit (.bool false)], args := [d1, d2] }
  | _ => none }
def PressRunsWrongFalsely : Prop := pressRunsRow.holds Try.pinned (OpenSpec.ofChange pressRunsWrong)

/-- 'tympanlaw09.PressChances': WHATEVER THE INPUT: true; the input reads as it did. -/
def pressChancesSpec : ChangeSpec := { name := "pressChances", fn := fun _ => fun
  | [d1, d2] => { results := [.lit (.bool true)], args := [d1, d2] }
  | _ => none }
def pressChancesRow : OpenClaim := { program := "ytaagelngbbkllaa", sum := "b8fd15222ee87d9a1327e727ce6c1e97baac7e82098028f8cf9b5fc94441e5d1", func := "tympan/tympanlaw09.PressChances", spec := "pressChances", unfollowed := true, recurses := true, apart := false }
def PressChancesSaid : Prop := pressChancesRow.holds Try.pinned (OpenSpec.ofChange pressChancesSpec)

/-- ITS FALSE NEIGHBOUR: 'it returns false'. Refute it at one input. -/
def pressChancesWrong : ChangeSpec := { name := "pressChances", fn := fun _ => fun
  | [d1, d2] => { results := [.lit (.bool false)], args := [d1, d2] }
  | _ => none }
def PressChancesWrongFalsely : Prop := pressChancesRow.holds Try.pinned (OpenSpec.ofChange pressChancesWrong)

/-- 'tympanlaw09.PressSchedules': WHATEVER THE INPUT: true; the input reads as it did. -/
def pressSchedulesSpec : ChangeSpec := { name := "pressSchedules", fn := fun _ => fun
  | [d] => { results := [.lit (.bool true)], args := [d] }
  | _ => none }
def pressSchedulesRow : OpenClaim := { program := "ytaagelngbbkllaa", sum := "b8fd15222ee87d9a1327e727ce6c1e97baac7e82098028f8cf9b5fc94441e5d1", func := "tympan/tympanlaw09.PressSchedules", spec := "pressSchedules", unfollowed := true, recurses := true, apart := false }
def PressSchedulesSaid : Prop := pressSchedulesRow.holds Try.pinned (OpenSpec.ofChange pressSchedulesSpec)

/-- ITS FALSE NEIGHBOUR: 'it returns false'. Refute it at one input. -/
def pressSchedulesWrong : ChangeSpec := { name := "pressSchedules", fn := fun _ => fun
  | [d] => { results := [.lit (.bool false)], args := [d] }
  | _ => none }
def PressSchedulesWrongFalsely : Prop := pressSchedulesRow.holds Try.pinned (OpenSpec.ofChange pressSchedulesWrong)

/-- 'tympanlaw09.PressOrders': WHATEVER THE INPUT: true; the input reads as it did. -/
def pressOrdersSpec : ChangeSpec := { name := "pressOrders", fn := fun _ => fun
  | [d1, d2] => { results := [.lit (.bool true)], args := [d1, d2] }
  | _ => none }
def pressOrdersRow : OpenClaim := { program := "ytaagelngbbkllaa", sum := "b8fd15222ee87d9a1327e727ce6c1e97baac7e82098028f8cf9b5fc94441e5d1", func := "tympan/tympanlaw09.PressOrders", spec := "pressOrders", unfollowed := true, recurses := true, apart := false }
def PressOrdersSaid : Prop := pressOrdersRow.holds Try.pinned (OpenSpec.ofChange pressOrdersSpec)

/-- ITS FALSE NEIGHBOUR: 'it returns false'. Refute it at one input. -/
def pressOrdersWrong : ChangeSpec := { name := "pressOrders", fn := fun _ => fun
  | [d1, d2] => { results := [.lit (.bool false)], args := [d1, d2] }
  | _ => none }
def PressOrdersWrongFalsely : Prop := pressOrdersRow.holds Try.pinned (OpenSpec.ofChange pressOrdersWrong)

/-- 'tympanlaw09.PressPins': WHATEVER THE INPUT: true; the input reads as it did. -/
def pressPinsSpec : ChangeSpec := { name := "pressPins", fn := fun _ => fun
  | [d1, d2] => { results := [.lit (.bool true)], args := [d1, d2] }
  | _ => none }
def pressPinsRow : OpenClaim := { program := "ytaagelngbbkllaa", sum := "b8fd15222ee87d9a1327e727ce6c1e97baac7e82098028f8cf9b5fc94441e5d1", func := "tympan/tympanlaw09.PressPins", spec := "pressPins", unfollowed := true, recurses := true, apart := false }
def PressPinsSaid : Prop := pressPinsRow.holds Try.pinned (OpenSpec.ofChange pressPinsSpec)

/-- ITS FALSE NEIGHBOUR: 'it returns false'. Refute it at one input. -/
def pressPinsWrong : ChangeSpec := { name := "pressPins", fn := fun _ => fun
  | [d1, d2] => { results := [.lit (.bool false)], args := [d1, d2] }
  | _ => none }
def PressPinsWrongFalsely : Prop := pressPinsRow.holds Try.pinned (OpenSpec.ofChange pressPinsWrong)

/-- 'tympanlaw09.PressSheets': WHATEVER THE INPUT: true; the input reads as it did. -/
def pressSheetsSpec : ChangeSpec := { name := "pressSheets", fn := fun _ => fun
  | [d1, d2, d3] => { results := [.lit (.bool true)], args := [d1, d2, d3] }
  | _ => none }
def pressSheetsRow : OpenClaim := { program := "ytaagelngbbkllaa", sum := "b8fd15222ee87d9a1327e727ce6c1e97baac7e82098028f8cf9b5fc94441e5d1", func := "tympan/tympanlaw09.PressSheets", spec := "pressSheets", unfollowed := true, recurses := true, apart := false }
def PressSheetsSaid : Prop := pressSheetsRow.holds Try.pinned (OpenSpec.ofChange pressSheetsSpec)

/-- ITS FALSE NEIGHBOUR: 'it returns false'. Refute it at one input. -/
def pressSheetsWrong : ChangeSpec := { name := "pressSheets", fn := fun _ => fun
  | [d1, d2, d3] => { results := [.lit (.bool false)], args := [d1, d2, d3] }
  | _ => none }
def PressSheetsWrongFalsely : Prop := pressSheetsRow.holds Try.pinned (OpenSpec.ofChange pressSheetsWrong)

/-- 'tympanlaw09.PressChecks': WHATEVER THE INPUT: true; the input reads as it did. -/
def pressChecksSpec : ChangeSpec := { name := "pressChecks", fn := fun _ => fun
  | [d1, d2, d3] => { results := [.lit (.bool true)], args := [d1, d2, d3] }
  | _ => none }
def pressChecksRow : OpenClaim := { program := "ytaagelngbbkllaa", sum := "b8fd15222ee87d9a1327e727ce6c1e97baac7e82098028f8cf9b5fc94441e5d1", func := "tympan/tympanlaw09.PressChecks", spec := "pressChecks", unfollowed := true, recurses := true, apart := false }
def PressChecksSaid : Prop := pressChecksRow.holds Try.pinned (OpenSpec.ofChange pressChecksSpec)

/-- ITS FALSE NEIGHBOUR: 'it returns false'. Refute it at one input. -/
def pressChecksWrong : ChangeSpec := { name := "pressChecks", fn := fun _ => fun
  | [d1, d2, d3] => { results := [.lit (.bool false)], args := [d1, d2, d3] }
  | _ => none }
def PressChecksWrongFalsely : Prop := pressChecksRow.holds Try.pinned (OpenSpec.ofChange pressChecksWrong)

/-- 'tympanlaw09.PressRegister': WHATEVER THE INPUT: true; the input reads as it did. -/
def pressRegisterSpec : ChangeSpec := { name := "pressRegister", fn := fun _ => fun
  | [d1, d2] => { results := [.lit (.bool true)], args := [d1, d2] }
  | _ => none }
def pressRegisterRow : OpenClaim := { program := "ytaagelngbbkllaa", sum := "b8fd15222ee87d9a1327e727ce6c1e97baac7e82098028f8cf9b5fc94441e5d1", func := "tympan/tympanlaw09.PressRegister", spec := "pressRegister", unfollowed := true, recurses := true, apart := false }
def PressRegisterSaid : Prop := pressRegisterRow.holds Try.pinned (OpenSpec.ofChange pressRegisterSpec)

/-- ITS FALSE NEIGHBOUR: 'it returns false'. Refute it at one input. -/
def pressRegisterWrong : ChangeSpec := { name := "pressRegister", fn := fun _ => fun
  | [d1, d2] => { results := [.lit (.bool false)], args := [d1, d2] }
  | _ => none }
def PressRegisterWrongFalsely : Prop := pressRegisterRow.holds Try.pinned (OpenSpec.ofChange pressRegisterWrong)

/-- 'tympanlaw09.PressBestOrder': WHATEVER THE INPUT: true; the input reads as it did. -/
def pressBestOrderSpec : ChangeSpec := { name := "pressBestOrder", fn := fun _ => fun
  | [d] => { results := [.lit (.bool true)], args := [d] }
  | _ => none }
def pressBestOrderRow : OpenClaim := { program := "ytaagelngbbkllaa", sum := "b8fd15222ee87d9a1327e727ce6c1e97baac7e82098028f8cf9b5fc94441e5d1", func := "tympan/tympanlaw09.PressBestOrder", spec := "pressBestOrder", unfollowed := true, recurses := true, apart := false }
def PressBestOrderSaid : Prop := pressBestOrderRow.holds Try.pinned (OpenSpec.ofChange pressBestOrderSpec)

/-- ITS FALSE NEIGHBOUR: 'it returns false'. Refute it at one input. -/
def pressBestOrderWrong : ChangeSpec := { name := "pressBestOrder", fn := fun _ => fun
  | [d] => { results := [.lit (.bool false)], args := [d] }
  | _ => none }
def PressBestOrderWrongFalsely : Prop := pressBestOrderRow.holds Try.pinned (OpenSpec.ofChange pressBestOrderWrong)

/-- 'tympanlaw09.PressTrees': WHATEVER THE INPUT: true; the input reads as it did. -/
def pressTreesSpec : ChangeSpec := { name := "pressTrees", fn := fun _ => fun
  | [d1, d2, d3] => { results := [.lit (.bool true)], args := [d1, d2, d3] }
  | _ => none }
def pressTreesRow : OpenClaim := { program := "ytaagelngbbkllaa", sum := "b8fd15222ee87d9a1327e727ce6c1e97baac7e82098028f8cf9b5fc94441e5d1", func := "tympan/tympanlaw09.PressTrees", spec := "pressTrees", unfollowed := true, recurses := true, apart := false }
def PressTreesSaid : Prop := pressTreesRow.holds Try.pinned (OpenSpec.ofChange pressTreesSpec)

/-- ITS FALSE NEIGHBOUR: 'it returns false'. Refute it at one input. -/
def pressTreesWrong : ChangeSpec := { name := "pressTrees", fn := fun _ => fun
  | [d1, d2, d3] => { results := [.lit (.bool false)], args := [d1, d2, d3] }
  | _ => none }
def PressTreesWrongFalsely : Prop := pressTreesRow.holds Try.pinned (OpenSpec.ofChange pressTreesWrong)

/-- 'tympanlaw09.PressReady': WHATEVER THE INPUT: true; the input reads as it did. -/
def pressReadySpec : ChangeSpec := { name := "pressReady", fn := fun _ => fun
  | [d1, d2] => { results := [.lit (.bool true)], args := [d1, d2] }
  | _ => none }
def pressReadyRow : OpenClaim := { program := "ytaagelngbbkllaa", sum := "b8fd15222ee87d9a1327e727ce6c1e97baac7e82098028f8cf9b5fc94441e5d1", func := "tympan/tympanlaw09.PressReady", spec := "pressReady", unfollowed := true, recurses := true, apart := false }
def PressReadySaid : Prop := pressReadyRow.holds Try.pinned (OpenSpec.ofChange pressReadySpec)

/-- ITS FALSE NEIGHBOUR: 'it returns false'. Refute it at one input. -/
def pressReadyWrong : ChangeSpec := { name := "pressReady", fn := fun _ => fun
  | [d1, d2] => { results := [.lit (.bool false)], args := [d1, d2] }
  | _ => none }
def PressReadyWrongFalsely : Prop := pressReadyRow.holds Try.pinned (OpenSpec.ofChange pressReadyWrong)

/-- 'tympanlaw09.PressProves': WHATEVER THE INPUT: true; the input reads as it did. -/
def pressProvesSpec : ChangeSpec := { name := "pressProves", fn := fun _ => fun
  | [d1, d2, d3] => { results := [.lit (.bool true)], args := [d1, d2, d3] }
  | _ => none }
def pressProvesRow : OpenClaim := { program := "ytaagelngbbkllaa", sum := "b8fd15222ee87d9a1327e727ce6c1e97baac7e82098028f8cf9b5fc94441e5d1", func := "tympan/tympanlaw09.PressProves", spec := "pressProves", unfollowed := true, recurses := true, apart := false }
def PressProvesSaid : Prop := pressProvesRow.holds Try.pinned (OpenSpec.ofChange pressProvesSpec)

/-- ITS FALSE NEIGHBOUR: 'it returns false'. Refute it at one input. -/
def pressProvesWrong : ChangeSpec := { name := "pressProves", fn := fun _ => fun
  | [d1, d2, d3] => { results := [.lit (.bool false)], args := [d1, d2, d3] }
  | _ => none }
def PressProvesWrongFalsely : Prop := pressProvesRow.holds Try.pinned (OpenSpec.ofChange pressProvesWrong)

/- THE SECOND FORM. 'bulk': how many values and letters a reading holds, each counted each time it is reached (what is shared counts as often as it is met; a slice's spare places count too). A statement '..UptoSaid' is the law's where the arguments, and the package variables that the reading takes, are together of bulk at most 1048576: NARROWER than '..Said'. Prove '..Said' where nothing that the law and all that it calls make is longer than what came in: it says more and counts as full. Else prove '..UptoSaid'. A law counts once. -/
mutual
def uptoBulk {H : Type} : DataW H → Nat
  | .lit (.string bytes) => bytes.length + 1
  | .lit _ => 1
  | .nil => 1
  | .ptr d => uptoBulk d + 1
  | .slice elems spare => uptoBulkAll elems + uptoBulkAll spare + 1
  | .agg parts => uptoBulkAll parts + 1
  | .iface _ d => uptoBulk d + 1
  | .map entries => uptoBulkEntries entries + 1
  | .held _ => 1
def uptoBulkAll {H : Type} : List (DataW H) → Nat
  | [] => 0
  | d :: r => uptoBulk d + uptoBulkAll r
def uptoBulkEntries {H : Type} : List (Lit × DataW H) → Nat
  | [] => 0
  | x :: r => uptoBulkEntry x + uptoBulkEntries r
def uptoBulkEntry {H : Type} : Lit × DataW H → Nat
  | (.string bytes, d) => bytes.length + uptoBulk d + 1
  | (_, d) => uptoBulk d + 1
 end
def uptoSmall : (H : Type) → List (DataW H) → Bool := fun _ ds => decide (uptoBulkAll ds ≤ 1048576)
def OpenSpec.upto (s : _root_.Go.ChangeSpec) : _root_.Go.OpenSpec := { _root_.Go.OpenSpec.ofChange s with cond := some uptoSmall }

/-- 'tympanlaw09.PressRuns', WHERE WHAT IT READS IS OF BULK AT MOST 1048576: true; the input reads as it did. -/
def pressRunsUptoRow : OpenClaim := { program := "ytaagelngbbkllaa", sum := "b8fd15222ee87d9a1327e727ce6c1e97baac7e82098028f8cf9b5fc94441e5d1", func := "tympan/tympanlaw09.PressRuns", spec := "pressRuns", unfollowed := true, recurses := true, apart := false, narrowed := true }
def PressRunsUptoSaid : Prop := pressRunsUptoRow.holds Try.pinned (OpenSpec.upto pressRunsSpec)

/-- 'tympanlaw09.PressChances', WHERE WHAT IT READS IS OF BULK AT MOST 1048576: true; the input reads as it did. -/
def pressChancesUptoRow : OpenClaim := { program := "ytaagelngbbkllaa", sum := "b8fd15222ee87d9a1327e727ce6c1e97baac7e82098028f8cf9b5fc94441e5d1", func := "tympan/tympanlaw09.PressChances", spec := "pressChances", unfollowed := true, recurses := true, apart := false, narrowed := true }
def PressChancesUptoSaid : Prop := pressChancesUptoRow.holds Try.pinned (OpenSpec.upto pressChancesSpec)

/-- 'tympanlaw09.PressSchedules', WHERE WHAT IT READS IS OF BULK AT MOST 1048576: true; the input reads as it did. -/
def pressSchedulesUptoRow : OpenClaim := { program := "ytaagelngbbkllaa", sum := "b8fd15222ee87d9a1327e727ce6c1e97baac7e82098028f8cf9b5fc94441e5d1", func := "tympan/tympanlaw09.PressSchedules", spec := "pressSchedules", unfollowed := true, recurses := true, apart := false, narrowed := true }
def PressSchedulesUptoSaid : Prop := pressSchedulesUptoRow.holds Try.pinned (OpenSpec.upto pressSchedulesSpec)

/-- 'tympanlaw09.PressOrders', WHERE WHAT IT READS IS OF BULK AT MOST 1048576: true; the input reads as it did. -/
def pressOrdersUptoRow : OpenClaim := { program := "ytaagelngbbkllaa", sum := "b8fd15222ee87d9a1327e727ce6c1e97baac7e82098028f8cf9b5fc94441e5d1", func := "tympan/tympanlaw09.PressOrders", spec := "pressOrders", unfollowed := true, recurses := true, apart := false, narrowed := true }
def PressOrdersUptoSaid : Prop := pressOrdersUptoRow.holds Try.pinned (OpenSpec.upto pressOrdersSpec)

/-- 'tympanlaw09.PressPins', WHERE WHAT IT READS IS OF BULK AT MOST 1048576: true; the input reads as it did. -/
def pressPinsUptoRow : OpenClaim := { program := "ytaagelngbbkllaa", sum := "b8fd15222ee87d9a1327e727ce6c1e97baac7e82098028f8cf9b5fc94441e5d1", func := "tympan/tympanlaw09.PressPins", spec := "pressPins", unfollowed := true, recurses := true, apart := false, narrowed := true }
def PressPinsUptoSaid : Prop := pressPinsUptoRow.holds Try.pinned (OpenSpec.upto pressPinsSpec)

/-- 'tympanlaw09.PressSheets', WHERE WHAT IT READS IS OF BULK AT MOST 1048576: true; the input reads as it did. -/
def pressSheetsUptoRow : OpenClaim := { program := "ytaagelngbbkllaa", sum := "b8fd15222ee87d9a1327e727ce6c1e97baac7e82098028f8cf9b5fc94441e5d1", func := "tympan/tympanlaw09.PressSheets", spec := "pressSheets", unfollowed := true, recurses := true, apart := false, narrowed := true }
def PressSheetsUptoSaid : Prop := pressSheetsUptoRow.holds Try.pinned (OpenSpec.upto pressSheetsSpec)

/-- 'tympanlaw09.PressChecks', WHERE WHAT IT READS IS OF BULK AT MOST 1048576: true; the input reads as it did. -/
def pressChecksUptoRow : OpenClaim := { program := "ytaagelngbbkllaa", sum := "b8fd15222ee87d9a1327e727ce6c1e97baac7e82098028f8cf9b5fc94441e5d1", func := "tympan/tympanlaw09.PressChecks", spec := "pressChecks", unfollowed := true, recurses := true, apart := false, narrowed := true }
def PressChecksUptoSaid : Prop := pressChecksUptoRow.holds Try.pinned (OpenSpec.upto pressChecksSpec)

/-- 'tympanlaw09.PressRegister', WHERE WHAT IT READS IS OF BULK AT MOST 1048576: true; the input reads as it did. -/
def pressRegisterUptoRow : OpenClaim := { program := "ytaagelngbbkllaa", sum := "b8fd15222ee87d9a1327e727ce6c1e97baac7e82098028f8cf9b5fc94441e5d1", func := "tympan/tympanlaw09.PressRegister", spec := "pressRegister", unfollowed := true, recurses := true, apart := false, narrowed := true }
def PressRegisterUptoSaid : Prop := pressRegisterUptoRow.holds Try.pinned (OpenSpec.upto pressRegisterSpec)

/-- 'tympanlaw09.PressBestOrder', WHERE WHAT IT READS IS OF BULK AT MOST 1048576: true; the input reads as it did. -/
def pressBestOrderUptoRow : OpenClaim := { program := "ytaagelngbbkllaa", sum := "b8fd15222ee87d9a1327e727ce6c1e97baac7e82098028f8cf9b5fc94441e5d1", func := "tympan/tympanlaw09.PressBestOrder", spec := "pressBestOrder", unfollowed := true, recurses := true, apart := false, narrowed := true }
def PressBestOrderUptoSaid : Prop := pressBestOrderUptoRow.holds Try.pinned (OpenSpec.upto pressBestOrderSpec)

/-- 'tympanlaw09.PressTrees', WHERE WHAT IT READS IS OF BULK AT MOST 1048576: true; the input reads as it did. -/
def pressTreesUptoRow : OpenClaim := { program := "ytaagelngbbkllaa", sum := "b8fd15222ee87d9a1327e727ce6c1e97baac7e82098028f8cf9b5fc94441e5d1", func := "tympan/tympanlaw09.PressTrees", spec := "pressTrees", unfollowed := true, recurses := true, apart := false, narrowed := true }
def PressTreesUptoSaid : Prop := pressTreesUptoRow.holds Try.pinned (OpenSpec.upto pressTreesSpec)

/-- 'tympanlaw09.PressReady', WHERE WHAT IT READS IS OF BULK AT MOST 1048576: true; the input reads as it did. -/
def pressReadyUptoRow : OpenClaim := { program := "ytaagelngbbkllaa", sum := "b8fd15222ee87d9a1327e727ce6c1e97baac7e82098028f8cf9b5fc94441e5d1", func := "tympan/tympanlaw09.PressReady", spec := "pressReady", unfollowed := true, recurses := true, apart := false, narrowed := true }
def PressReadyUptoSaid : Prop := pressReadyUptoRow.holds Try.pinned (OpenSpec.upto pressReadySpec)

/-- 'tympanlaw09.PressProves', WHERE WHAT IT READS IS OF BULK AT MOST 1048576: true; the input reads as it did. -/
def pressProvesUptoRow : OpenClaim := { program := "ytaagelngbbkllaa", sum := "b8fd15222ee87d9a1327e727ce6c1e97baac7e82098028f8cf9b5fc94441e5d1", func := "tympan/tympanlaw09.PressProves", spec := "pressProves", unfollowed := true, recurses := true, apart := false, narrowed := true }
def PressProvesUptoSaid : Prop := pressProvesUptoRow.holds Try.pinned (OpenSpec.upto pressProvesSpec)

end Rows
end Go.Proofs.Ytaagelngbbkllaa
