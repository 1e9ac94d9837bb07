/-
 What the row's laid variables give: 'glob'; and a world in which they are laid.
-/
import Derived.Test.YtgcmppghjfidfaaGreatDoorCards
import Derived.Test.YtgcmppghjfidfaaGreatDoorTie
import Derived.Test.YtgcmppghjfidfaaGreatDoorVGA
import Derived.Test.YtgcmppghjfidfaaGreatDoorVGlobL
import Derived.Stop.LaidErr
import Derived.Shelf.Vars
import Derived.LaidLaws
import Derived.Deep.DeepHandedRow
import Derived.Lib.LaidTab
import Derived.MakeChecks
namespace Go.Proofs.YtgcmppghjfidfaaGreatDoor
open Go Go.Vx Go.ChangeShapes Go.WideShapes Go.ChangeAt Go.RowKit
set_option linter.unusedVariables false
set_option linter.unusedSimpArgs false
theorem glob_of {W : World} (hs : W.ShapedOpen Tryz.prog) : glob W :=
 cell_of_shapedOpen_int (P := Tryz.prog) (g := 0) (t := 3) (zero := #[.int .i64 0]) hs (of_decide_eq_true (by kernel_rfl)) (by kernel_rfl) rfl (by kernel_rfl) (by kernel_rfl) Tryz.underlying3
def val0 : DataW Unit → List Value
 | .lit (.int k z) => [.int k z]
 | _ => []
def val1 : DataW Unit → List Value
 | .agg l => l.flatMap val0
 | d => val0 d
def val2 : DataW Unit → List Value
 | .agg l => l.flatMap val1
 | d => val1 d
def setB (h : Array Obj) (g : Nat) (cs : List Value) : Array Obj := h.modify g fun
 | .cells _ t frozen => .cells cs.toArray t frozen
 | o => o
noncomputable def laidWorld (os : Os) : World :=
 let w0 := World.holding Tryz.prog os ⟨#[], #[], []⟩
 { w0 with heap := setB (setB w0.heap 4 (val2 Rows.laid_unicode_utf8_first)) 5 (val2 Rows.laid_unicode_utf8_acceptRanges) }
set_option maxRecDepth 100000 in
theorem laid_met (os : Os) (args : Array Value) : laidMet Tryz.prog Rows.topCorrectedRow.laid ((laidWorld os).forCall (fun _ _ => 0) ⟨#[], args, []⟩).memory :=
 laidMet_of_run' 8 (by kernel_rfl) (by kernel_rfl)
end Go.Proofs.YtgcmppghjfidfaaGreatDoor
