/-
 What the rows' laid variables give: 'glob'; and a world in which they are laid.
-/
import Derived.Test.YtgcmppghjfidfaaGreatDoorCards
import Derived.Test.YtgcmppghjfidfaaGreatDoorTie
import Derived.Test.YtgcmppghjfidfaaGreatDoorVGA
import Derived.Test.YtgcmppghjfidfaaGreatDoorVGlobL
import Derived.Stop.LaidErr
import Derived.Shelf.Vars
import Derived.LaidLaws
import Derived.Deep.DeepHandedRow
import Derived.Lib.LaidTab
import Derived.MakeChecks
namespace Go.Proofs.YtgcmppghjfidfaaGreatDoor
open Go Go.Vx Go.ChangeShapes Go.WideShapes Go.ChangeAt Go.RowKit
set_option linter.unusedVariables false
set_option linter.unusedSimpArgs false
theorem gPow : Tryz.prog.globalNamed "internal/strconv.uint64pow10" = some 1 := by kernel_rfl
theorem gPowT : (Tryz.prog.globals[1]?).map (·.type) = some 267 := by kernel_rfl
theorem gRan : Tryz.prog.globalNamed "strconv.ErrRange" = some 3 := by kernel_rfl
theorem gRanT : (Tryz.prog.globals[3]?).map (·.type) = some 92 := by kernel_rfl
theorem gSyn : Tryz.prog.globalNamed "strconv.ErrSyntax" = some 2 := by kernel_rfl
theorem gSynT : (Tryz.prog.globals[2]?).map (·.type) = some 92 := by kernel_rfl
theorem star : "*" ++ "errors.errorString" = "*errors.errorString" := by decide
theorem rowE (u : TypeId) (h : Tryz.prog.typeName? 3 u = some "*errors.errorString") : u = 289 :=
 typeName_ptr_named (nm := "errors.errorString") (by rw [star]; kernel_rfl) (by kernel_rfl) (by decide) u (by rw [star]; exact h)
theorem glob_of {W : World} (h : laidMetH Tryz.prog Rows.topInvertedRow.laid W) (hs : W.ShapedOpen Tryz.prog) : glob W := by
 rw [MakeChecks.laidMetH_plain _ _ _ (by kernel_rfl)] at h
 have h1 : laidMet Tryz.prog Rows.topInvertedRow.laid.tail W := h.tail
 have h2 : laidMet Tryz.prog Rows.topInvertedRow.laid.tail.tail W := h1.tail
 have h3 : laidMet Tryz.prog Rows.topInvertedRow.laid.tail.tail.tail W := h2.tail
 have h4 : laidMet Tryz.prog Rows.topInvertedRow.laid.tail.tail.tail.tail W := h3.tail
 have h5 : laidMet Tryz.prog Rows.topInvertedRow.laid.tail.tail.tail.tail.tail W := h4.tail
 have uE : Tryz.prog.underlying 92 = some (.interface #[("Error", 96)]) := by kernel_rfl
 have uP : Tryz.prog.underlying 289 = some (.pointer 291) := by kernel_rfl
 have uS : Tryz.prog.underlying 291 = some (.struct #[{ name := "s", type := 9, offset := 0, embedded := false, tag := "", pkgPath := "errors", byteOffset := 0 }]) := by kernel_rfl
 obtain ⟨a0, s0, hv0, -, -, -⟩ := laid_sentinel h4 gRan gRanT uE rowE uP uS rfl rfl Tryz.underlying9 (by kernel_rfl) (by kernel_rfl)
 obtain ⟨a1, s1, hv1, -, -, -⟩ := laid_sentinel h5 gSyn gSynT uE rowE uP uS rfl rfl Tryz.underlying9 (by kernel_rfl) (by kernel_rfl)
 have hp : Lib.TabIs Tryz.prog W "internal/strconv.uint64pow10" .u64 Lib.pow10Tab := Lib.tabIs_of_head (t := 267) (e := 239) (n := 20) gPow gPowT (by kernel_rfl) (by kernel_rfl) (by kernel_rfl) (by kernel_rfl) h2
 refine ⟨hp, ⟨_, by simpa using World.var?_cell gSyn hv1 0, .inr ⟨_, _, rfl⟩⟩, ⟨_, by simpa using World.var?_cell gRan hv0 0, .inr ⟨_, _, rfl⟩⟩, ?_⟩
 exact cell_of_shapedOpen_int (P := Tryz.prog) (g := 0) (t := 3) (zero := #[.int .i64 0]) hs (of_decide_eq_true (by kernel_rfl)) (by kernel_rfl) rfl (by kernel_rfl) (by kernel_rfl) Tryz.underlying3
def val0 : DataW Unit → List Value
 | .lit (.int k z) => [.int k z]
 | _ => []
def val1 : DataW Unit → List Value
 | .agg l => l.flatMap val0
 | d => val0 d
def val2 : DataW Unit → List Value
 | .agg l => l.flatMap val1
 | d => val1 d
def setB (h : Array Obj) (g : Nat) (cs : List Value) : Array Obj := h.modify g fun
 | .cells _ t frozen => .cells cs.toArray t frozen
 | o => o
noncomputable def low : Nat := (World.holding Tryz.prog default ⟨#[], #[], []⟩).heap.size
noncomputable def laidWorld (os : Os) : World :=
 let w0 := World.holding Tryz.prog os ⟨#[.cells #[.string ⟨#[105, 110, 118, 97, 108, 105, 100, 32, 115, 121, 110, 116, 97, 120]⟩] 291, .cells #[.string ⟨#[118, 97, 108, 117, 101, 32, 111, 117, 116, 32, 111, 102, 32, 114, 97, 110, 103, 101]⟩] 291], #[], []⟩
 { w0 with heap := setB (setB (setB (setB (setB (setB (setB w0.heap 1 (val2 Rows.laid_internal_strconv_uint64pow10)) 2 [.iface 289 (.pointer (some ⟨low, 0, none⟩))]) 3 [.iface 289 (.pointer (some ⟨low + 1, 0, none⟩))]) 4 (val2 Rows.laid_unicode_utf8_first)) 5 (val2 Rows.laid_unicode_utf8_acceptRanges)) 6 (val2 Rows.laid_math_bits_deBruijn32tab)) 7 (val2 Rows.laid_math_bits_deBruijn64tab) }
set_option maxRecDepth 100000 in
theorem laid_met (os : Os) (args : Array Value) : laidMet Tryz.prog Rows.topInvertedRow.laid ((laidWorld os).forCall (fun _ _ => 0) ⟨#[], args, []⟩).memory :=
 laidMet_of_run' 8 (by kernel_rfl) (by kernel_rfl)
end Go.Proofs.YtgcmppghjfidfaaGreatDoor
