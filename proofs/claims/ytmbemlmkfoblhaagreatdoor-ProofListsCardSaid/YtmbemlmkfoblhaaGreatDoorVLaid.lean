/-
 What the rows' laid variables give: 'glob'; and a world in which they are laid.
-/
import Derived.Test.YtmbemlmkfoblhaaGreatDoorCards
import Derived.Test.YtmbemlmkfoblhaaGreatDoorTie
import Derived.Test.YtmbemlmkfoblhaaGreatDoorVGA
import Derived.Test.YtmbemlmkfoblhaaGreatDoorVGlobL
import Derived.Stop.LaidErr
import Derived.Shelf.Vars
import Derived.LaidLaws
import Derived.Deep.DeepHandedRow
import Derived.Lib.LaidTab
import Derived.MakeChecks
namespace Go.Proofs.YtmbemlmkfoblhaaGreatDoor
open Go Go.Vx Go.ChangeShapes Go.WideShapes Go.ChangeAt Go.RowKit
set_option linter.unusedVariables false
set_option linter.unusedSimpArgs false
theorem gPow : Tryz.prog.globalNamed "internal/strconv.uint64pow10" = some 2 := by kernel_rfl
theorem gPowT : (Tryz.prog.globals[2]?).map (·.type) = some 173 := by kernel_rfl
theorem gRan : Tryz.prog.globalNamed "strconv.ErrRange" = some 4 := by kernel_rfl
theorem gRanT : (Tryz.prog.globals[4]?).map (·.type) = some 99 := by kernel_rfl
theorem gSyn : Tryz.prog.globalNamed "strconv.ErrSyntax" = some 3 := by kernel_rfl
theorem gSynT : (Tryz.prog.globals[3]?).map (·.type) = some 99 := by kernel_rfl
theorem star : "*" ++ "errors.errorString" = "*errors.errorString" := by decide
theorem rowE (u : TypeId) (h : Tryz.prog.typeName? 3 u = some "*errors.errorString") : u = 193 :=
 typeName_ptr_named (nm := "errors.errorString") (by rw [star]; kernel_rfl) (by kernel_rfl) (by decide) u (by rw [star]; exact h)
theorem gNam : Tryz.prog.globalNamed "tympan/tympanref08.names" = some 0 := by kernel_rfl
theorem gNamT : (Tryz.prog.globals[0]?).map (·.type) = some 85 := by kernel_rfl
/-- an array of texts that reads as the list holds the list's texts. -/
theorem cells_of_strs {H : Type} {enc : TypeId × Value → H} {P : Program} {w : World} {base : Nat} {sp : Nat → Bool} {held : Bool} {fuel : Nat} {t e : TypeId} {n : Nat} {cs : List Value} {zs : List ByteArray} {p : List MemPlace}
  (ht : P.underlying t = some (.array n e)) (he : P.underlying e = some .string) (hce : P.cellsOf e = 1) (hct : P.cellsOf t = n)
  (h : DataW.trod enc P w base sp held fuel t cs = some (.agg (zs.map fun z => .lit (.string z.data.toList)), p)) : cs = zs.map Value.string := by
 cases fuel with
 | zero => simp [DataW.trod] at h
 | succ fuel =>
  simp only [DataW.trod, ht, hce, hct, Nat.mul_one] at h
  split at h
  ·rename_i hl
   obtain ⟨xs, hm, hx⟩ := Option.map_eq_some_iff.1 h
   have hxs : xs.map (·.1) = zs.map fun z => (DataW.lit (.string z.data.toList) : DataW H) := by
    have := congrArg Prod.fst hx
    simpa using this
   have hxl : xs.length = n := by simpa using Lib.mapM_length hm
   have hzl : zs.length = n := by
    have := congrArg List.length hxs
    simp at this
    omega
   apply List.ext_getElem?
   intro i
   by_cases hi : i < n
   ·obtain ⟨b, hb, hf⟩ := Lib.mapM_at hm i i (by simp [hi])
    obtain ⟨z, hc, rfl, _⟩ := DataW.trod_string he hf
    have h1 : cs[i]? = some (.string z) := by
     have := congrArg (·[0]?) hc
     simpa [List.getElem?_take, List.getElem?_drop] using this
    have h2 : (xs.map (·.1))[i]? = some (DataW.lit (.string z.data.toList) : DataW H) := by simp [hb]
    rw [hxs] at h2
    simp only [List.getElem?_map, Option.map_eq_some_iff, DataW.lit.injEq, Lit.string.injEq] at h2
    obtain ⟨z', hz', he'⟩ := h2
    obtain rfl : z' = z := ByteArray.ext (Array.toList_inj.1 he')
    simp [h1, hz']
   ·rw [List.getElem?_eq_none (by omega), List.getElem?_eq_none (by simp; omega)]
  ·cases h
theorem names_of {W : World} {rest : List (String × DataW Unit)} (h : laidMet Tryz.prog (("tympan/tympanref08.names", Rows.laid_tympan_tympanref08_names) :: rest) W) : ∃ ty fz, W.heap[0]? = some (.cells (nmL.map Value.string).toArray ty fz) := by
 obtain ⟨ps, ⟨g', t', cs, fuel, p, q, hg', ht', hvar, hd, _, _⟩, _⟩ := h
 obtain rfl := Option.some.inj (Eq.trans (Eq.symm gNam) hg')
 obtain rfl := Option.some.inj (Eq.trans (Eq.symm gNamT) ht')
 have hc := cells_of_strs (zs := nmL) (n := 8) (e := 9) (by kernel_rfl) (by kernel_rfl) (by kernel_rfl) (by kernel_rfl) hd
 obtain rfl : cs = (nmL.map Value.string).toArray := by rw [← hc]
 unfold World.var? at hvar
 rw [gNam] at hvar
 simp only [Option.bind_some] at hvar
 split at hvar
 ·rename_i cs ty fz he
  cases hvar
  exact ⟨ty, fz, he⟩
 ·cases hvar
theorem glob_of {W : World} (h : laidMetH Tryz.prog Rows.proofTextsRow.laid W) (hs : W.ShapedOpen Tryz.prog) : glob W := by
 rw [MakeChecks.laidMetH_plain _ _ _ (by kernel_rfl)] at h
 have h1 : laidMet Tryz.prog Rows.proofTextsRow.laid.tail W := h.tail
 have h2 : laidMet Tryz.prog Rows.proofTextsRow.laid.tail.tail W := h1.tail
 have h3 : laidMet Tryz.prog Rows.proofTextsRow.laid.tail.tail.tail W := h2.tail
 have h4 : laidMet Tryz.prog Rows.proofTextsRow.laid.tail.tail.tail.tail W := h3.tail
 have h5 : laidMet Tryz.prog Rows.proofTextsRow.laid.tail.tail.tail.tail.tail W := h4.tail
 have h6 : laidMet Tryz.prog Rows.proofTextsRow.laid.tail.tail.tail.tail.tail.tail W := h5.tail
 have u72 : Tryz.prog.underlying 99 = some (.interface #[("Error", 102)]) := by kernel_rfl
 have u170 : Tryz.prog.underlying 193 = some (.pointer 195) := by kernel_rfl
 have u172 : Tryz.prog.underlying 195 = some (.struct #[{ name := "s", type := 9, offset := 0, embedded := false, tag := "", pkgPath := "errors", byteOffset := 0 }]) := by kernel_rfl
 obtain ⟨a0, s0, hv0, -, -, -⟩ := laid_sentinel h5 gRan gRanT u72 rowE u170 u172 rfl rfl Tryz.underlying9 (by kernel_rfl) (by kernel_rfl)
 obtain ⟨a1, s1, hv1, -, -, -⟩ := laid_sentinel h6 gSyn gSynT u72 rowE u170 u172 rfl rfl Tryz.underlying9 (by kernel_rfl) (by kernel_rfl)
 have hp : Lib.TabIs Tryz.prog W "internal/strconv.uint64pow10" .u64 Lib.pow10Tab := Lib.tabIs_of_head (t := 173) (e := 150) (n := 20) gPow gPowT (by kernel_rfl) (by kernel_rfl) (by kernel_rfl) (by kernel_rfl) h2
 refine ⟨hp, ⟨_, by simpa using World.var?_cell gSyn hv1 0, .inr ⟨_, _, rfl⟩⟩, ⟨_, by simpa using World.var?_cell gRan hv0 0, .inr ⟨_, _, rfl⟩⟩, ?_, names_of h3⟩
 exact cell_of_shapedOpen_int (P := Tryz.prog) (g := 1) (t := 3) (zero := #[.int .i64 0]) hs (of_decide_eq_true (by kernel_rfl)) (by kernel_rfl) rfl (by kernel_rfl) (by kernel_rfl) Tryz.underlying3
def val0 : DataW Unit → List Value
 | .lit (.int k z) => [.int k z]
 | _ => []
def val1 : DataW Unit → List Value
 | .agg l => l.flatMap val0
 | d => val0 d
def val2 : DataW Unit → List Value
 | .agg l => l.flatMap val1
 | d => val1 d
def setB (h : Array Obj) (g : Nat) (cs : List Value) : Array Obj := h.modify g fun
 | .cells _ t frozen => .cells cs.toArray t frozen
 | o => o
noncomputable def low : Nat := (World.holding Tryz.prog default ⟨#[], #[], []⟩).heap.size
noncomputable def laidWorld (os : Os) : World :=
 let w0 := World.holding Tryz.prog os ⟨#[.cells #[.string ⟨#[105, 110, 118, 97, 108, 105, 100, 32, 115, 121, 110, 116, 97, 120]⟩] 195, .cells #[.string ⟨#[118, 97, 108, 117, 101, 32, 111, 117, 116, 32, 111, 102, 32, 114, 97, 110, 103, 101]⟩] 195], #[], []⟩
 { w0 with heap := setB (setB (setB (setB (setB (setB (setB (setB w0.heap 0 (nmL.map Value.string)) 2 (val2 Rows.laid_internal_strconv_uint64pow10)) 3 [.iface 193 (.pointer (some ⟨low, 0, none⟩))]) 4 [.iface 193 (.pointer (some ⟨low + 1, 0, none⟩))]) 5 (val2 Rows.laid_unicode_utf8_first)) 6 (val2 Rows.laid_unicode_utf8_acceptRanges)) 7 (val2 Rows.laid_math_bits_deBruijn32tab)) 8 (val2 Rows.laid_math_bits_deBruijn64tab) }
set_option maxRecDepth 100000 in
theorem laid_met (os : Os) (args : Array Value) : laidMet Tryz.prog Rows.proofTextsRow.laid ((laidWorld os).forCall (fun _ _ => 0) ⟨#[], args, []⟩).memory :=
 laidMet_of_run' 8 (by kernel_rfl) (by kernel_rfl)
end Go.Proofs.YtmbemlmkfoblhaaGreatDoor
