/-
  ImposeFinds: whatever the scheme that it is given, it answers true, and its arguments read as they did. No condition.
-/
import Derived.Test.YtfpkpokkgbobmaaRows
import Derived.Test.YtfpkpokkgbobmaaVSh6
import Derived.Test.YtfpkpokkgbobmaaVW45
import Derived.JoinedCond
namespace Go.Proofs.Ytfpkpokkgbobmaa.imposeFinds
open Go Go.Vx Go.ChangeShapes Go.WideShapes Go.ChangeAt Go.RowKit
set_option linter.unusedVariables false
set_option linter.unusedSimpArgs false
theorem own : ownKnob Try.prog.godebug = none := by kernel_rfl
theorem shs : Try.f12.params.toList.mapM (shOf Try.prog 9) = some [[.int .i64, .int .i64, .sl [.int .i64, .int .i64, .int .i64, .int .i64]]] := by kernel_rfl
theorem laid : laidOutB Try.prog = true := by kernel_rfl
theorem law (dss : List (List D)) (h : HasShLL [[.int .i64, .int .i64, .sl [.int .i64, .int .i64, .int .i64, .int .i64]]] dss) : Ctr Try.prog 12 (argsSV Try.prog Try.f12.params.toList dss) (fun rr => rr = ⟨.v (.bool true), []⟩) := by
  simp only [HasShLL, HasShL, HasSh] at h
  obtain ⟨_, _, rfl, ⟨_, _, rfl, ⟨c, rfl, -⟩, _, _, rfl, ⟨r, rfl, -⟩, _, _, rfl, ⟨els, rfl, hl, he⟩, rfl⟩, rfl⟩ := h
  obtain ⟨l, rfl, -⟩ := sh_cells he
  have e1 : Try.f12.params.toList = [77] := by rw [Try.params12]
  rw [e1]
  simp only [argsSV, argSV, Try.underlying77, ofDL, ofD]
  exact findsLaw_s false c r l
set_option maxRecDepth 100000 in
theorem lifted (os : Os) (started : os.Started) (H : Type) (enc : TypeId × Value → H) :
    ReturnsInHanded {} Try.checked os 12 .any (Rows.imposeFindsSpec.pre6 enc Try.prog Try.f12 Rows.imposeFindsRow.domain false) (Rows.imposeFindsSpec.post enc Try.prog Try.f12 false true false false) := by
  refine returnsInHanded_of_change (C := Try.checked) own started (by kernel_rfl) Try.func12
    (ChangeSpec.witness6 (C := Try.checked) false ⟨#[], #[.agg #[.int .i64 0, .int .i64 0, .slice none 0 0]], []⟩ 8 (by kernel_rfl) (by kernel_rfl) (by kernel_rfl) (by kernel_rfl)) ?_
  intro W base args ds gs before hval hW _ _
  refine law_contract laid (by rw [Try.params12]; intro t ht; simp at ht; subst ht; exact ⟨by kernel_rfl, of_decide_eq_true (by kernel_rfl)⟩) rfl (tb := 4) (by kernel_rfl) Try.underlying4 (fun ds hds => ?_) shs law W base args ds gs before hval hW
  rw [Try.params12] at hds
  match ds, hds with
  | [d1], _ => rfl
theorem over : Rows.imposeFindsRow.holds Try.pinned (OpenSpec.ofChange Rows.imposeFindsSpec) :=
  OpenClaim.holds_of_wide 12 Try.f12 rfl rfl rfl rfl rfl rfl rfl ⟨rfl, rfl, rfl, rfl, rfl⟩ rfl rfl rfl rfl rfl (by kernel_rfl) Try.func12 (by kernel_rfl)
    (of_decide_eq_true (by kernel_rfl)) (by unfold Func.isWrapper; first | (rw [if_pos (by decide +kernel)]; kernel_rfl) | (rw [if_neg (by decide +kernel)]; exact ⟨rfl, rfl⟩))
    (fun os started H enc _ => lifted os started H enc)
theorem proved : Rows.ImposeFindsSaid := over
end Go.Proofs.Ytfpkpokkgbobmaa.imposeFinds
