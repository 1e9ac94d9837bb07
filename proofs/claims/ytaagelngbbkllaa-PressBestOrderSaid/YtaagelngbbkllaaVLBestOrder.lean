/-
  PressBestOrder: whatever the colours that it is given, it answers true, and its arguments read as they did. No condition.
-/
import Derived.Test.YtaagelngbbkllaaRows
import Derived.Test.YtaagelngbbkllaaVSh9
import Derived.Test.YtaagelngbbkllaaVW37
import Derived.JoinedCond
namespace Go.Proofs.Ytaagelngbbkllaa.pressBestOrder
open Go Go.Vx Go.ChangeShapes Go.WideShapes Go.ChangeAt Go.RowKit
set_option linter.unusedVariables false
set_option linter.unusedSimpArgs false
theorem own : ownKnob Try.prog.godebug = none := by kernel_rfl
theorem shs : Try.f11.params.toList.mapM (shOf Try.prog 9) = some [[.sl [.int .i64], .sl [.sl [.int .i64]]]] := by kernel_rfl
theorem laid : laidOutB Try.prog = true := by kernel_rfl
theorem law (dss : List (List D)) (h : HasShLL [[.sl [.int .i64], .sl [.sl [.int .i64]]]] dss) : Ctr Try.prog 11 (argsSV Try.prog Try.f11.params.toList dss) (fun rr => rr = ⟨.v (.bool true), []⟩) := by
  simp only [HasShLL, HasShL, HasSh] at h
  obtain ⟨_, _, rfl, ⟨_, _, rfl, ⟨els, rfl, hl, he⟩, _, _, rfl, ⟨els2, rfl, hl2, he2⟩, rfl⟩, rfl⟩ := h
  obtain ⟨m, rfl, -⟩ := sh_ints he
  obtain ⟨d, rfl, -⟩ := sh_rows he2
  have e1 : Try.f11.params.toList = [76] := by rw [Try.params11]
  rw [e1]
  simp only [argsSV, argSV, Try.underlying76, ofDL, ofD]
  exact bestLaw_s ⟨m, d⟩
set_option maxRecDepth 100000 in
theorem lifted (os : Os) (started : os.Started) (H : Type) (enc : TypeId × Value → H) :
    ReturnsInHanded {} Try.checked os 11 .any (Rows.pressBestOrderSpec.pre6 enc Try.prog Try.f11 Rows.pressBestOrderRow.domain false) (Rows.pressBestOrderSpec.post enc Try.prog Try.f11 false true false false) := by
  refine returnsInHanded_of_change (C := Try.checked) own started (by kernel_rfl) Try.func11
    (ChangeSpec.witness6 (C := Try.checked) false ⟨#[], #[.agg #[.slice none 0 0, .slice none 0 0]], []⟩ 8 (by kernel_rfl) (by kernel_rfl) (by kernel_rfl) (by kernel_rfl)) ?_
  intro W base args ds gs before hval hW _ _
  refine law_contract laid (by rw [Try.params11]; intro t ht; simp at ht; subst ht; exact ⟨by kernel_rfl, of_decide_eq_true (by kernel_rfl)⟩) rfl (tb := 4) (by kernel_rfl) Try.underlying4 (fun ds hds => ?_) shs law W base args ds gs before hval hW
  rw [Try.params11] at hds
  match ds, hds with
  | [d0], _ => rfl
theorem over : Rows.pressBestOrderRow.holds Try.pinned (OpenSpec.ofChange Rows.pressBestOrderSpec) :=
  OpenClaim.holds_of_wide 11 Try.f11 rfl rfl rfl rfl rfl rfl rfl ⟨rfl, rfl, rfl, rfl, rfl⟩ rfl rfl rfl rfl rfl (by kernel_rfl) Try.func11 (by kernel_rfl)
    (of_decide_eq_true (by kernel_rfl)) (by unfold Func.isWrapper; first | (rw [if_pos (by decide +kernel)]; kernel_rfl) | (rw [if_neg (by decide +kernel)]; exact ⟨rfl, rfl⟩))
    (fun os started H enc _ => lifted os started H enc)
theorem proved : Rows.PressBestOrderSaid := over
end Go.Proofs.Ytaagelngbbkllaa.pressBestOrder
