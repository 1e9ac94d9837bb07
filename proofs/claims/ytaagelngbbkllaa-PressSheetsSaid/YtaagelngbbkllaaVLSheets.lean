/-
  PressSheets: whatever the number of good sheets, the spoil and the risk that it is given, it answers true, and its arguments read as they did. No condition.
-/
import Derived.Test.YtaagelngbbkllaaRows
import Derived.Test.YtaagelngbbkllaaVSh9
import Derived.Test.YtaagelngbbkllaaVW44
import Derived.JoinedCond
namespace Go.Proofs.Ytaagelngbbkllaa.pressSheets
open Go Go.Vx Go.ChangeShapes Go.WideShapes Go.ChangeAt Go.RowKit
set_option linter.unusedVariables false
set_option linter.unusedSimpArgs false
theorem own : ownKnob Try.prog.godebug = none := by kernel_rfl
theorem shs : Try.f8.params.toList.mapM (shOf Try.prog 9) = some [[.int .i64], [.int .i64, .int .i64], [.int .i64, .int .i64]] := by kernel_rfl
theorem laid : laidOutB Try.prog = true := by kernel_rfl
theorem law (dss : List (List D)) (h : HasShLL [[.int .i64], [.int .i64, .int .i64], [.int .i64, .int .i64]] dss) : Ctr Try.prog 8 (argsSV Try.prog Try.f8.params.toList dss) (fun rr => rr = ⟨.v (.bool true), []⟩) := by
  simp only [HasShLL, HasShL, HasSh] at h
  obtain ⟨_, _, rfl, ⟨_, _, rfl, ⟨g, rfl, -⟩, rfl⟩, _, _, rfl, ⟨_, _, rfl, ⟨a, rfl, -⟩, _, _, rfl, ⟨b, rfl, hb⟩, rfl⟩, _, _, rfl, ⟨_, _, rfl, ⟨c, rfl, -⟩, _, _, rfl, ⟨d, rfl, hd⟩, rfl⟩, rfl⟩ := h
  have hb2 := wf_i64 hb
  unfold I64 at hb2
  have hd2 := wf_i64 hd
  unfold I64 at hd2
  have e1 : Try.f8.params.toList = [3, 40, 40] := by rw [Try.params8]
  rw [e1]
  simp only [argsSV, argSV, Try.underlying3, Try.underlying40, ofDL, ofD]
  exact sheetsLaw_s g a b c d hb2.2 hd2.2
set_option maxRecDepth 100000 in
theorem lifted (os : Os) (started : os.Started) (H : Type) (enc : TypeId × Value → H) :
    ReturnsInHanded {} Try.checked os 8 .any (Rows.pressSheetsSpec.pre6 enc Try.prog Try.f8 Rows.pressSheetsRow.domain false) (Rows.pressSheetsSpec.post enc Try.prog Try.f8 false true false false) := by
  refine returnsInHanded_of_change (C := Try.checked) own started (by kernel_rfl) Try.func8
    (ChangeSpec.witness6 (C := Try.checked) false ⟨#[], #[.int .i64 0, .agg #[.int .i64 0, .int .i64 0], .agg #[.int .i64 0, .int .i64 0]], []⟩ 8 (by kernel_rfl) (by kernel_rfl) (by kernel_rfl) (by kernel_rfl)) ?_
  intro W base args ds gs before hval hW _ _
  refine law_contract laid (by rw [Try.params8]; intro t ht; simp at ht; rcases ht with rfl | rfl | rfl <;> exact ⟨by kernel_rfl, of_decide_eq_true (by kernel_rfl)⟩) rfl (tb := 4) (by kernel_rfl) Try.underlying4 (fun ds hds => ?_) shs law W base args ds gs before hval hW
  rw [Try.params8] at hds
  match ds, hds with
  | [d0, d1, d2], _ => rfl
theorem over : Rows.pressSheetsRow.holds Try.pinned (OpenSpec.ofChange Rows.pressSheetsSpec) :=
  OpenClaim.holds_of_wide 8 Try.f8 rfl rfl rfl rfl rfl rfl rfl ⟨rfl, rfl, rfl, rfl, rfl⟩ rfl rfl rfl rfl rfl (by kernel_rfl) Try.func8 (by kernel_rfl)
    (of_decide_eq_true (by kernel_rfl)) (by unfold Func.isWrapper; first | (rw [if_pos (by decide +kernel)]; kernel_rfl) | (rw [if_neg (by decide +kernel)]; exact ⟨rfl, rfl⟩))
    (fun os started H enc _ => lifted os started H enc)
theorem proved : Rows.PressSheetsSaid := over
end Go.Proofs.Ytaagelngbbkllaa.pressSheets
