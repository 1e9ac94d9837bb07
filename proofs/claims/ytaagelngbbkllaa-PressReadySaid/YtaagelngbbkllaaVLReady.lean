/-
  PressReady: whatever the table and the order that it is given, it answers true, and its arguments read as they did. No condition.
-/
import Derived.Test.YtaagelngbbkllaaRows
import Derived.Test.YtaagelngbbkllaaVSh9
import Derived.Test.YtaagelngbbkllaaVW33
import Derived.JoinedCond
namespace Go.Proofs.Ytaagelngbbkllaa.pressReady
open Go Go.Vx Go.ChangeShapes Go.WideShapes Go.ChangeAt Go.RowKit
set_option linter.unusedVariables false
set_option linter.unusedSimpArgs false
theorem own : ownKnob Try.prog.godebug = none := by kernel_rfl
theorem shs : Try.f13.params.toList.mapM (shOf Try.prog 9) = some [[.sl [.sl [.int .i64]]], [.sl [.int .i64]]] := by kernel_rfl
theorem laid : laidOutB Try.prog = true := by kernel_rfl
theorem law (dss : List (List D)) (h : HasShLL [[.sl [.sl [.int .i64]]], [.sl [.int .i64]]] dss) : Ctr Try.prog 13 (argsSV Try.prog Try.f13.params.toList dss) (fun rr => rr = ⟨.v (.bool true), []⟩) := by
  simp only [HasShLL, HasShL, HasSh] at h
  obtain ⟨_, _, rfl, ⟨_, _, rfl, ⟨els2, rfl, hl2, he2⟩, rfl⟩, _, _, rfl, ⟨_, _, rfl, ⟨els3, rfl, hl3, he3⟩, rfl⟩, rfl⟩ := h
  obtain ⟨d, rfl, -⟩ := sh_rows he2
  obtain ⟨o, rfl, -⟩ := sh_ints he3
  have e1 : Try.f13.params.toList = [74, 59] := by rw [Try.params13]
  rw [e1]
  simp only [argsSV, argSV, Try.underlying59, Try.underlying74, ofDL, ofD]
  exact readyLaw_s d o
set_option maxRecDepth 100000 in
theorem lifted (os : Os) (started : os.Started) (H : Type) (enc : TypeId × Value → H) :
    ReturnsInHanded {} Try.checked os 13 .any (Rows.pressReadySpec.pre6 enc Try.prog Try.f13 Rows.pressReadyRow.domain false) (Rows.pressReadySpec.post enc Try.prog Try.f13 false true false false) := by
  refine returnsInHanded_of_change (C := Try.checked) own started (by kernel_rfl) Try.func13
    (ChangeSpec.witness6 (C := Try.checked) false ⟨#[], #[.slice none 0 0, .slice none 0 0], []⟩ 8 (by kernel_rfl) (by kernel_rfl) (by kernel_rfl) (by kernel_rfl)) ?_
  intro W base args ds gs before hval hW _ _
  refine law_contract laid (by rw [Try.params13]; intro t ht; simp at ht; rcases ht with rfl | rfl <;> exact ⟨by kernel_rfl, of_decide_eq_true (by kernel_rfl)⟩) rfl (tb := 4) (by kernel_rfl) Try.underlying4 (fun ds hds => ?_) shs law W base args ds gs before hval hW
  rw [Try.params13] at hds
  match ds, hds with
  | [d0, d1], _ => rfl
theorem over : Rows.pressReadyRow.holds Try.pinned (OpenSpec.ofChange Rows.pressReadySpec) :=
  OpenClaim.holds_of_wide 13 Try.f13 rfl rfl rfl rfl rfl rfl rfl ⟨rfl, rfl, rfl, rfl, rfl⟩ rfl rfl rfl rfl rfl (by kernel_rfl) Try.func13 (by kernel_rfl)
    (of_decide_eq_true (by kernel_rfl)) (by unfold Func.isWrapper; first | (rw [if_pos (by decide +kernel)]; kernel_rfl) | (rw [if_neg (by decide +kernel)]; exact ⟨rfl, rfl⟩))
    (fun os started H enc _ => lifted os started H enc)
theorem proved : Rows.PressReadySaid := over
end Go.Proofs.Ytaagelngbbkllaa.pressReady
