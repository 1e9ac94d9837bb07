/-
  PressChecks: whatever the jobs, the slices and the set that it is given, it answers true, and its arguments read as they did. No condition.
-/
import Derived.Test.YtaagelngbbkllaaRows
import Derived.Test.YtaagelngbbkllaaVSh9
import Derived.Test.YtaagelngbbkllaaVW42
import Derived.JoinedCond
namespace Go.Proofs.Ytaagelngbbkllaa.pressChecks
open Go Go.Vx Go.ChangeShapes Go.WideShapes Go.ChangeAt Go.RowKit
set_option linter.unusedVariables false
set_option linter.unusedSimpArgs false
theorem own : ownKnob Try.prog.godebug = none := by kernel_rfl
theorem shs : Try.f9.params.toList.mapM (shOf Try.prog 9) = some [[.sl [.str, .int .i64, .int .i64, .int .i64]], [.sl [.int .i64, .int .i64, .int .i64]], [.sl [.int .i64]]] := by kernel_rfl
theorem laid : laidOutB Try.prog = true := by kernel_rfl
theorem law (dss : List (List D)) (h : HasShLL [[.sl [.str, .int .i64, .int .i64, .int .i64]], [.sl [.int .i64, .int .i64, .int .i64]], [.sl [.int .i64]]] dss) : Ctr Try.prog 9 (argsSV Try.prog Try.f9.params.toList dss) (fun rr => rr = ⟨.v (.bool true), []⟩) := by
  simp only [HasShLL, HasShL, HasSh] at h
  obtain ⟨_, _, rfl, ⟨_, _, rfl, ⟨els, rfl, hl, he⟩, rfl⟩, _, _, rfl, ⟨_, _, rfl, ⟨els2, rfl, hl2, he2⟩, rfl⟩, _, _, rfl, ⟨_, _, rfl, ⟨els3, rfl, hl3, he3⟩, rfl⟩, rfl⟩ := h
  obtain ⟨l, rfl, -⟩ := sh_jobs he
  obtain ⟨s, rfl, -⟩ := sh_slots he2
  obtain ⟨o, rfl, -⟩ := sh_ints he3
  have e1 : Try.f9.params.toList = [56, 58, 59] := by rw [Try.params9]
  rw [e1]
  simp only [argsSV, argSV, Try.underlying56, Try.underlying58, Try.underlying59, ofDL, ofD]
  exact checksLaw_s l s o
set_option maxRecDepth 100000 in
theorem lifted (os : Os) (started : os.Started) (H : Type) (enc : TypeId × Value → H) :
    ReturnsInHanded {} Try.checked os 9 .any (Rows.pressChecksSpec.pre6 enc Try.prog Try.f9 Rows.pressChecksRow.domain false) (Rows.pressChecksSpec.post enc Try.prog Try.f9 false true false false) := by
  refine returnsInHanded_of_change (C := Try.checked) own started (by kernel_rfl) Try.func9
    (ChangeSpec.witness6 (C := Try.checked) false ⟨#[], #[.slice none 0 0, .slice none 0 0, .slice none 0 0], []⟩ 8 (by kernel_rfl) (by kernel_rfl) (by kernel_rfl) (by kernel_rfl)) ?_
  intro W base args ds gs before hval hW _ _
  refine law_contract laid (by rw [Try.params9]; intro t ht; simp at ht; rcases ht with rfl | rfl | rfl <;> exact ⟨by kernel_rfl, of_decide_eq_true (by kernel_rfl)⟩) rfl (tb := 4) (by kernel_rfl) Try.underlying4 (fun ds hds => ?_) shs law W base args ds gs before hval hW
  rw [Try.params9] at hds
  match ds, hds with
  | [d0, d1, d2], _ => rfl
theorem over : Rows.pressChecksRow.holds Try.pinned (OpenSpec.ofChange Rows.pressChecksSpec) :=
  OpenClaim.holds_of_wide 9 Try.f9 rfl rfl rfl rfl rfl rfl rfl ⟨rfl, rfl, rfl, rfl, rfl⟩ rfl rfl rfl rfl rfl (by kernel_rfl) Try.func9 (by kernel_rfl)
    (of_decide_eq_true (by kernel_rfl)) (by unfold Func.isWrapper; first | (rw [if_pos (by decide +kernel)]; kernel_rfl) | (rw [if_neg (by decide +kernel)]; exact ⟨rfl, rfl⟩))
    (fun os started H enc _ => lifted os started H enc)
theorem proved : Rows.PressChecksSaid := over
end Go.Proofs.Ytaagelngbbkllaa.pressChecks
