/-
  TopLeastEdits: whatever the words and the marks that it is given, it answers true, and its arguments read as they did. No condition.
-/
import Derived.Test.YtmiibjncomgneaaRows
import Derived.Test.YtmiibjncomgneaaVSh8
import Derived.Test.YtmiibjncomgneaaVW67
import Derived.JoinedCond
namespace Go.Proofs.Ytmiibjncomgneaa.topLeastEdits
open Go Go.Vx Go.ChangeShapes Go.WideShapes Go.ChangeAt Go.RowKit
set_option linter.unusedVariables false
set_option linter.unusedSimpArgs false
theorem own : ownKnob Try.prog.godebug = none := by kernel_rfl
theorem shs : Try.f3.params.toList.mapM (shOf Try.prog 9) = some [[.sl [.str]], [.sl [.int .i64, .int .i64, .int .i64, .str, .str, .int .i64, .int .i64]]] := by kernel_rfl
theorem laid : laidOutB Try.prog = true := by kernel_rfl
theorem law (dss : List (List D)) (h : HasShLL [[.sl [.str]], [.sl [.int .i64, .int .i64, .int .i64, .str, .str, .int .i64, .int .i64]]] dss) : Ctr Try.prog 3 (argsSV Try.prog Try.f3.params.toList dss) (fun rr => rr = ⟨.v (.bool true), []⟩) := by
  simp only [HasShLL, HasShL, HasSh] at h
  obtain ⟨_, _, rfl, ⟨_, _, rfl, ⟨x0s, rfl, x0l, x0h⟩, rfl⟩, _, _, rfl, ⟨_, _, rfl, ⟨x1s, rfl, x1l, x1h⟩, rfl⟩, rfl⟩ := h
  obtain ⟨x0, rfl, x0i⟩ := sh_strs x0h
  obtain ⟨x1, rfl, x1i⟩ := sh_marks x1h
  have e1 : Try.f3.params.toList = [22, 23] := by rw [Try.params3]
  rw [e1]
  simp only [argsSV, argSV, Try.underlying22, Try.underlying23, ofDL, ofD]
  exact leastEditsLaw_s x0 x1 (by simpa using x0l) (by simpa using x1l)
set_option maxRecDepth 100000 in
theorem lifted (os : Os) (started : os.Started) (H : Type) (enc : TypeId × Value → H) :
    ReturnsInHanded {} Try.checked os 3 .any (Rows.topLeastEditsSpec.pre6 enc Try.prog Try.f3 Rows.topLeastEditsRow.domain false) (Rows.topLeastEditsSpec.post enc Try.prog Try.f3 false true false false) := by
  refine returnsInHanded_of_change (C := Try.checked) own started (by kernel_rfl) Try.func3
    (ChangeSpec.witness6 (C := Try.checked) false ⟨#[], #[.slice none 0 0, .slice none 0 0], []⟩ 8 (by kernel_rfl) (by kernel_rfl) (by kernel_rfl) (by kernel_rfl)) ?_
  intro W base args ds gs before hval hW _ _
  refine law_contract laid (by rw [Try.params3]; intro t ht; simp at ht; rcases ht with rfl | rfl <;> exact ⟨by kernel_rfl, of_decide_eq_true (by kernel_rfl)⟩) rfl (tb := 4) (by kernel_rfl) Try.underlying4 (fun ds hds => ?_) shs law W base args ds gs before hval hW
  rw [Try.params3] at hds
  match ds, hds with
  | [d0, d1], _ => rfl
theorem over : Rows.topLeastEditsRow.holds Try.pinned (OpenSpec.ofChange Rows.topLeastEditsSpec) :=
  OpenClaim.holds_of_wide 3 Try.f3 rfl rfl rfl rfl rfl rfl rfl ⟨rfl, rfl, rfl, rfl, rfl⟩ rfl rfl rfl rfl rfl (by kernel_rfl) Try.func3 (by kernel_rfl)
    (of_decide_eq_true (by kernel_rfl)) (by unfold Func.isWrapper; first | (rw [if_pos (by decide +kernel)]; kernel_rfl) | (rw [if_neg (by decide +kernel)]; exact ⟨rfl, rfl⟩))
    (fun os started H enc _ => lifted os started H enc)
theorem proved : Rows.TopLeastEditsSaid := over
end Go.Proofs.Ytmiibjncomgneaa.topLeastEdits
