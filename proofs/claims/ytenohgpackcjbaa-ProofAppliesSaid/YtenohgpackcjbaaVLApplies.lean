/-
  ProofApplies: whatever the copy and the mark that it is given, it answers true, and its arguments read as they did. No condition.
-/
import Derived.Test.YtenohgpackcjbaaRows
import Derived.Test.YtenohgpackcjbaaVSh8
import Derived.Test.YtenohgpackcjbaaVGP
import Derived.JoinedCond
namespace Go.Proofs.Ytenohgpackcjbaa.proofApplies
open Go Go.Vx Go.ChangeShapes Go.WideShapes Go.ChangeAt Go.RowKit
set_option linter.unusedVariables false
set_option linter.unusedSimpArgs false
theorem own : ownKnob Try.prog.godebug = none := by kernel_rfl
theorem shs : Try.f3.params.toList.mapM (shOf Try.prog 9) = some [[.sl [.int .i64, .sl [.str]]], [.int .i64, .int .i64, .int .i64, .str, .str, .int .i64, .int .i64]] := by kernel_rfl
theorem laid : laidOutB Try.prog = true := by kernel_rfl
theorem law (dss : List (List D)) (h : HasShLL [[.sl [.int .i64, .sl [.str]]], [.int .i64, .int .i64, .int .i64, .str, .str, .int .i64, .int .i64]] dss) : Ctr Try.prog 3 (argsSV Try.prog Try.f3.params.toList dss) (fun rr => rr = ⟨.v (.bool true), []⟩) := by
  simp only [HasShLL, HasShL, HasSh] at h
  obtain ⟨_, _, rfl, ⟨_, _, rfl, ⟨x0s, rfl, x0l, x0h⟩, rfl⟩, _, _, rfl, ⟨_, _, rfl, ⟨x1a, rfl, -⟩, _, _, rfl, ⟨x1b, rfl, -⟩, _, _, rfl, ⟨x1c, rfl, x1w⟩, _, _, rfl, ⟨x1s, rfl, -⟩, _, _, rfl, ⟨x1t, rfl, -⟩, _, _, rfl, ⟨x1d, rfl, -⟩, _, _, rfl, ⟨x1e, rfl, -⟩, rfl⟩, rfl⟩ := h
  obtain ⟨x0, rfl, x0i⟩ := sh_copy x0h
  have e1 : Try.f3.params.toList = [22, 24] := by rw [Try.params3]
  rw [e1]
  simp only [argsSV, argSV, Try.underlying22, Try.underlying24, ofDL, ofD]
  exact appliesLaw_s x0 ⟨x1a, x1b, x1c, x1s, x1t, x1d, x1e⟩ (by simpa using x0l) (fun p hp => (x0i p hp).2)
set_option maxRecDepth 100000 in
theorem lifted (os : Os) (started : os.Started) (H : Type) (enc : TypeId × Value → H) :
    ReturnsInHanded {} Try.checked os 3 .any (Rows.proofAppliesSpec.pre6 enc Try.prog Try.f3 Rows.proofAppliesRow.domain false) (Rows.proofAppliesSpec.post enc Try.prog Try.f3 false true false false) := by
  refine returnsInHanded_of_change (C := Try.checked) own started (by kernel_rfl) Try.func3
    (ChangeSpec.witness6 (C := Try.checked) false ⟨#[], #[.slice none 0 0, .agg #[.int .i64 0, .int .i64 0, .int .i64 0, .string ⟨#[]⟩, .string ⟨#[]⟩, .int .i64 0, .int .i64 0]], []⟩ 8 (by kernel_rfl) (by kernel_rfl) (by kernel_rfl) (by kernel_rfl)) ?_
  intro W base args ds gs before hval hW _ _
  refine law_contract laid (by rw [Try.params3]; intro t ht; simp at ht; rcases ht with rfl | rfl <;> exact ⟨by kernel_rfl, of_decide_eq_true (by kernel_rfl)⟩) rfl (tb := 4) (by kernel_rfl) Try.underlying4 (fun ds hds => ?_) shs law W base args ds gs before hval hW
  rw [Try.params3] at hds
  match ds, hds with
  | [d0, d1], _ => rfl
theorem over : Rows.proofAppliesRow.holds Try.pinned (OpenSpec.ofChange Rows.proofAppliesSpec) :=
  OpenClaim.holds_of_wide 3 Try.f3 rfl rfl rfl rfl rfl rfl rfl ⟨rfl, rfl, rfl, rfl, rfl⟩ rfl rfl rfl rfl rfl (by kernel_rfl) Try.func3 (by kernel_rfl)
    (of_decide_eq_true (by kernel_rfl)) (by unfold Func.isWrapper; first | (rw [if_pos (by decide +kernel)]; kernel_rfl) | (rw [if_neg (by decide +kernel)]; exact ⟨rfl, rfl⟩))
    (fun os started H enc _ => lifted os started H enc)
theorem proved : Rows.ProofAppliesSaid := over
end Go.Proofs.Ytenohgpackcjbaa.proofApplies
