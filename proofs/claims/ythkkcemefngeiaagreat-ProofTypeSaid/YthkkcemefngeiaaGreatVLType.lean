/-
  ProofType: whatever the two copies and the two lists of sorts that it is given, it answers true, and its arguments read as they did. No condition.
-/
import Derived.Test.YthkkcemefngeiaaGreatRows
import Derived.Test.YthkkcemefngeiaaGreatVSh8
import Derived.Test.YthkkcemefngeiaaGreatVW76
import Derived.JoinedCond
namespace Go.Proofs.YthkkcemefngeiaaGreat.proofType
open Go Go.Vx Go.ChangeShapes Go.WideShapes Go.ChangeAt Go.RowKit
set_option linter.unusedVariables false
set_option linter.unusedSimpArgs false
theorem own : ownKnob Tryz.prog.godebug = none := by kernel_rfl
theorem shs : Tryz.f3.params.toList.mapM (shOf Tryz.prog 9) = some [[.sl [.int .i64, .sl [.str]], .sl [.int .i64, .sl [.str]], .sl [.int .i64], .sl [.int .i64]]] := by kernel_rfl
theorem laid : laidOutB Tryz.prog = true := by kernel_rfl
theorem law (dss : List (List D)) (h : HasShLL [[.sl [.int .i64, .sl [.str]], .sl [.int .i64, .sl [.str]], .sl [.int .i64], .sl [.int .i64]]] dss) : Ctr Tryz.prog 3 (argsSV Tryz.prog Tryz.f3.params.toList dss) (fun rr => rr = ⟨.v (.bool true), []⟩) := by
  simp only [HasShLL, HasShL, HasSh] at h
  obtain ⟨_, _, rfl, ⟨_, _, rfl, ⟨x0s, rfl, x0l, x0h⟩, _, _, rfl, ⟨x0t, rfl, x0m, x0g⟩, _, _, rfl, ⟨x0u, rfl, x0n, x0f⟩, _, _, rfl, ⟨x0v, rfl, x0o, x0e⟩, rfl⟩, rfl⟩ := h
  obtain ⟨x0, rfl, x0i⟩ := sh_copy x0h
  obtain ⟨x0q, rfl, x0j⟩ := sh_copy x0g
  obtain ⟨x0a, rfl, x0k⟩ := sh_ints x0f
  obtain ⟨x0b, rfl, x0c⟩ := sh_ints x0e
  have e1 : Tryz.f3.params.toList = [25] := by rw [Tryz.params3]
  rw [e1]
  simp only [argsSV, argSV, Tryz.underlying25, ofDL, ofD]
  exact typeLaw_s x0 x0q x0a x0b (by simpa using x0l) (by simpa using x0m) (fun p hp => (x0i p hp).2) (fun p hp => (x0j p hp).2) (by simpa using x0n) (by simpa using x0o)
set_option maxRecDepth 100000 in
theorem lifted (os : Os) (started : os.Started) (H : Type) (enc : TypeId × Value → H) :
    ReturnsInHanded {} Tryz.checked os 3 .any (Rows.proofTypeSpec.pre6 enc Tryz.prog Tryz.f3 Rows.proofTypeRow.domain false) (Rows.proofTypeSpec.post enc Tryz.prog Tryz.f3 false true false false) := by
  refine returnsInHanded_of_change (C := Tryz.checked) own started (by kernel_rfl) Tryz.func3
    (ChangeSpec.witness6 (C := Tryz.checked) false ⟨#[], #[.agg #[.slice none 0 0, .slice none 0 0, .slice none 0 0, .slice none 0 0]], []⟩ 8 (by kernel_rfl) (by kernel_rfl) (by kernel_rfl) (by kernel_rfl)) ?_
  intro W base args ds gs before hval hW _ _
  refine law_contract laid (by rw [Tryz.params3]; intro t ht; simp at ht; subst ht; exact ⟨by kernel_rfl, of_decide_eq_true (by kernel_rfl)⟩) rfl (tb := 4) (by kernel_rfl) Tryz.underlying4 (fun ds hds => ?_) shs law W base args ds gs before hval hW
  rw [Tryz.params3] at hds
  match ds, hds with
  | [d0], _ => rfl
theorem over : Rows.proofTypeRow.holds Tryz.pinned (OpenSpec.ofChange Rows.proofTypeSpec) :=
  OpenClaim.holds_of_wide 3 Tryz.f3 rfl rfl rfl rfl rfl rfl rfl ⟨rfl, rfl, rfl, rfl, rfl⟩ rfl rfl rfl rfl rfl (by kernel_rfl) Tryz.func3 (by kernel_rfl)
    (of_decide_eq_true (by kernel_rfl)) (by unfold Func.isWrapper; first | (rw [if_pos (by decide +kernel)]; kernel_rfl) | (rw [if_neg (by decide +kernel)]; exact ⟨rfl, rfl⟩))
    (fun os started H enc _ => lifted os started H enc)
theorem proved : Rows.ProofTypeSaid := over
end Go.Proofs.YthkkcemefngeiaaGreat.proofType
