/-
 Chapter 8, walks: two marks in either order come to the same copy.
-/
import Derived.Test.YtenohgpackcjbaaVP8T
import Derived.Test.YtenohgpackcjbaaVGN
namespace Go.Proofs.Ytenohgpackcjbaa
open Go Go.Vx
set_option linter.unusedSimpArgs false
set_option linter.unusedVariables false
set_option maxRecDepth 20000
theorem apAll2_ok {l : List Pt} {ms : List Mk} (h : (apAll l ms).2.2 = 0) : (partsErr (apAll l ms).1).2 = 0 ∧ RPs ms l (apAll l ms).1 := by
 unfold apAll at h ⊢
 by_cases h0 : (partsErr l).2 = 0
 ·rw [if_pos h0] at h ⊢
  by_cases h1 : lstErr ms = 0
  ·rw [if_pos h1] at h ⊢
   obtain ⟨e1, e2⟩ := apF_RPs (lstA h1).2 h
   exact ⟨e2 h0, e1⟩
  ·rw [if_neg h1] at h; exact absurd h h1
 ·rw [if_neg h0] at h; exact absurd h h0
end Go.Proofs.Ytenohgpackcjbaa
