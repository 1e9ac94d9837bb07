/-
 Chapter 8, walks: the law of inverses.
-/
import Derived.Test.YtenohgpackcjbaaVGF
namespace Go.Proofs.Ytenohgpackcjbaa
open Go Go.Vx
set_option linter.unusedSimpArgs false
set_option linter.unusedVariables false
set_option maxRecDepth 20000
theorem mkErr_of {m : Mk} (h1 : 1 ≤ m.mark ∧ m.mark ≤ 7) (h2 : inR m = true) (h3 : wantB m.mark m.old m.new m.was m.kind = true) (h4 : bdE m = 0) : mkErr m = 0 := by
 rw [mkErr, if_pos h1, if_pos h2, if_pos]
 refine ⟨h3, fun h => ?_, fun h => ?_⟩
 ·rw [bdE, if_pos (.inl h)] at h4; omega
 ·rw [bdE, if_pos (.inr h)] at h4; omega
end Go.Proofs.Ytenohgpackcjbaa
