/-
 Chapter 8, walks: the law of inverses.
-/
import Derived.Test.YtenohgpackcjbaaVGF
namespace Go.Proofs.Ytenohgpackcjbaa
open Go Go.Vx
set_option linter.unusedSimpArgs false
set_option linter.unusedVariables false
set_option maxRecDepth 20000
theorem mkErr_of {m : Mk} (h1 : 1 ≤ m.mark ∧ m.mark ≤ 7) (h2 : inR m = true) (h3 : wantB m.mark m.old m.new m.was m.kind = true) (h4 : bdE m = 0) : mkErr m = 0 := by
 rw [mkErr, if_pos h1, if_pos h2, if_pos]
 refine ⟨h3, fun h => ?_, fun h => ?_⟩
 ·rw [bdE, if_pos (.inl h)] at h4; omega
 ·rw [bdE, if_pos (.inr h)] at h4; omega
theorem inR_inv (m : Mk) : inR (invM m) = inR m := rfl
theorem mkErr_inv {m : Mk} (h : mkErr m = 0) : mkErr (invM m) = 0 := by
 obtain ⟨h1, h2, h3, h4⟩ := mk_ok h
 obtain ⟨k, p, w, o, n, a, c⟩ := m
 simp only at h1 h3
 have hb : ∀ x y : Int, ∀ s t : ByteArray, ∀ u v : Int, bdE ⟨x, p, w, s, t, u, v⟩ = if ((x = 5 ∨ x = 6) ∧ w = 0) ∨ (x = 7 ∧ w ≠ 0) then 3 else 0 := fun x y s t u v => by simp [bdE, ptsB]
 rw [hb _ 0] at h4
 have hc : k = 1 ∨ k = 2 ∨ k = 3 ∨ k = 4 ∨ k = 5 ∨ k = 6 ∨ k = 7 := by omega
 refine mkErr_of ?_ (by rw [inR_inv]; exact h2) ?_ ?_
 ·rcases hc with rfl | rfl | rfl | rfl | rfl | rfl | rfl <;> simp [invM, invK]
 ·rcases hc with rfl | rfl | rfl | rfl | rfl | rfl | rfl <;> simp [invM, invK, wantB] at h3 ⊢
  ·exact h3
  ·exact h3
  ·exact ⟨⟨⟨h3.1.1.2, h3.1.1.1⟩, fun e => h3.1.2 e.symm⟩, h3.2⟩
  ·exact ⟨h3.2.1, h3.1, h3.2.2⟩
  ·exact ⟨h3.1, h3.2.2.1, h3.2.1, h3.2.2.2⟩
  ·exact ⟨h3.1, h3.2.2.1, h3.2.1, h3.2.2.2⟩
  ·exact ⟨⟨⟨h3.1.1.2, h3.1.1.1⟩, fun e => h3.1.2 e.symm⟩, h3.2.2, h3.2.1⟩
 ·simp only [invM]
  rw [hb _ 0]
  rcases hc with rfl | rfl | rfl | rfl | rfl | rfl | rfl <;> simp [invK] at h4 ⊢ <;> omega
end Go.Proofs.Ytenohgpackcjbaa
