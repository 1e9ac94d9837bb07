/-
 Chapter 8, plain: marks of edits, and what they come to.
-/
import Derived.Test.YtmiibjncomgneaaVP8T
import Derived.Test.YtmiibjncomgneaaVGL
import Derived.Test.YtmiibjncomgneaaVW28
namespace Go.Proofs.Ytmiibjncomgneaa
open Go Go.Vx
set_option linter.unusedSimpArgs false
set_option linter.unusedVariables false
/-- the mark of an edit, if it is one. -/
def moM (part : Int) (a b : List ByteArray) (x : Ed) (k : Nat) : Option Mk :=
 if x.to = -1 then some ⟨1, part, k, a.getD x.fr.toNat em, em, 0, 0⟩
 else if x.fr = -1 then some ⟨2, part, k, em, b.getD x.to.toNat em, 0, 0⟩
 else if a.getD x.fr.toNat em ≠ b.getD x.to.toNat em then some ⟨3, part, k, a.getD x.fr.toNat em, b.getD x.to.toNat em, 0, 0⟩ else none
def moL (part : Int) (a b : List ByteArray) : List Ed → Nat → List Mk
 | [], _ => []
 | x :: l, k => (moM part a b x k).toList ++ moL part a b l (nxI x.to k)
/-- words that may be compared. -/
def GoodW (s : ByteArray) : Prop := isWd s = true ∧ isMk s = false
/-- one step of right edits. -/
theorem edF_step {a b : List ByteArray} {x : Ed} {l : List Ed} {i k c : Nat} (h : (edF a b (x :: l) i k c).2 = 0) :
  (edF a b (x :: l) i k c = edF a b l (nxI x.fr i) (nxI x.to k) (c + edC a b x i k)) ∧
  ((x.to = -1 ∧ (x.fr = i ∧ i < a.length)) ∨ (x.fr = -1 ∧ (x.to = k ∧ k < b.length)) ∨ ((x.fr = i ∧ i < a.length) ∧ (x.to = k ∧ k < b.length))) := by
 rw [edF] at h ⊢
 by_cases h1 : x.fr = -1 ∧ x.to = -1
 ·rw [if_pos h1] at h; simp at h
 ·rw [if_neg h1] at h ⊢
  by_cases h2 : nxOk x.fr i a.length = true ∧ nxOk x.to k b.length = true
  ·rw [if_pos h2]
   refine ⟨rfl, ?_⟩
   simp only [nxOk, Bool.or_eq_true, Bool.and_eq_true, decide_eq_true_eq] at h2
   omega
  ·rw [if_neg h2] at h; simp at h
theorem nxI_m (i : Nat) : nxI (-1) i = i := by rw [nxI, if_pos rfl]
theorem nxI_s (n : Int) (i : Nat) (h : n = i) : nxI n i = i + 1 := by rw [nxI, if_neg (by omega)]
theorem edC_m {a b : List ByteArray} {x : Ed} {i k : Nat} (h : x.fr = -1 ∨ x.to = -1) : edC a b x i k = 1 := by
 rw [edC, if_pos (by rcases h with h | h; exact .inl h; exact .inr (.inl h))]
theorem moL_len {part : Int} {a b : List ByteArray} : ∀ (l : List Ed) (i k c : Nat), (edF a b l i k c).2 = 0 → ((moL part a b l k).length : Int) + c = (edF a b l i k c).1
 | [], i, k, c, h => by
  rw [edF] at h ⊢
  by_cases h1 : i = a.length ∧ k = b.length
  ·rw [if_pos h1]; simp [moL]
  ·rw [if_neg h1] at h; simp at h
 | x :: l, i, k, c, h => by
  obtain ⟨he, hc⟩ := edF_step h
  rw [he] at h ⊢
  have := moL_len (part := part) l _ _ _ h
  have hm : (moM part a b x k).toList.length = edC a b x i k := by
   rcases hc with ⟨h1, h2, h3⟩ | ⟨h1, h2, h3⟩ | ⟨⟨h1, h2⟩, h3, h4⟩
   ·rw [edC_m (.inr h1), moM, if_pos h1]; rfl
   ·rw [edC_m (.inl h1), moM, if_neg (by omega), if_pos h1]; rfl
   ·rw [moM, if_neg (by omega), if_neg (by omega), edC, h1, h3]
    simp only [Int.toNat_natCast, List.getD_eq_getElem?_getD, List.getElem?_eq_getElem h2, List.getElem?_eq_getElem h4, Option.getD_some]
    by_cases hab : a[i] = b[k]
    ·rw [if_neg (by simp [hab]), if_neg (by simp [hab])]; rfl
    ·rw [if_pos hab, if_pos (by simp [hab])]; rfl
  rw [moL, List.length_append, hm]
  omega
end Go.Proofs.Ytmiibjncomgneaa
