/-
 Chapter 8, plain: what a mark does to a copy, as an exchange of pieces.
-/
import Derived.Test.YtenohgpackcjbaaVP8D
import Derived.Test.YtenohgpackcjbaaVGN
namespace Go.Proofs.Ytenohgpackcjbaa
open Go Go.Vx
set_option linter.unusedSimpArgs false
set_option linter.unusedVariables false
theorem apV_mid {P Q : List Pt} {p : Pt} {m : Mk} (hp : m.part = (P.length : Int)) : apV (P ++ p :: Q) m =
  if (if m.mark = 2 then (p.words.length : Int) else if m.mark = 4 then (p.words.length : Int) - 2 else if m.mark = 6 then 100 else if m.mark = 7 then 0 else (p.words.length : Int) - 1) < m.word ∨ (m.mark = 6 ∧ m.part = (P ++ p :: Q).length - 1) then ([], 6)
  else if ((m.mark = 1 ∨ m.mark = 3) ∧ p.words.getD m.word.toNat em ≠ m.old) ∨ (m.mark = 6 ∧ ((p.words.length : Int) ≠ m.word ∨ ((P ++ p :: Q).getD (P.length + 1) ⟨0, []⟩).kind ≠ m.kind)) ∨ (m.mark = 7 ∧ p.kind ≠ m.was) then ([], 13)
  else chk (apL (P ++ p :: Q) m P.length m.word.toNat p) := by
 have e : (P ++ p :: Q)[P.length]'(by simp) = p := by simp
 rw [apV_at m hp (by simp), e]
theorem split1 {α : Type} {l : List α} {i : Nat} (h : i < l.length) : ∃ A u B, l = A ++ u :: B ∧ A.length = i := ⟨l.take i, l[i], l.drop (i + 1), by simp, by simp; omega⟩
theorem split2 {α : Type} {l : List α} {i : Nat} (h : i + 1 < l.length) : ∃ A u v B, l = A ++ u :: v :: B ∧ A.length = i := by
 obtain ⟨A, u, B, rfl, rfl⟩ := split1 (l := l) (i := i) (by omega)
 cases B with
 | nil => simp at h
 | cons v B => exact ⟨A, u, v, B, rfl, rfl⟩
theorem RP_apV {l l' : List Pt} {m : Mk} (hm : mkErr m = 0) (h : RP m l l') (hr : (partsErr l').2 = 0) : apV l m = (l', 0) := by
 obtain ⟨hk, hin, -, -⟩ := mk_ok hm
 obtain ⟨⟨p0, -⟩, w0, w100⟩ := inR_b hin
 have hne := (parts_ok hr).2
 have fin : ∀ {x : List Pt}, x = l' → chk x = (l', 0) := by rintro x rfl; rw [chk, if_pos hr]
 obtain ⟨P, U, V, Q, ⟨p1, g⟩, rfl, rfl⟩ := h
 rcases g with ⟨ho, κ, w, w', ⟨rfl, rfl⟩, A, X, Y, B, ⟨q1, q2⟩, rfl, rfl⟩ | ⟨c, κ, A, B, hA, rfl, rfl⟩ | ⟨c, κ, A, B, hA, rfl, rfl⟩ | ⟨c, w, rfl, rfl⟩
 ·have hwk : m.word.toNat = A.length := by omega
  rw [show P ++ [(⟨κ, A ++ X ++ B⟩ : Pt)] ++ Q = P ++ ⟨κ, A ++ X ++ B⟩ :: Q by simp, apV_mid p1.symm, hwk]
  rcases q2 with ⟨c, rfl, rfl⟩ | ⟨c, rfl, rfl⟩ | ⟨c, rfl, rfl⟩ | ⟨c, u, v, rfl, rfl⟩
  ·rw [if_neg (by simp [c]; omega), if_neg (by simp [c])]
   exact fin (by simp [apL, c])
  ·rw [if_neg (by simp [c]; omega), if_neg (by simp [c])]
   exact fin (by simp [apL, c, insP])
  ·rw [if_neg (by simp [c]; omega), if_neg (by simp [c])]
   exact fin (by simp [apL, c])
  ·rw [if_neg (by simp [c]; omega), if_neg (by simp [c])]
   exact fin (by simp [apL, c])
 ·have hwk : m.word.toNat = A.length := by omega
  have hB := (hne ⟨m.kind, B⟩ (by simp)).1
  simp only at hB
  rw [show P ++ [(⟨κ, A ++ B⟩ : Pt)] ++ Q = P ++ ⟨κ, A ++ B⟩ :: Q by simp, apV_mid p1.symm, hwk]
  rw [if_neg (by simp [c]; omega), if_neg (by simp [c])]
  exact fin (by simp [apL, c])
 ·have hwk : m.word.toNat = A.length := by omega
  rw [show P ++ [(⟨κ, A⟩ : Pt), ⟨m.kind, B⟩] ++ Q = P ++ ⟨κ, A⟩ :: (⟨m.kind, B⟩ :: Q) by simp, apV_mid p1.symm, hwk]
  rw [if_neg (by simp [c]; omega), if_neg (by simp [c]; omega)]
  exact fin (by simp [apL, c])
 ·rw [show P ++ [(⟨m.was, w⟩ : Pt)] ++ Q = P ++ ⟨m.was, w⟩ :: Q by simp, apV_mid p1.symm]
  have h7 : m.word = 0 := by
   have := (mk_ok hm).2.2.2
   unfold bdE at this
   split at this
   ·omega
   ·rename_i hn; exact Decidable.byContradiction fun hc => hn (.inr ⟨c, hc⟩)
  rw [if_neg (by simp [c]; omega), if_neg (by simp [c])]
  exact fin (by simp [apL, c])
/-- a chain of marks. -/
def RPs : List Mk → List Pt → List Pt → Prop
 | [], l, l' => l = l'
 | m :: ms, l, l' => ∃ x, RP m l x ∧ RPs ms x l'
theorem wd_sz {s : ByteArray} (h : isWd s = true) : s.size ≤ 1000000000 := by
 simp [isWd] at h; omega
theorem mk_sz {m : Mk} (h : mkErr m = 0) : MkSz m := by
 obtain ⟨h1, h2, h3, h4⟩ := mk_ok h
 obtain ⟨k, p, w, o, n, a, c⟩ := m
 simp only at h1 h3
 have e0 : em.size ≤ 1000000000 := by decide
 have hc : k = 1 ∨ k = 2 ∨ k = 3 ∨ k = 4 ∨ k = 5 ∨ k = 6 ∨ k = 7 := by omega
 rcases hc with rfl | rfl | rfl | rfl | rfl | rfl | rfl <;> simp [wantB] at h3
 ·exact ⟨wd_sz h3.1, by rw [h3.2.1]; exact e0⟩
 ·exact ⟨by rw [h3.2.1]; exact e0, wd_sz h3.1⟩
 ·exact ⟨wd_sz h3.1.1.1, wd_sz h3.1.1.2⟩
 ·exact ⟨by rw [h3.1]; exact e0, by rw [h3.2.1]; exact e0⟩
 ·exact ⟨by rw [h3.2.1]; exact e0, by rw [h3.2.2.1]; exact e0⟩
 ·exact ⟨by rw [h3.2.1]; exact e0, by rw [h3.2.2.1]; exact e0⟩
 ·exact ⟨by rw [h3.2.1]; exact e0, by rw [h3.2.2]; exact e0⟩
end Go.Proofs.Ytenohgpackcjbaa
