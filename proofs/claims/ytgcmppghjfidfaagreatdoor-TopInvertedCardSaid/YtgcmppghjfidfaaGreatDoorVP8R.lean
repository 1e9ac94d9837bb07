/-
 Chapter 8, plain: a mark exchanges a piece of a list for another one.
-/
import Derived.Test.YtgcmppghjfidfaaGreatDoorVGC
import Derived.Test.YtgcmppghjfidfaaGreatDoorVGD
namespace Go.Proofs.YtgcmppghjfidfaaGreatDoor
open Go Go.Vx
set_option linter.unusedSimpArgs false
set_option linter.unusedVariables false
/-- a piece at a place is exchanged. -/
def Sp {α : Type} (E : List α → List α → Prop) (n : Int) (l l' : List α) : Prop :=
 ∃ A X Y B, ((A.length : Int) = n ∧ E X Y) ∧ l = A ++ X ++ B ∧ l' = A ++ Y ++ B
theorem cut {α : Type} {A X B C Y D : List α} (h : A ++ X ++ B = C ++ Y ++ D) (hl : A.length + X.length ≤ C.length) : ∃ M, C = A ++ X ++ M ∧ B = M ++ Y ++ D := by
 rw [List.append_assoc C] at h
 rcases List.append_eq_append_iff.1 h with ⟨M, h1, h2⟩ | ⟨M, h1, h2⟩
 ·exact ⟨M, h1, by rw [h2, List.append_assoc]⟩
 ·have hm := congrArg List.length h1
  simp only [List.length_append] at hm
  have : M = [] := List.length_eq_zero_iff.1 (by omega)
  subst this
  exact ⟨[], by simp [h1], by simpa using h2.symm⟩
theorem later {α : Type} {E1 E2 : List α → List α → Prop} {n1 n2 x y : Int} (hE : ∀ X Y, E1 X Y → (X.length : Int) = x ∧ (Y.length : Int) = y) {l l1 l2 : List α}
  (h1 : Sp E1 n1 l l1) (h2 : Sp E2 n2 l1 l2) (h : n1 + y ≤ n2) : ∃ l', Sp E2 (n2 - y + x) l l' ∧ Sp E1 n1 l' l2 := by
 obtain ⟨A, X, Y, B, ⟨a1, a2⟩, rfl, rfl⟩ := h1
 obtain ⟨C, U, V, D, ⟨b1, b2⟩, b3, rfl⟩ := h2
 obtain ⟨e1, e2⟩ := hE X Y a2
 obtain ⟨M, rfl, rfl⟩ := cut b3 (by omega)
 simp only [List.length_append] at b1
 refine ⟨A ++ X ++ M ++ V ++ D, ⟨A ++ X ++ M, U, V, D, ⟨by simp only [List.length_append]; omega, b2⟩, by simp, by simp⟩, ⟨A, X, Y, M ++ V ++ D, ⟨a1, a2⟩, by simp, by simp⟩⟩
theorem earlier {α : Type} {E1 E2 : List α → List α → Prop} {n1 n2 x y : Int} (hE : ∀ X Y, E2 X Y → (X.length : Int) = x ∧ (Y.length : Int) = y) {l l1 l2 : List α}
  (h1 : Sp E1 n1 l l1) (h2 : Sp E2 n2 l1 l2) (h : n2 + x ≤ n1) : ∃ l', Sp E2 n2 l l' ∧ Sp E1 (n1 - x + y) l' l2 := by
 obtain ⟨A, X, Y, B, ⟨a1, a2⟩, rfl, rfl⟩ := h1
 obtain ⟨C, U, V, D, ⟨b1, b2⟩, b3, rfl⟩ := h2
 obtain ⟨e1, e2⟩ := hE U V b2
 obtain ⟨M, rfl, rfl⟩ := cut b3.symm (by omega)
 simp only [List.length_append] at a1
 refine ⟨C ++ V ++ M ++ X ++ B, ⟨C, U, V, M ++ X ++ B, ⟨b1, b2⟩, by simp, by simp⟩, ⟨C ++ V ++ M, X, Y, B, ⟨by simp only [List.length_append]; omega, a2⟩, by simp, by simp⟩⟩
/-- the words that go out, and come in. -/
def EW (m : Mk) (X Y : List ByteArray) : Prop :=
 (m.mark = 1 ∧ X = [m.old] ∧ Y = []) ∨ (m.mark = 2 ∧ X = [] ∧ Y = [m.new]) ∨ (m.mark = 3 ∧ X = [m.old] ∧ Y = [m.new]) ∨ (m.mark = 4 ∧ ∃ u v, X = [u, v] ∧ Y = [v, u])
def WW (m : Mk) (w w' : List ByteArray) : Prop := Sp (EW m) m.word w w'
/-- the parts that go out, and come in. -/
def GP (m : Mk) (U V : List Pt) : Prop :=
 (owB m = true ∧ ∃ κ w w', (U = [⟨κ, w⟩] ∧ V = [⟨κ, w'⟩]) ∧ WW m w w') ∨ (m.mark = 5 ∧ ∃ κ A B, (A.length : Int) = m.word ∧ U = [⟨κ, A ++ B⟩] ∧ V = [⟨κ, A⟩, ⟨m.kind, B⟩]) ∨
  (m.mark = 6 ∧ ∃ κ A B, (A.length : Int) = m.word ∧ U = [⟨κ, A⟩, ⟨m.kind, B⟩] ∧ V = [⟨κ, A ++ B⟩]) ∨ (m.mark = 7 ∧ ∃ w, U = [⟨m.was, w⟩] ∧ V = [⟨m.kind, w⟩])
def RP (m : Mk) (l l' : List Pt) : Prop := Sp (GP m) m.part l l'
theorem ow_iff {m : Mk} : owB m = true ↔ (1 ≤ m.mark ∧ m.mark ≤ 4) := by simp [owB]
end Go.Proofs.YtgcmppghjfidfaaGreatDoor
