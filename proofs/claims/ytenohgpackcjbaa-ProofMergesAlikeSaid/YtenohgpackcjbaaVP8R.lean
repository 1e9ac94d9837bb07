/-
 Chapter 8, plain: a mark exchanges a piece of a list for another one.
-/
import Derived.Test.YtenohgpackcjbaaVGM
import Derived.Test.YtenohgpackcjbaaVGF
namespace Go.Proofs.Ytenohgpackcjbaa
open Go Go.Vx
set_option linter.unusedSimpArgs false
set_option linter.unusedVariables false
/-- a piece at a place is exchanged. -/
def Sp {α : Type} (E : List α → List α → Prop) (n : Int) (l l' : List α) : Prop :=
 ∃ A X Y B, ((A.length : Int) = n ∧ E X Y) ∧ l = A ++ X ++ B ∧ l' = A ++ Y ++ B
theorem cut {α : Type} {A X B C Y D : List α} (h : A ++ X ++ B = C ++ Y ++ D) (hl : A.length + X.length ≤ C.length) : ∃ M, C = A ++ X ++ M ∧ B = M ++ Y ++ D := by
 rw [List.append_assoc C] at h
 rcases List.append_eq_append_iff.1 h with ⟨M, h1, h2⟩ | ⟨M, h1, h2⟩
 ·exact ⟨M, h1, by rw [h2, List.append_assoc]⟩
 ·have hm := congrArg List.length h1
  simp only [List.length_append] at hm
  have : M = [] := List.length_eq_zero_iff.1 (by omega)
  subst this
  exact ⟨[], by simp [h1], by simpa using h2.symm⟩
theorem align {α : Type} {A X B C Y D : List α} (h : A ++ X ++ B = C ++ Y ++ D) (ha : A.length = C.length) (hl : X.length = Y.length) : A = C ∧ X = Y ∧ B = D := by
 rw [List.append_assoc, List.append_assoc] at h
 obtain ⟨h1, h2⟩ := List.append_inj h ha
 obtain ⟨h3, h4⟩ := List.append_inj h2 hl
 exact ⟨h1, h3, h4⟩
theorem later {α : Type} {E1 E2 : List α → List α → Prop} {n1 n2 x y : Int} (hE : ∀ X Y, E1 X Y → (X.length : Int) = x ∧ (Y.length : Int) = y) {l l1 l2 : List α}
  (h1 : Sp E1 n1 l l1) (h2 : Sp E2 n2 l1 l2) (h : n1 + y ≤ n2) : ∃ l', Sp E2 (n2 - y + x) l l' ∧ Sp E1 n1 l' l2 := by
 obtain ⟨A, X, Y, B, ⟨a1, a2⟩, rfl, rfl⟩ := h1
 obtain ⟨C, U, V, D, ⟨b1, b2⟩, b3, rfl⟩ := h2
 obtain ⟨e1, e2⟩ := hE X Y a2
 obtain ⟨M, rfl, rfl⟩ := cut b3 (by omega)
 simp only [List.length_append] at b1
 refine ⟨A ++ X ++ M ++ V ++ D, ⟨A ++ X ++ M, U, V, D, ⟨by simp only [List.length_append]; omega, b2⟩, by simp, by simp⟩, ⟨A, X, Y, M ++ V ++ D, ⟨a1, a2⟩, by simp, by simp⟩⟩
theorem earlier {α : Type} {E1 E2 : List α → List α → Prop} {n1 n2 x y : Int} (hE : ∀ X Y, E2 X Y → (X.length : Int) = x ∧ (Y.length : Int) = y) {l l1 l2 : List α}
  (h1 : Sp E1 n1 l l1) (h2 : Sp E2 n2 l1 l2) (h : n2 + x ≤ n1) : ∃ l', Sp E2 n2 l l' ∧ Sp E1 (n1 - x + y) l' l2 := by
 obtain ⟨A, X, Y, B, ⟨a1, a2⟩, rfl, rfl⟩ := h1
 obtain ⟨C, U, V, D, ⟨b1, b2⟩, b3, rfl⟩ := h2
 obtain ⟨e1, e2⟩ := hE U V b2
 obtain ⟨M, rfl, rfl⟩ := cut b3.symm (by omega)
 simp only [List.length_append] at a1
 refine ⟨C ++ V ++ M ++ X ++ B, ⟨C, U, V, M ++ X ++ B, ⟨b1, b2⟩, by simp, by simp⟩, ⟨C ++ V ++ M, X, Y, B, ⟨by simp only [List.length_append]; omega, a2⟩, by simp, by simp⟩⟩
/-- the words that go out, and come in. -/
def EW (m : Mk) (X Y : List ByteArray) : Prop :=
 (m.mark = 1 ∧ X = [m.old] ∧ Y = []) ∨ (m.mark = 2 ∧ X = [] ∧ Y = [m.new]) ∨ (m.mark = 3 ∧ X = [m.old] ∧ Y = [m.new]) ∨ (m.mark = 4 ∧ ∃ u v, X = [u, v] ∧ Y = [v, u])
def WW (m : Mk) (w w' : List ByteArray) : Prop := Sp (EW m) m.word w w'
/-- the parts that go out, and come in. -/
def GP (m : Mk) (U V : List Pt) : Prop :=
 (owB m = true ∧ ∃ κ w w', (U = [⟨κ, w⟩] ∧ V = [⟨κ, w'⟩]) ∧ WW m w w') ∨ (m.mark = 5 ∧ ∃ κ A B, (A.length : Int) = m.word ∧ U = [⟨κ, A ++ B⟩] ∧ V = [⟨κ, A⟩, ⟨m.kind, B⟩]) ∨
  (m.mark = 6 ∧ ∃ κ A B, (A.length : Int) = m.word ∧ U = [⟨κ, A⟩, ⟨m.kind, B⟩] ∧ V = [⟨κ, A ++ B⟩]) ∨ (m.mark = 7 ∧ ∃ w, U = [⟨m.was, w⟩] ∧ V = [⟨m.kind, w⟩])
def RP (m : Mk) (l l' : List Pt) : Prop := Sp (GP m) m.part l l'
theorem EW_len {m : Mk} : ∀ X Y, EW m X Y → (X.length : Int) = ahM m ∧ (Y.length : Int) = ahM m + lenM m := by
 rintro X Y (⟨h, rfl, rfl⟩ | ⟨h, rfl, rfl⟩ | ⟨h, rfl, rfl⟩ | ⟨h, u, v, rfl, rfl⟩) <;> simp [ahM, lenM, h]
theorem ow_iff {m : Mk} : owB m = true ↔ (1 ≤ m.mark ∧ m.mark ≤ 4) := by simp [owB]
theorem GP_len {m : Mk} (h5 : m.mark ≠ 5) (h6 : m.mark ≠ 6) : ∀ U V, GP m U V → (U.length : Int) = 1 ∧ (V.length : Int) = 1 := by
 rintro U V (⟨h, κ, w, w', ⟨rfl, rfl⟩, -⟩ | ⟨h, -⟩ | ⟨h, -⟩ | ⟨h, w, rfl, rfl⟩)
 ·simp
 ·exact absurd h h5
 ·exact absurd h h6
 ·simp
theorem GP_len5 {m : Mk} (h5 : m.mark = 5) : ∀ U V, GP m U V → (U.length : Int) = 1 ∧ (V.length : Int) = 2 := by
 rintro U V (⟨h, κ, w, w', ⟨rfl, rfl⟩, -⟩ | ⟨h, κ, A, B, -, rfl, rfl⟩ | ⟨h, -⟩ | ⟨h, w, rfl, rfl⟩)
 ·rw [ow_iff] at h; omega
 ·simp
 ·omega
 ·omega
theorem GP_len6 {m : Mk} (h6 : m.mark = 6) : ∀ U V, GP m U V → (U.length : Int) = 2 ∧ (V.length : Int) = 1 := by
 rintro U V (⟨h, κ, w, w', ⟨rfl, rfl⟩, -⟩ | ⟨h, -⟩ | ⟨h, κ, A, B, -, rfl, rfl⟩ | ⟨h, w, rfl, rfl⟩)
 ·rw [ow_iff] at h; omega
 ·omega
 ·simp
 ·omega
theorem GP_lenX {m : Mk} : ∀ U V, GP m U V → (U.length : Int) = (if m.mark = 6 then 2 else 1) ∧ (V.length : Int) = (if m.mark = 5 then 2 else 1) := by
 intro U V h
 by_cases h5 : m.mark = 5
 ·obtain ⟨e1, e2⟩ := GP_len5 h5 U V h
  rw [if_pos h5, if_neg (by omega)]; exact ⟨e1, e2⟩
 ·by_cases h6 : m.mark = 6
  ·obtain ⟨e1, e2⟩ := GP_len6 h6 U V h
   rw [if_pos h6, if_neg (by omega)]; exact ⟨e1, e2⟩
  ·obtain ⟨e1, e2⟩ := GP_len h5 h6 U V h
   rw [if_neg h6, if_neg h5]; exact ⟨e1, e2⟩
theorem GP_w {m : Mk} {U V : List Pt} (h : GP m U V) (ho : owB m = true) : ∃ κ w w', (U = [⟨κ, w⟩] ∧ V = [⟨κ, w'⟩]) ∧ WW m w w' := by
 have ho' := ow_iff.1 ho
 rcases h with ⟨-, h⟩ | ⟨h, -⟩ | ⟨h, -⟩ | ⟨h, -⟩
 ·exact h
 all_goals omega
theorem GP_5 {m : Mk} {U V : List Pt} (h : GP m U V) (h5 : m.mark = 5) : ∃ κ A B, (A.length : Int) = m.word ∧ U = [⟨κ, A ++ B⟩] ∧ V = [⟨κ, A⟩, ⟨m.kind, B⟩] := by
 rcases h with ⟨h, -⟩ | ⟨-, h⟩ | ⟨h, -⟩ | ⟨h, -⟩
 ·rw [ow_iff] at h; omega
 ·exact h
 all_goals omega
theorem GP_6 {m : Mk} {U V : List Pt} (h : GP m U V) (h6 : m.mark = 6) : ∃ κ A B, (A.length : Int) = m.word ∧ U = [⟨κ, A⟩, ⟨m.kind, B⟩] ∧ V = [⟨κ, A ++ B⟩] := by
 rcases h with ⟨h, -⟩ | ⟨h, -⟩ | ⟨-, h⟩ | ⟨h, -⟩
 ·rw [ow_iff] at h; omega
 ·omega
 ·exact h
 ·omega
theorem GP_7 {m : Mk} {U V : List Pt} (h : GP m U V) (ho : owB m = false) (h5 : m.mark ≠ 5) (h6 : m.mark ≠ 6) : m.mark = 7 ∧ ∃ w, U = [⟨m.was, w⟩] ∧ V = [⟨m.kind, w⟩] := by
 rcases h with ⟨h, -⟩ | ⟨h, -⟩ | ⟨h, -⟩ | h
 ·rw [ho] at h; cases h
 ·exact absurd h h5
 ·exact absurd h h6
 ·exact h
/-- two marks of words. -/
theorem WW_order {a b a' b' : Mk} {w w1 w2 : List ByteArray} (h1 : WW a w w1) (h2 : WW b w1 w2) (ho : wordsP a b = some (a', b')) : ∃ w', WW b' w w' ∧ WW a' w' w2 := by
 unfold wordsP at ho
 split at ho
 ·injection ho with ho; injection ho with e1 e2
  subst e1 e2
  obtain ⟨w', r1, r2⟩ := earlier (EW_len (m := b)) h1 h2 (by assumption)
  refine ⟨w', r1, ?_⟩
  have : a.word - ahM b + (ahM b + lenM b) = a.word + lenM b := by omega
  rw [this] at r2
  exact r2
 ·split at ho
  ·injection ho with ho; injection ho with e1 e2
   subst e1 e2
   obtain ⟨w', r1, r2⟩ := later (EW_len (m := a)) h1 h2 (by omega)
   refine ⟨w', ?_, r2⟩
   have : b.word - (ahM a + lenM a) + ahM a = b.word - lenM a := by omega
   rw [this] at r1
   exact r1
  ·cases ho
theorem RP_later {a b : Mk} {l l1 l2 : List Pt} (h1 : RP a l l1) (h2 : RP b l1 l2) (h : a.part + (if a.mark = 5 then 2 else 1) ≤ b.part) :
  ∃ l', RP { b with part := b.part - (if a.mark = 5 then 2 else 1) + (if a.mark = 6 then 2 else 1) } l l' ∧ RP a l' l2 :=
 later (GP_lenX (m := a)) h1 h2 h
theorem RP_earlier {a b : Mk} {l l1 l2 : List Pt} (h1 : RP a l l1) (h2 : RP b l1 l2) (h : b.part + (if b.mark = 6 then 2 else 1) ≤ a.part) :
  ∃ l', RP b l l' ∧ RP { a with part := a.part - (if b.mark = 6 then 2 else 1) + (if b.mark = 5 then 2 else 1) } l' l2 :=
 earlier (GP_lenX (m := b)) h1 h2 h
theorem mk_part {m : Mk} {n : Int} (h : n = m.part) : { m with part := n } = m := by cases m; simp only at h; rw [h]
theorem RP_bef {a b a' b' : Mk} {l l1 l2 : List Pt} (h1 : RP a l l1) (h2 : RP b l1 l2) (hlt : b.part < a.part) (ho : befP a b = some (a', b')) : ∃ l', RP b' l l' ∧ RP a' l' l2 := by
 unfold befP at ho
 by_cases h6 : b.mark = 6
 ·rw [if_pos h6] at ho
  split at ho
  ·cases ho
  ·injection ho with ho; injection ho with e1 e2
   subst e1 e2
   obtain ⟨l', r1, r2⟩ := RP_earlier h1 h2 (by rw [if_pos h6]; omega)
   refine ⟨l', r1, ?_⟩
   rw [show a.part - (if b.mark = 6 then 2 else 1) + (if b.mark = 5 then 2 else 1) = a.part + shM b by rw [if_pos h6, if_neg (by omega), shM, if_neg (by omega), if_pos h6]; omega] at r2
   exact r2
 ·rw [if_neg h6] at ho
  injection ho with ho; injection ho with e1 e2
  subst e1 e2
  obtain ⟨l', r1, r2⟩ := RP_earlier h1 h2 (by rw [if_neg h6]; omega)
  refine ⟨l', r1, ?_⟩
  rw [show a.part - (if b.mark = 6 then 2 else 1) + (if b.mark = 5 then 2 else 1) = a.part + shM b by rw [if_neg h6, shM, if_neg h6]; split <;> omega] at r2
  exact r2
end Go.Proofs.Ytenohgpackcjbaa
