/-
 Chapter 8, plain: two marks in the other order come to the same copy.
-/
import Derived.Test.YtenohgpackcjbaaVP8R
namespace Go.Proofs.Ytenohgpackcjbaa
open Go Go.Vx
set_option linter.unusedSimpArgs false
set_option linter.unusedVariables false
theorem pts_no8 {b : Mk} (h : ¬ ptsB b = true) : b.mark ≠ 5 ∧ b.mark ≠ 6 := by simpa [ptsB] using h
theorem dia5 {a b a' b' : Mk} {l l1 l2 : List Pt} (h1 : RP a l l1) (h2 : RP b l1 l2) (a5 : a.mark = 5) (ho : brokenP a b = some (a', b')) : ∃ l', RP b' l l' ∧ RP a' l' l2 := by
 unfold brokenP at ho
 by_cases c1 : b.part < a.part
 ·rw [if_pos c1] at ho; exact RP_bef h1 h2 c1 ho
 rw [if_neg c1] at ho
 by_cases c2 : a.part + 1 < b.part
 ·rw [if_pos c2] at ho
  injection ho with ho; injection ho with e1 e2
  subst e1 e2
  obtain ⟨l', r1, r2⟩ := RP_later h1 h2 (by rw [if_pos a5]; omega)
  refine ⟨l', ?_, r2⟩
  rw [show b.part - (if a.mark = 5 then 2 else 1) + (if a.mark = 6 then 2 else 1) = b.part - 1 by rw [if_pos a5, if_neg (by omega)]; omega] at r1
  exact r1
 rw [if_neg c2] at ho
 by_cases c4 : ptsB b = true
 ·rw [if_pos c4] at ho; cases ho
 rw [if_neg c4] at ho
 obtain ⟨b5, b6⟩ := pts_no8 c4
 obtain ⟨P, U, V, Q, ⟨p1, g1⟩, rfl, rfl⟩ := h1
 obtain ⟨κ, A, B, hA, rfl, rfl⟩ := GP_5 g1 a5
 obtain ⟨P2, U2, V2, Q2, ⟨p2, g2⟩, he, rfl⟩ := h2
 have hu := (GP_len b5 b6 _ _ g2).1
 by_cases c3 : b.part = a.part
 ·rw [if_pos c3] at ho
  have he' : P ++ [(⟨κ, A⟩ : Pt)] ++ (⟨a.kind, B⟩ :: Q) = P2 ++ U2 ++ Q2 := by rw [← he]; simp
  obtain ⟨rfl, rfl, rfl⟩ := align he' (by omega) (by simp; omega)
  by_cases ob : owB b = true
  ·rw [if_pos ob] at ho
   injection ho with ho; injection ho with e1 e2
   subst e1 e2
   obtain ⟨κ', w, w', ⟨e1, rfl⟩, hw⟩ := GP_w g2 ob
   injection e1 with e1; injection e1 with e1 e2
   subst e1 e2
   obtain ⟨C, X, Y, D, ⟨q1, q2⟩, rfl, rfl⟩ := hw
   obtain ⟨x1, x2⟩ := EW_len _ _ q2
   simp only [List.length_append] at hA
   refine ⟨P ++ [⟨κ, C ++ Y ++ (D ++ B)⟩] ++ Q, ⟨P, [⟨κ, C ++ X ++ (D ++ B)⟩], _, Q, ⟨by omega, .inl ⟨ob, κ, _, _, ⟨rfl, rfl⟩, C, X, Y, D ++ B, ⟨q1, q2⟩, rfl, rfl⟩⟩, by simp, rfl⟩, ?_⟩
   exact ⟨P, _, _, Q, ⟨p1, .inr (.inl ⟨a5, κ, C ++ Y ++ D, B, by simp only [List.length_append]; omega, rfl, rfl⟩)⟩, by simp, by simp⟩
  ·rw [if_neg ob] at ho
   injection ho with ho; injection ho with e1 e2
   subst e1 e2
   obtain ⟨b7, w, e1, rfl⟩ := GP_7 g2 (by simpa using ob) b5 b6
   injection e1 with e1; injection e1 with e1 e2
   subst e1 e2
   refine ⟨P ++ [⟨b.kind, A ++ B⟩] ++ Q, ⟨P, [⟨b.was, A ++ B⟩], _, Q, ⟨by omega, .inr (.inr (.inr ⟨b7, _, rfl, rfl⟩))⟩, by simp, rfl⟩, ?_⟩
   exact ⟨P, _, _, Q, ⟨p1, .inr (.inl ⟨a5, b.kind, A, B, hA, rfl, rfl⟩)⟩, rfl, by simp⟩
 ·rw [if_neg c3] at ho
  have he' : (P ++ [(⟨κ, A⟩ : Pt)]) ++ [⟨a.kind, B⟩] ++ Q = P2 ++ U2 ++ Q2 := by rw [← he]; simp
  obtain ⟨rfl, rfl, rfl⟩ := align he' (by simp; omega) (by simp; omega)
  by_cases ob : owB b = true
  ·rw [if_pos ob] at ho
   injection ho with ho; injection ho with e1 e2
   subst e1 e2
   obtain ⟨κ', w, w', ⟨e1, rfl⟩, hw⟩ := GP_w g2 ob
   injection e1 with e1; injection e1 with e1 e2
   subst e1 e2
   obtain ⟨C, X, Y, D, ⟨q1, q2⟩, rfl, rfl⟩ := hw
   refine ⟨P ++ [⟨κ, A ++ C ++ Y ++ D⟩] ++ Q, ⟨P, [⟨κ, A ++ C ++ X ++ D⟩], _, Q, ⟨by simp only; omega, .inl ⟨ob, κ, _, _, ⟨rfl, rfl⟩, A ++ C, X, Y, D, ⟨by simp only [List.length_append]; omega, q2⟩, rfl, rfl⟩⟩, by simp, rfl⟩, ?_⟩
   exact ⟨P, _, _, Q, ⟨p1, .inr (.inl ⟨a5, κ, A, C ++ Y ++ D, hA, rfl, rfl⟩)⟩, by simp, by simp⟩
  ·rw [if_neg ob] at ho; cases ho
theorem dia6 {a b a' b' : Mk} {l l1 l2 : List Pt} (h1 : RP a l l1) (h2 : RP b l1 l2) (a6 : a.mark = 6) (ho : joinedP a b = some (a', b')) : ∃ l', RP b' l l' ∧ RP a' l' l2 := by
 unfold joinedP at ho
 by_cases c1 : b.part < a.part
 ·rw [if_pos c1] at ho; exact RP_bef h1 h2 c1 ho
 rw [if_neg c1] at ho
 by_cases c2 : a.part < b.part
 ·rw [if_pos c2] at ho
  injection ho with ho; injection ho with e1 e2
  subst e1 e2
  obtain ⟨l', r1, r2⟩ := RP_later h1 h2 (by rw [if_neg (by omega)]; omega)
  refine ⟨l', ?_, r2⟩
  rw [show b.part - (if a.mark = 5 then 2 else 1) + (if a.mark = 6 then 2 else 1) = b.part + 1 by rw [if_pos a6, if_neg (by omega)]; omega] at r1
  exact r1
 rw [if_neg c2] at ho
 by_cases c4 : ptsB b = true
 ·rw [if_pos c4] at ho; cases ho
 rw [if_neg c4] at ho
 obtain ⟨b5, b6⟩ := pts_no8 c4
 obtain ⟨P, U, V, Q, ⟨p1, g1⟩, rfl, rfl⟩ := h1
 obtain ⟨κ, A, B, hA, rfl, rfl⟩ := GP_6 g1 a6
 obtain ⟨P2, U2, V2, Q2, ⟨p2, g2⟩, he, rfl⟩ := h2
 have hu := (GP_len b5 b6 _ _ g2).1
 obtain ⟨rfl, rfl, rfl⟩ := align he (by omega) (by simp; omega)
 by_cases ob : owB b = true
 ·rw [if_pos ob] at ho
  obtain ⟨κ', w, w', ⟨e1, rfl⟩, hw⟩ := GP_w g2 ob
  injection e1 with e1; injection e1 with e1 e2
  subst e1
  obtain ⟨C, X, Y, D, ⟨q1, q2⟩, rfl, rfl⟩ := hw
  obtain ⟨x1, x2⟩ := EW_len _ _ q2
  by_cases c5 : b.word + ahM b ≤ a.word
  ·rw [if_pos c5] at ho
   injection ho with ho; injection ho with e3 e4
   subst e3 e4
   obtain ⟨M, rfl, rfl⟩ := cut (A := C) (X := X) (B := D) (C := A) (Y := []) (D := B) (by rw [← e2]; simp) (by omega)
   simp only [List.length_append] at hA
   refine ⟨P ++ [⟨κ, C ++ Y ++ M⟩, ⟨a.kind, B⟩] ++ Q, ⟨P, [⟨κ, C ++ X ++ M⟩], [⟨κ, C ++ Y ++ M⟩], ⟨a.kind, B⟩ :: Q, ⟨by omega, .inl ⟨ob, κ, _, _, ⟨rfl, rfl⟩, C, X, Y, M, ⟨q1, q2⟩, rfl, rfl⟩⟩, by simp, by simp⟩, ?_⟩
   exact ⟨P, _, _, Q, ⟨p1, .inr (.inr (.inl ⟨a6, κ, C ++ Y ++ M, B, by simp only [List.length_append]; omega, rfl, rfl⟩))⟩, by simp, by simp⟩
  ·rw [if_neg c5] at ho
   by_cases c6 : a.word ≤ b.word
   ·rw [if_pos c6] at ho
    injection ho with ho; injection ho with e3 e4
    subst e3 e4
    obtain ⟨M, rfl, rfl⟩ := cut (A := A) (X := []) (B := B) (C := C) (Y := X) (D := D) (by rw [← e2]; simp) (by simp; omega)
    simp only [List.length_append, List.length_nil] at q1
    refine ⟨P ++ [⟨κ, A⟩, ⟨a.kind, M ++ Y ++ D⟩] ++ Q, ⟨P ++ [⟨κ, A⟩], [⟨a.kind, M ++ X ++ D⟩], [⟨a.kind, M ++ Y ++ D⟩], Q, ⟨by simp; omega, .inl ⟨ob, a.kind, _, _, ⟨rfl, rfl⟩, M, X, Y, D, ⟨by simp only; omega, q2⟩, rfl, rfl⟩⟩, by simp, by simp⟩, ?_⟩
    exact ⟨P, _, _, Q, ⟨p1, .inr (.inr (.inl ⟨a6, κ, A, M ++ Y ++ D, hA, rfl, rfl⟩))⟩, by simp, by simp⟩
   ·rw [if_neg c6] at ho; cases ho
 ·rw [if_neg ob] at ho
  injection ho with ho; injection ho with e3 e4
  subst e3 e4
  obtain ⟨b7, w, e1, rfl⟩ := GP_7 g2 (by simpa using ob) b5 b6
  injection e1 with e1; injection e1 with e1 e2
  subst e1 e2
  refine ⟨P ++ [⟨b.kind, A⟩, ⟨a.kind, B⟩] ++ Q, ⟨P, [⟨b.was, A⟩], [⟨b.kind, A⟩], ⟨a.kind, B⟩ :: Q, ⟨by omega, .inr (.inr (.inr ⟨b7, _, rfl, rfl⟩))⟩, by simp, by simp⟩, ?_⟩
  exact ⟨P, _, _, Q, ⟨p1, .inr (.inr (.inl ⟨a6, b.kind, A, B, hA, rfl, rfl⟩))⟩, rfl, by simp⟩
theorem diaB {a b a' b' : Mk} {l l1 l2 : List Pt} (h1 : RP a l l1) (h2 : RP b l1 l2) (a5 : a.mark ≠ 5) (a6 : a.mark ≠ 6) (b5 : b.mark = 5) (ho : breaksP a b = some (a', b')) : ∃ l', RP b' l l' ∧ RP a' l' l2 := by
 unfold breaksP at ho
 by_cases c1 : a.part < b.part
 ·rw [if_pos c1] at ho
  injection ho with ho; injection ho with e1 e2
  subst e1 e2
  obtain ⟨l', r1, r2⟩ := RP_later h1 h2 (by rw [if_neg a5]; omega)
  refine ⟨l', ?_, r2⟩
  rw [if_neg a5, if_neg a6, mk_part (by omega)] at r1
  exact r1
 rw [if_neg c1] at ho
 by_cases c2 : b.part < a.part
 ·rw [if_pos c2] at ho
  injection ho with ho; injection ho with e1 e2
  subst e1 e2
  obtain ⟨l', r1, r2⟩ := RP_earlier h1 h2 (by rw [if_neg (by omega)]; omega)
  refine ⟨l', r1, ?_⟩
  rw [show a.part - (if b.mark = 6 then 2 else 1) + (if b.mark = 5 then 2 else 1) = a.part + 1 by rw [if_neg (by omega), if_pos b5]; omega] at r2
  exact r2
 rw [if_neg c2] at ho
 obtain ⟨P, U, V, Q, ⟨p1, g1⟩, rfl, rfl⟩ := h1
 obtain ⟨P2, U2, V2, Q2, ⟨p2, g2⟩, he, rfl⟩ := h2
 have hv := (GP_len a5 a6 _ _ g1).2
 obtain ⟨κ, A, B, hA, rfl, rfl⟩ := GP_5 g2 b5
 obtain ⟨rfl, rfl, rfl⟩ := align he (by omega) (by simp; omega)
 by_cases oa : owB a = true
 ·rw [if_pos oa] at ho
  obtain ⟨κ', w, w', ⟨rfl, e1⟩, hw⟩ := GP_w g1 oa
  injection e1 with e1; injection e1 with e1 e2
  subst e1
  obtain ⟨C, X, Y, D, ⟨q1, q2⟩, rfl, rfl⟩ := hw
  obtain ⟨x1, x2⟩ := EW_len _ _ q2
  by_cases c5 : b.word ≤ a.word
  ·rw [if_pos c5] at ho
   injection ho with ho; injection ho with e3 e4
   subst e3 e4
   obtain ⟨M, rfl, rfl⟩ := cut (A := A) (X := []) (B := B) (C := C) (Y := Y) (D := D) (by rw [← e2]; simp) (by simp; omega)
   simp only [List.length_append, List.length_nil] at q1
   refine ⟨P ++ [⟨κ, A⟩, ⟨b.kind, M ++ X ++ D⟩] ++ Q, ⟨P, [⟨κ, A ++ (M ++ X ++ D)⟩], _, Q, ⟨by omega, .inr (.inl ⟨b5, κ, A, _, hA, rfl, rfl⟩)⟩, by simp, rfl⟩, ?_⟩
   exact ⟨P ++ [⟨κ, A⟩], [⟨b.kind, M ++ X ++ D⟩], [⟨b.kind, M ++ Y ++ D⟩], Q, ⟨by simp; omega, .inl ⟨oa, b.kind, _, _, ⟨rfl, rfl⟩, M, X, Y, D, ⟨by simp only; omega, q2⟩, rfl, rfl⟩⟩, by simp, by simp⟩
  ·rw [if_neg c5] at ho
   by_cases c6 : a.word + ahM a + lenM a ≤ b.word
   ·rw [if_pos c6] at ho
    injection ho with ho; injection ho with e3 e4
    subst e3 e4
    obtain ⟨M, rfl, rfl⟩ := cut (A := C) (X := Y) (B := D) (C := A) (Y := []) (D := B) (by rw [← e2]; simp) (by omega)
    simp only [List.length_append] at hA
    refine ⟨P ++ [⟨κ, C ++ X ++ M⟩, ⟨b.kind, B⟩] ++ Q, ⟨P, [⟨κ, C ++ X ++ M ++ B⟩], _, Q, ⟨by simp only; omega, .inr (.inl ⟨b5, κ, C ++ X ++ M, B, by simp only [List.length_append]; omega, rfl, rfl⟩)⟩, by simp, rfl⟩, ?_⟩
    exact ⟨P, [⟨κ, C ++ X ++ M⟩], [⟨κ, C ++ Y ++ M⟩], ⟨b.kind, B⟩ :: Q, ⟨p1, .inl ⟨oa, κ, _, _, ⟨rfl, rfl⟩, C, X, Y, M, ⟨q1, q2⟩, rfl, rfl⟩⟩, by simp, by simp⟩
   ·rw [if_neg c6] at ho; cases ho
 ·rw [if_neg oa] at ho
  injection ho with ho; injection ho with e3 e4
  subst e3 e4
  obtain ⟨a7, w, rfl, e1⟩ := GP_7 g1 (by simpa using oa) a5 a6
  injection e1 with e1; injection e1 with e1 e2
  subst e1 e2
  refine ⟨P ++ [⟨a.was, A⟩, ⟨b.kind, B⟩] ++ Q, ⟨P, [⟨a.was, A ++ B⟩], _, Q, ⟨by omega, .inr (.inl ⟨b5, a.was, A, B, hA, rfl, rfl⟩)⟩, rfl, rfl⟩, ?_⟩
  exact ⟨P, [⟨a.was, A⟩], [⟨a.kind, A⟩], ⟨b.kind, B⟩ :: Q, ⟨p1, .inr (.inr (.inr ⟨a7, _, rfl, rfl⟩))⟩, by simp, by simp⟩
theorem diaJ {a b a' b' : Mk} {l l1 l2 : List Pt} (h1 : RP a l l1) (h2 : RP b l1 l2) (a5 : a.mark ≠ 5) (a6 : a.mark ≠ 6) (b6 : b.mark = 6) (ho : joinsP a b = some (a', b')) : ∃ l', RP b' l l' ∧ RP a' l' l2 := by
 unfold joinsP at ho
 by_cases c1 : a.part < b.part
 ·rw [if_pos c1] at ho
  injection ho with ho; injection ho with e1 e2
  subst e1 e2
  obtain ⟨l', r1, r2⟩ := RP_later h1 h2 (by rw [if_neg a5]; omega)
  refine ⟨l', ?_, r2⟩
  rw [if_neg a5, if_neg a6, mk_part (by omega)] at r1
  exact r1
 rw [if_neg c1] at ho
 by_cases c2 : b.part + 1 < a.part
 ·rw [if_pos c2] at ho
  injection ho with ho; injection ho with e1 e2
  subst e1 e2
  obtain ⟨l', r1, r2⟩ := RP_earlier h1 h2 (by rw [if_pos b6]; omega)
  refine ⟨l', r1, ?_⟩
  rw [show a.part - (if b.mark = 6 then 2 else 1) + (if b.mark = 5 then 2 else 1) = a.part - 1 by rw [if_pos b6, if_neg (by omega)]; omega] at r2
  exact r2
 rw [if_neg c2] at ho
 obtain ⟨P, U, V, Q, ⟨p1, g1⟩, rfl, rfl⟩ := h1
 obtain ⟨P2, U2, V2, Q2, ⟨p2, g2⟩, he, rfl⟩ := h2
 have hv := (GP_len a5 a6 _ _ g1).2
 obtain ⟨κ, A, B, hA, rfl, rfl⟩ := GP_6 g2 b6
 by_cases c3 : a.part = b.part
 ·rw [if_pos c3] at ho
  have he' : P ++ V ++ Q = P2 ++ [(⟨κ, A⟩ : Pt)] ++ (⟨b.kind, B⟩ :: Q2) := by rw [he]; simp
  obtain ⟨rfl, rfl, rfl⟩ := align he' (by omega) (by simp; omega)
  by_cases oa : owB a = true
  ·rw [if_pos oa] at ho
   injection ho with ho; injection ho with e3 e4
   subst e3 e4
   obtain ⟨κ', w, w', ⟨rfl, e1⟩, hw⟩ := GP_w g1 oa
   injection e1 with e1; injection e1 with e1 e2
   subst e1 e2
   obtain ⟨C, X, Y, D, ⟨q1, q2⟩, rfl, rfl⟩ := hw
   obtain ⟨x1, x2⟩ := EW_len _ _ q2
   simp only [List.length_append] at hA
   refine ⟨P ++ [⟨κ, C ++ X ++ D ++ B⟩] ++ Q2, ⟨P, [⟨κ, C ++ X ++ D⟩, ⟨b.kind, B⟩], _, Q2, ⟨by simp only; omega, .inr (.inr (.inl ⟨b6, κ, C ++ X ++ D, B, by simp only [List.length_append]; omega, rfl, rfl⟩))⟩, by simp, rfl⟩, ?_⟩
   exact ⟨P, [⟨κ, C ++ X ++ D ++ B⟩], [⟨κ, C ++ Y ++ D ++ B⟩], Q2, ⟨p1, .inl ⟨oa, κ, _, _, ⟨rfl, rfl⟩, C, X, Y, D ++ B, ⟨q1, q2⟩, by simp, by simp⟩⟩, by simp, by simp⟩
  ·rw [if_neg oa] at ho
   injection ho with ho; injection ho with e3 e4
   subst e3 e4
   obtain ⟨a7, w, rfl, e1⟩ := GP_7 g1 (by simpa using oa) a5 a6
   injection e1 with e1; injection e1 with e1 e2
   subst e1 e2
   refine ⟨P ++ [⟨a.was, A ++ B⟩] ++ Q2, ⟨P, [⟨a.was, A⟩, ⟨b.kind, B⟩], _, Q2, ⟨by omega, .inr (.inr (.inl ⟨b6, a.was, A, B, hA, rfl, rfl⟩))⟩, by simp, rfl⟩, ?_⟩
   exact ⟨P, [⟨a.was, A ++ B⟩], [⟨a.kind, A ++ B⟩], Q2, ⟨p1, .inr (.inr (.inr ⟨a7, _, rfl, rfl⟩))⟩, by simp, by simp⟩
 ·rw [if_neg c3] at ho
  have he' : P ++ V ++ Q = (P2 ++ [(⟨κ, A⟩ : Pt)]) ++ [⟨b.kind, B⟩] ++ Q2 := by rw [he]; simp
  obtain ⟨rfl, rfl, rfl⟩ := align he' (by simp; omega) (by simp; omega)
  by_cases oa : owB a = true
  ·rw [if_pos oa] at ho
   injection ho with ho; injection ho with e3 e4
   subst e3 e4
   obtain ⟨κ', w, w', ⟨rfl, e1⟩, hw⟩ := GP_w g1 oa
   injection e1 with e1; injection e1 with e1 e2
   subst e2
   obtain ⟨C, X, Y, D, ⟨q1, q2⟩, rfl, rfl⟩ := hw
   refine ⟨P2 ++ [⟨κ, A ++ (C ++ X ++ D)⟩] ++ Q, ⟨P2, [⟨κ, A⟩, ⟨b.kind, C ++ X ++ D⟩], _, Q, ⟨by omega, .inr (.inr (.inl ⟨b6, κ, A, _, hA, rfl, rfl⟩))⟩, by simp [e1], rfl⟩, ?_⟩
   exact ⟨P2, [⟨κ, A ++ C ++ X ++ D⟩], [⟨κ, A ++ C ++ Y ++ D⟩], Q, ⟨by simp only [List.length_append, List.length_cons, List.length_nil] at p1 ⊢; omega, .inl ⟨oa, κ, _, _, ⟨rfl, rfl⟩, A ++ C, X, Y, D, ⟨by simp only [List.length_append]; omega, q2⟩, rfl, rfl⟩⟩, by simp, by simp⟩
  ·rw [if_neg oa] at ho; cases ho
theorem diaQ {a b a' b' : Mk} {l l1 l2 : List Pt} (h1 : RP a l l1) (h2 : RP b l1 l2) (a5 : a.mark ≠ 5) (a6 : a.mark ≠ 6) (b5 : b.mark ≠ 5) (b6 : b.mark ≠ 6) (ho : quietP a b = some (a', b')) : ∃ l', RP b' l l' ∧ RP a' l' l2 := by
 unfold quietP at ho
 by_cases c1 : a.part ≠ b.part
 ·rw [if_pos c1] at ho
  injection ho with ho; injection ho with e1 e2
  subst e1 e2
  by_cases c2 : a.part < b.part
  ·obtain ⟨l', r1, r2⟩ := RP_later h1 h2 (by rw [if_neg a5]; omega)
   rw [if_neg a5, if_neg a6, mk_part (by omega)] at r1
   exact ⟨l', r1, r2⟩
  ·obtain ⟨l', r1, r2⟩ := RP_earlier h1 h2 (by rw [if_neg b6]; omega)
   rw [if_neg b5, if_neg b6, mk_part (by omega)] at r2
   exact ⟨l', r1, r2⟩
 have c1 := Decidable.not_not.1 c1
 rw [if_neg (by omega)] at ho
 obtain ⟨P, U, V, Q, ⟨p1, g1⟩, rfl, rfl⟩ := h1
 obtain ⟨P2, U2, V2, Q2, ⟨p2, g2⟩, he, rfl⟩ := h2
 have hv := (GP_len a5 a6 _ _ g1).2
 have hu := (GP_len b5 b6 _ _ g2).1
 obtain ⟨rfl, rfl, rfl⟩ := align he (by omega) (by omega)
 by_cases oa : owB a = true
 ·by_cases ob : owB b = true
  ·rw [if_pos ⟨oa, ob⟩] at ho
   obtain ⟨κ, w, w1, ⟨rfl, rfl⟩, hw1⟩ := GP_w g1 oa
   obtain ⟨κ', w1', w2, ⟨e1, rfl⟩, hw2⟩ := GP_w g2 ob
   injection e1 with e1; injection e1 with e1 e2
   subst e1 e2
   obtain ⟨w', r1, r2⟩ := WW_order hw1 hw2 ho
   have hk : owB a' = true ∧ owB b' = true ∧ a'.part = a.part ∧ b'.part = b.part := by
    unfold wordsP at ho
    split at ho
    ·injection ho with ho; injection ho with e1 e2
     subst e1 e2; exact ⟨oa, ob, rfl, rfl⟩
    ·split at ho
     ·injection ho with ho; injection ho with e1 e2
      subst e1 e2; exact ⟨oa, ob, rfl, rfl⟩
     ·cases ho
   exact ⟨P ++ [⟨κ, w'⟩] ++ Q, ⟨P, _, _, Q, ⟨by omega, .inl ⟨hk.2.1, κ, w, w', ⟨rfl, rfl⟩, r1⟩⟩, rfl, rfl⟩, ⟨P, _, _, Q, ⟨by omega, .inl ⟨hk.1, κ, w', w2, ⟨rfl, rfl⟩, r2⟩⟩, rfl, rfl⟩⟩
  ·rw [if_neg (fun h => ob h.2), if_pos (.inl oa)] at ho
   injection ho with ho; injection ho with e1 e2
   subst e1 e2
   obtain ⟨κ, w, w1, ⟨rfl, rfl⟩, hw1⟩ := GP_w g1 oa
   obtain ⟨b7, w2, e1, rfl⟩ := GP_7 g2 (by simpa using ob) b5 b6
   injection e1 with e1; injection e1 with e1 e2
   subst e1 e2
   exact ⟨P ++ [⟨b.kind, w⟩] ++ Q, ⟨P, _, _, Q, ⟨by omega, .inr (.inr (.inr ⟨b7, w, rfl, rfl⟩))⟩, rfl, rfl⟩, ⟨P, _, _, Q, ⟨by omega, .inl ⟨oa, b.kind, w, w1, ⟨rfl, rfl⟩, hw1⟩⟩, rfl, rfl⟩⟩
 ·by_cases ob : owB b = true
  ·rw [if_neg (fun h => oa h.1), if_pos (.inr ob)] at ho
   injection ho with ho; injection ho with e1 e2
   subst e1 e2
   obtain ⟨a7, w, rfl, rfl⟩ := GP_7 g1 (by simpa using oa) a5 a6
   obtain ⟨κ, w1, w2, ⟨e1, rfl⟩, hw2⟩ := GP_w g2 ob
   injection e1 with e1; injection e1 with e1 e2
   subst e1 e2
   exact ⟨P ++ [⟨a.was, w2⟩] ++ Q, ⟨P, _, _, Q, ⟨by omega, .inl ⟨ob, a.was, w, w2, ⟨rfl, rfl⟩, hw2⟩⟩, rfl, rfl⟩, ⟨P, _, _, Q, ⟨by omega, .inr (.inr (.inr ⟨a7, w2, rfl, rfl⟩))⟩, rfl, rfl⟩⟩
  ·rw [if_neg (fun h => oa h.1), if_neg (fun h => h.elim oa ob)] at ho; cases ho
/-- two marks in the other order come to the same copy. -/
theorem diamond {a b a' b' : Mk} {l l1 l2 : List Pt} (h1 : RP a l l1) (h2 : RP b l1 l2) (ho : orderP a b = some (a', b')) : ∃ l', RP b' l l' ∧ RP a' l' l2 := by
 unfold orderP at ho
 by_cases a5 : a.mark = 5
 ·rw [if_pos a5] at ho; exact dia5 h1 h2 a5 ho
 rw [if_neg a5] at ho
 by_cases a6 : a.mark = 6
 ·rw [if_pos a6] at ho; exact dia6 h1 h2 a6 ho
 rw [if_neg a6] at ho
 by_cases b5 : b.mark = 5
 ·rw [if_pos b5] at ho; exact diaB h1 h2 a5 a6 b5 ho
 rw [if_neg b5] at ho
 by_cases b6 : b.mark = 6
 ·rw [if_pos b6] at ho; exact diaJ h1 h2 a5 a6 b6 ho
 rw [if_neg b6] at ho
 exact diaQ h1 h2 a5 a6 b5 b6 ho
end Go.Proofs.Ytenohgpackcjbaa
