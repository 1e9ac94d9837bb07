/-
 Chapter 8, plain: two proofs of a copy, merged with the one or with the other one first.
-/
import Derived.Test.YtenohgpackcjbaaVP8T
import Derived.Test.YtenohgpackcjbaaVGH
namespace Go.Proofs.Ytenohgpackcjbaa
open Go Go.Vx
set_option linter.unusedSimpArgs false
set_option linter.unusedVariables false
theorem RP_mk {m : Mk} {l l' : List Pt} (h : RP m l l') : 1 ≤ m.mark ∧ m.mark ≤ 7 := by
 obtain ⟨P, U, V, Q, ⟨p1, g⟩, rfl, rfl⟩ := h
 rcases g with ⟨ho, -⟩ | ⟨c, -⟩ | ⟨c, -⟩ | ⟨c, -⟩
 ·rw [ow_iff] at ho; omega
 all_goals omega
theorem plB_no {x y : Mk} (h : plB x y = false) : ¬ (x.part = y.part ∧ x.word = y.word ∧ ((x.mark = 2 ∧ (y.mark = 2 ∨ y.mark = 5)) ∨ (y.mark = 2 ∧ x.mark = 5))) := by
 intro hc
 have : plB x y = true := by
  simp only [plB, Bool.and_eq_true, Bool.or_eq_true, decide_eq_true_eq]
  omega
 rw [h] at this; cases this
set_option maxHeartbeats 16000000 in
theorem tie {x y x' y' u v : Mk} (hx : 1 ≤ x.mark ∧ x.mark ≤ 7) (hy : 1 ≤ y.mark ∧ y.mark ≤ 7) (h1 : orderP (invM x) y = some (u, y')) (h2 : orderP (invM y) x = some (v, x'))
  (hp : ¬ (x.part = y.part ∧ x.word = y.word ∧ ((x.mark = 2 ∧ (y.mark = 2 ∨ y.mark = 5)) ∨ (y.mark = 2 ∧ x.mark = 5)))) : u.part = x'.part ∧ u.word = x'.word := by
 obtain ⟨k, p, w, o, n, a, c⟩ := x
 obtain ⟨k2, p2, w2, o2, n2, a2, c2⟩ := y
 simp only at hx hy hp
 have hk : k = 1 ∨ k = 2 ∨ k = 3 ∨ k = 4 ∨ k = 5 ∨ k = 6 ∨ k = 7 := by omega
 have hk2 : k2 = 1 ∨ k2 = 2 ∨ k2 = 3 ∨ k2 = 4 ∨ k2 = 5 ∨ k2 = 6 ∨ k2 = 7 := by omega
 rcases hk with rfl | rfl | rfl | rfl | rfl | rfl | rfl <;> rcases hk2 with rfl | rfl | rfl | rfl | rfl | rfl | rfl
 all_goals (
  simp [orderP, brokenP, joinedP, breaksP, joinsP, quietP, befP, wordsP, ptsB, owB, shM, ahM, lenM, invM, invK, -Option.ite_none_left_eq_some, -Option.ite_none_right_eq_some] at h1 h2 hp
  repeat' (split at h1)
  all_goals (repeat' (split at h2))
  all_goals (try (simp only [Option.some.injEq, Prod.mk.injEq, reduceCtorEq] at h1 h2))
  all_goals (try (exact h1.elim))
  all_goals (try (exact h2.elim))
  all_goals (obtain ⟨rfl, rfl⟩ := h1; obtain ⟨rfl, rfl⟩ := h2; first | exact ⟨rfl, rfl⟩ | (simp only at *; omega)) )
theorem ovP_ok {x y : Mk} (h : (ovP x y).2 = 0) : ∃ u, orderP (invM y) x = some (u, (ovP x y).1) := by
 unfold ovP at h ⊢
 simp only at h ⊢
 rcases ho : orderP (invM y) x with _ | ⟨u, v⟩
 ·rw [ho] at h; simp [swapF] at h
 ·rw [ho] at h
  simp only [swapF] at h ⊢
  by_cases c1 : inR u = true ∧ inR v = true
  ·rw [if_pos c1] at h ⊢
   by_cases c2 : p0B v = true ∨ p0B u = true
   ·rw [if_pos c2] at h; simp at h
   ·rw [if_neg c2]; exact ⟨u, rfl⟩
  ·rw [if_neg c1] at h; simp at h
theorem step_all {x y : Mk} (h : stepE x y = 0) : plB x y = false ∧ (ovP x y).2 = 0 ∧ (ovP y x).2 = 0 := by
 unfold stepE at h
 split at h
 ·omega
 ·rename_i hg
  have hpl : plB x y = false := by
   cases hb : plB x y with
   | false => rfl
   | true => exact absurd (show hgB x y = true by rw [hgB, hb, Bool.true_or]) hg
  split at h
  ·rename_i h2; exact ⟨hpl, h, h2⟩
  ·rename_i h2; exact absurd h h2
theorem step_symm {x y : Mk} (h : stepE x y = 0) : stepE y x = 0 := by
 obtain ⟨h1, h2, h3⟩ := step_all h
 have : hgB y x = false := by
  rw [hgB, plB_symm, h1, h2, h3]; rfl
 rw [stepE, this, if_neg (by simp), if_pos h2, h3]
/-- a square: both carried over each other. -/
theorem square {x y : Mk} {s s1 s2 : List Pt} (h1 : RP x s s1) (h2 : RP y s s2) (h : stepE x y = 0) : ∃ t, RP (ovP y x).1 s1 t ∧ RP (ovP x y).1 s2 t := by
 obtain ⟨hp, e1, e2⟩ := step_all h
 obtain ⟨u, hu⟩ := ovP_ok e2
 obtain ⟨v, hv⟩ := ovP_ok e1
 obtain ⟨t1, t2⟩ := tie (RP_mk h1) (RP_mk h2) hu hv (plB_no hp)
 obtain ⟨⟨k1, k2, k3, k4, k5, -⟩, -⟩ := order_keep hu
 obtain ⟨-, q1, q2, q3, q4, q5, -⟩ := order_keep hv
 have hux : u = invM (ovP x y).1 := by
  have : invM (ovP x y).1 = { invM x with part := (ovP x y).1.part, word := (ovP x y).1.word } := by
   simp only [invM, q1, q2, q3, q4, q5]
  rw [this, ← t1, ← t2]
  cases u
  simp only at k1 k2 k3 k4 k5
  simp only [k1, k2, k3, k4, k5]
 obtain ⟨t, r1, r2⟩ := diamond (RP_inv h1) h2 hu
 rw [hux] at r2
 have := RP_inv r2
 rw [invM_inv] at this
 exact ⟨t, r1, this⟩
def Carry : List Mk → Mk → List Mk → Mk → Prop
 | [], y, xs', y' => xs' = [] ∧ y' = y
 | x :: xs, y, xs', y' => ∃ r, (stepE x y = 0 ∧ xs' = (ovP x y).1 :: r) ∧ Carry xs (ovP y x).1 r y'
theorem inL_carry {xs : List Mk} {i : Nat} {y y' : Mk} {acc r : List Mk} (h : inL i xs y acc = .inl (r, y')) : ∃ xs', r = acc ++ xs' ∧ Carry xs y xs' y' := by
 induction xs generalizing i y acc with
 | nil =>
  rw [inL] at h
  injection h with h; injection h with h1 h2
  exact ⟨[], by simp [h1], rfl, h2.symm⟩
 | cons x xs ih =>
  rw [inL] at h
  split at h
  ·rename_i h0
   obtain ⟨xs', h1, h2⟩ := ih h
   exact ⟨(ovP x y).1 :: xs', by rw [h1]; simp, xs', ⟨h0, rfl⟩, h2⟩
  ·cases h
theorem carry_RPs {xs : List Mk} {y y' : Mk} {xs' : List Mk} {s sn s' : List Pt} (h1 : RPs xs s sn) (h2 : RP y s s') (h : Carry xs y xs' y') : ∃ t, RP y' sn t ∧ RPs xs' s' t := by
 induction xs generalizing y xs' s s' with
 | nil =>
  obtain ⟨rfl, rfl⟩ := h
  cases h1
  exact ⟨s', h2, rfl⟩
 | cons x xs ih =>
  obtain ⟨r, ⟨h0, rfl⟩, hc⟩ := h
  obtain ⟨s1, a1, a2⟩ := h1
  obtain ⟨t, q1, q2⟩ := square a1 h2 h0
  obtain ⟨t', p1, p2⟩ := ih a2 q1 hc
  exact ⟨t', p1, t, q2, p2⟩
/-- the second marks carried over the first ones; what they become, what the first ones become. -/
def Gr : List Mk → List Mk → List Mk → List Mk → Prop
 | [], xs, bs', xs' => bs' = [] ∧ xs' = xs
 | y :: bs, xs, bs', xs' => ∃ xs1 y' r, (Carry xs y xs1 y' ∧ bs' = y' :: r) ∧ Gr bs xs1 r xs'
theorem mgF_Gr {bs : List Mk} {k : Nat} {xs out : List Mk} (h : (mgF bs k xs out).2.2 = 0) (hz : ∀ xs' y, ∀ i e, inL 0 xs' y [] = .inr (i, e) → e ≠ 0) : ∃ bs' xs', (mgF bs k xs out).1 = out ++ bs' ∧ Gr bs xs bs' xs' := by
 induction bs generalizing k xs out with
 | nil => exact ⟨[], xs, by simp [mgF], rfl, rfl⟩
 | cons y bs ih =>
  rw [mgF] at h ⊢
  rcases hi : inL 0 xs y [] with ⟨xs1, y'⟩ | ⟨i, e⟩
  ·rw [hi] at h
   simp only at h ⊢
   obtain ⟨bs', xs', e1, e2⟩ := ih h
   obtain ⟨xs2, e3, e4⟩ := inL_carry hi
   refine ⟨y' :: bs', xs', by rw [e1]; simp, xs1, y', bs', ⟨?_, rfl⟩, e2⟩
   rw [e3]; simpa using e4
  ·rw [hi] at h
   exact absurd h (hz _ _ _ _ hi)
theorem inL_ne {xs : List Mk} {i j : Nat} {y : Mk} {acc : List Mk} {e : Int} (h : inL i xs y acc = .inr (j, e)) : e ≠ 0 := by
 induction xs generalizing i y acc with
 | nil => rw [inL] at h; cases h
 | cons x xs ih =>
  rw [inL] at h
  split at h
  ·exact ih h
  ·rename_i h0; injection h with h; injection h with _ h; rw [← h]; exact h0
theorem Gr_RPs {bs : List Mk} {xs bs' xs' : List Mk} {s sn sm : List Pt} (h1 : RPs xs s sn) (h2 : RPs bs s sm) (h : Gr bs xs bs' xs') : ∃ t, RPs bs' sn t ∧ RPs xs' sm t := by
 induction bs generalizing xs bs' s sn with
 | nil =>
  obtain ⟨rfl, rfl⟩ := h
  cases h2
  exact ⟨sn, rfl, h1⟩
 | cons y bs ih =>
  obtain ⟨xs1, y', r, ⟨hc, rfl⟩, hg⟩ := h
  obtain ⟨s1, a1, a2⟩ := h2
  obtain ⟨t, q1, q2⟩ := carry_RPs h1 a1 hc
  obtain ⟨t', p1, p2⟩ := ih q2 a2 hg
  exact ⟨t', ⟨t, q1, p1⟩, p2⟩
theorem Gr_col {bs : List Mk} {x : Mk} {xs bs' X : List Mk} (h : Gr bs (x :: xs) bs' X) : ∃ bs1 x' xs', (X = x' :: xs' ∧ Carry bs x bs1 x') ∧ Gr bs1 xs bs' xs' := by
 induction bs generalizing x xs bs' with
 | nil =>
  obtain ⟨rfl, rfl⟩ := h
  exact ⟨[], x, xs, ⟨rfl, rfl, rfl⟩, rfl, rfl⟩
 | cons y bs ih =>
  obtain ⟨xs1, y', r, ⟨⟨c, ⟨h0, rfl⟩, hc⟩, rfl⟩, hg⟩ := h
  obtain ⟨bs1, x', xs', ⟨rfl, e1⟩, e2⟩ := ih hg
  exact ⟨(ovP y x).1 :: bs1, x', xs', ⟨rfl, bs1, ⟨step_symm h0, rfl⟩, e1⟩, c, y', r, ⟨hc, rfl⟩, e2⟩
theorem Gr_nil {bs bs' xs' : List Mk} (h : Gr bs [] bs' xs') : bs' = bs ∧ xs' = [] := by
 induction bs generalizing bs' with
 | nil => obtain ⟨rfl, rfl⟩ := h; exact ⟨rfl, rfl⟩
 | cons y bs ih =>
  obtain ⟨xs1, y', r, ⟨⟨rfl, rfl⟩, rfl⟩, hg⟩ := h
  obtain ⟨rfl, rfl⟩ := ih hg
  exact ⟨rfl, rfl⟩
theorem Gr_tr {bs xs bs' xs' : List Mk} (h : Gr bs xs bs' xs') : Gr xs bs xs' bs' := by
 induction xs generalizing bs xs' with
 | nil => exact ⟨(Gr_nil h).2, (Gr_nil h).1⟩
 | cons x xs ih =>
  obtain ⟨bs1, x', r, ⟨rfl, e1⟩, e2⟩ := Gr_col h
  exact ⟨bs1, x', r, ⟨e1, rfl⟩, ih e2⟩
theorem carry_det {xs : List Mk} {y y1 y2 : Mk} {a b : List Mk} (h1 : Carry xs y a y1) (h2 : Carry xs y b y2) : a = b ∧ y1 = y2 := by
 induction xs generalizing y a b with
 | nil => obtain ⟨rfl, rfl⟩ := h1; obtain ⟨rfl, rfl⟩ := h2; exact ⟨rfl, rfl⟩
 | cons x xs ih =>
  obtain ⟨r, ⟨-, rfl⟩, c1⟩ := h1
  obtain ⟨r2, ⟨-, rfl⟩, c2⟩ := h2
  obtain ⟨rfl, rfl⟩ := ih c1 c2
  exact ⟨rfl, rfl⟩
theorem Gr_det {bs xs a b c d : List Mk} (h1 : Gr bs xs a b) (h2 : Gr bs xs c d) : a = c ∧ b = d := by
 induction bs generalizing xs a c with
 | nil => obtain ⟨rfl, rfl⟩ := h1; obtain ⟨rfl, rfl⟩ := h2; exact ⟨rfl, rfl⟩
 | cons y bs ih =>
  obtain ⟨x1, y1, r1, ⟨c1, rfl⟩, g1⟩ := h1
  obtain ⟨x2, y2, r2, ⟨c2, rfl⟩, g2⟩ := h2
  obtain ⟨rfl, rfl⟩ := carry_det c1 c2
  obtain ⟨rfl, rfl⟩ := ih g1 g2
  exact ⟨rfl, rfl⟩
theorem mgV_ok {a b : List Mk} (h : (mgV a b).2.2 = 0) : ∃ bs' xs', (mgV a b).1 = a ++ bs' ∧ Gr b a bs' xs' := by
 unfold mgV at h ⊢
 by_cases h1 : mgE a b = 0
 ·rw [if_pos h1] at h ⊢
  by_cases h2 : 60 < a.length + b.length
  ·rw [if_pos h2] at h; simp at h
  ·rw [if_neg h2] at h ⊢
   exact mgF_Gr h fun _ _ _ _ he => inL_ne he
 ·rw [if_neg h1] at h; exact absurd h h1
theorem merge_same {a b : List Mk} {l c d : List Pt} (h1 : (mgV a b).2.2 = 0) (h2 : (mgV b a).2.2 = 0) (hc : RPs (mgV a b).1 l c) (hd : RPs (mgV b a).1 l d) : c = d := by
 obtain ⟨bs', xs', e1, g1⟩ := mgV_ok h1
 obtain ⟨as', ys', e2, g2⟩ := mgV_ok h2
 rw [e1] at hc
 rw [e2] at hd
 obtain ⟨sn, p1, p2⟩ := RPs_append.1 hc
 obtain ⟨sm, q1, q2⟩ := RPs_append.1 hd
 obtain ⟨rfl, rfl⟩ := Gr_det (Gr_tr g2) g1
 obtain ⟨t, r1, r2⟩ := Gr_RPs p1 q1 g1
 exact (apF_det p2 r1).trans (apF_det r2 q2)
end Go.Proofs.Ytenohgpackcjbaa
