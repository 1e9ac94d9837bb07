/-
 Chapter 8, plain: what a mark does to a copy, as an exchange of pieces.
-/
import Derived.Test.YtenohgpackcjbaaVP8D
import Derived.Test.YtenohgpackcjbaaVGN
namespace Go.Proofs.Ytenohgpackcjbaa
open Go Go.Vx
set_option linter.unusedSimpArgs false
set_option linter.unusedVariables false
theorem apV_mid {P Q : List Pt} {p : Pt} {m : Mk} (hp : m.part = (P.length : Int)) : apV (P ++ p :: Q) m =
  if (if m.mark = 2 then (p.words.length : Int) else if m.mark = 4 then (p.words.length : Int) - 2 else if m.mark = 6 then 100 else if m.mark = 7 then 0 else (p.words.length : Int) - 1) < m.word ∨ (m.mark = 6 ∧ m.part = (P ++ p :: Q).length - 1) then ([], 6)
  else if ((m.mark = 1 ∨ m.mark = 3) ∧ p.words.getD m.word.toNat em ≠ m.old) ∨ (m.mark = 6 ∧ ((p.words.length : Int) ≠ m.word ∨ ((P ++ p :: Q).getD (P.length + 1) ⟨0, []⟩).kind ≠ m.kind)) ∨ (m.mark = 7 ∧ p.kind ≠ m.was) then ([], 13)
  else chk (apL (P ++ p :: Q) m P.length m.word.toNat p) := by
 have e : (P ++ p :: Q)[P.length]'(by simp) = p := by simp
 rw [apV_at m hp (by simp), e]
theorem split1 {α : Type} {l : List α} {i : Nat} (h : i < l.length) : ∃ A u B, l = A ++ u :: B ∧ A.length = i := ⟨l.take i, l[i], l.drop (i + 1), by simp, by simp; omega⟩
theorem split2 {α : Type} {l : List α} {i : Nat} (h : i + 1 < l.length) : ∃ A u v B, l = A ++ u :: v :: B ∧ A.length = i := by
 obtain ⟨A, u, B, rfl, rfl⟩ := split1 (l := l) (i := i) (by omega)
 cases B with
 | nil => simp at h
 | cons v B => exact ⟨A, u, v, B, rfl, rfl⟩
theorem ite_two {c1 c2 : Prop} [Decidable c1] [Decidable c2] {x : List Pt × Int} {l' : List Pt} (h : (if c1 then ([], 6) else if c2 then ([], 13) else x) = (l', 0)) : ¬ c1 ∧ ¬ c2 ∧ x = (l', 0) := by
 by_cases h1 : c1
 ·rw [if_pos h1] at h; simp at h
 ·rw [if_neg h1] at h
  by_cases h2 : c2
  ·rw [if_pos h2] at h; simp at h
  ·rw [if_neg h2] at h; exact ⟨h1, h2, h⟩
theorem apV_RP {l l' : List Pt} {m : Mk} (hm : mkErr m = 0) (h : apV l m = (l', 0)) : RP m l l' := by
 obtain ⟨hk, hr, -, -⟩ := mk_ok hm
 obtain ⟨⟨p0, -⟩, w0, -⟩ := inR_b hr
 obtain ⟨i, hp⟩ : ∃ i : Nat, m.part = i := ⟨m.part.toNat, by omega⟩
 obtain ⟨k, hw⟩ : ∃ k : Nat, m.word = k := ⟨m.word.toNat, by omega⟩
 by_cases hi : i < l.length
 case neg =>
  have : apV l m = ([], 6) := by rw [apV, hp, Int.toNat_natCast, List.getElem?_eq_none (by omega)]
  rw [this] at h; simp at h
 obtain ⟨P, p, Q, rfl, rfl⟩ := split1 hi
 rw [apV_mid hp] at h
 obtain ⟨c1, c2, h⟩ := ite_two h
 have hl : apL (P ++ p :: Q) m P.length m.word.toNat p = l' := by
  unfold chk at h
  split at h
  ·exact congrArg Prod.fst h
  ·rename_i hn; exact absurd (congrArg Prod.snd h) hn
 subst hl
 rw [hw, Int.toNat_natCast] at c2
 rw [hw, Int.toNat_natCast]
 rw [hw] at c1
 obtain ⟨κ, w⟩ := p
 simp only at c1 c2
 have hc : m.mark = 1 ∨ m.mark = 2 ∨ m.mark = 3 ∨ m.mark = 4 ∨ m.mark = 5 ∨ m.mark = 6 ∨ m.mark = 7 := by omega
 rcases hc with c | c | c | c | c | c | c
 ·simp [c] at c1 c2
  obtain ⟨A, u, B, rfl, rfl⟩ := split1 (l := w) (i := k) (by omega)
  have c2 : u = m.old := by simpa using c2
  exact ⟨P, [⟨κ, A ++ u :: B⟩], [⟨κ, A ++ B⟩], Q, ⟨hp.symm, .inl ⟨by rw [ow_iff]; omega, κ, _, _, ⟨rfl, rfl⟩, A, [m.old], [], B, ⟨hw.symm, .inl ⟨c, rfl, rfl⟩⟩, by simp [c2], by simp⟩⟩, by simp, by simp [apL, c]⟩
 ·simp [c] at c1 c2
  refine ⟨P, [⟨κ, w⟩], [⟨κ, w.take k ++ [m.new] ++ w.drop k⟩], Q, ⟨hp.symm, .inl ⟨by rw [ow_iff]; omega, κ, _, _, ⟨rfl, rfl⟩, w.take k, [], [m.new], w.drop k, ⟨?_, .inr (.inl ⟨c, rfl, rfl⟩)⟩, by simp, by simp⟩⟩, by simp, by simp [apL, c, insP]⟩
  rw [List.length_take]; omega
 ·simp [c] at c1 c2
  obtain ⟨A, u, B, rfl, rfl⟩ := split1 (l := w) (i := k) (by omega)
  have c2 : u = m.old := by simpa using c2
  exact ⟨P, [⟨κ, A ++ u :: B⟩], [⟨κ, A ++ m.new :: B⟩], Q, ⟨hp.symm, .inl ⟨by rw [ow_iff]; omega, κ, _, _, ⟨rfl, rfl⟩, A, [m.old], [m.new], B, ⟨hw.symm, .inr (.inr (.inl ⟨c, rfl, rfl⟩))⟩, by simp [c2], by simp⟩⟩, by simp, by simp [apL, c]⟩
 ·simp [c] at c1 c2
  obtain ⟨A, u, v, B, rfl, rfl⟩ := split2 (l := w) (i := k) (by omega)
  exact ⟨P, [⟨κ, A ++ u :: v :: B⟩], [⟨κ, A ++ v :: u :: B⟩], Q, ⟨hp.symm, .inl ⟨by rw [ow_iff]; omega, κ, _, _, ⟨rfl, rfl⟩, A, [u, v], [v, u], B, ⟨hw.symm, .inr (.inr (.inr ⟨c, u, v, rfl, rfl⟩))⟩, by simp, by simp⟩⟩, by simp, by simp [apL, c]⟩
 ·simp [c] at c1 c2
  refine ⟨P, [⟨κ, w⟩], [⟨κ, w.take k⟩, ⟨m.kind, w.drop k⟩], Q, ⟨hp.symm, .inr (.inl ⟨c, κ, w.take k, w.drop k, ?_, by simp, rfl⟩)⟩, by simp, by simp [apL, c]⟩
  rw [List.length_take]; omega
 ·simp [c] at c1 c2
  cases Q with
  | nil => simp at c1; omega
  | cons q Q =>
   obtain ⟨κ', w'⟩ := q
   have c3 : κ' = m.kind := by simpa using c2.2
   have c4 : w.length = k := by omega
   exact ⟨P, [⟨κ, w⟩, ⟨κ', w'⟩], [⟨κ, w ++ w'⟩], Q, ⟨hp.symm, .inr (.inr (.inl ⟨c, κ, w, w', by omega, by rw [c3], rfl⟩))⟩, by simp, by simp [apL, c]⟩
 ·simp [c] at c1 c2
  exact ⟨P, [⟨κ, w⟩], [⟨m.kind, w⟩], Q, ⟨hp.symm, .inr (.inr (.inr ⟨c, w, by rw [c2], rfl⟩))⟩, by simp, by simp [apL, c]⟩
theorem EW_inv {m : Mk} {X Y : List ByteArray} (h : EW m X Y) : EW (invM m) Y X := by
 rcases h with ⟨c, rfl, rfl⟩ | ⟨c, rfl, rfl⟩ | ⟨c, rfl, rfl⟩ | ⟨c, u, v, rfl, rfl⟩
 ·exact .inr (.inl ⟨by simp [invM, invK, c], rfl, rfl⟩)
 ·exact .inl ⟨by simp [invM, invK, c], rfl, rfl⟩
 ·exact .inr (.inr (.inl ⟨by simp [invM, invK, c], rfl, rfl⟩))
 ·exact .inr (.inr (.inr ⟨by simp [invM, invK, c], v, u, rfl, rfl⟩))
theorem RP_inv {m : Mk} {l l' : List Pt} (h : RP m l l') : RP (invM m) l' l := by
 obtain ⟨P, U, V, Q, ⟨p1, g⟩, rfl, rfl⟩ := h
 refine ⟨P, V, U, Q, ⟨p1, ?_⟩, rfl, rfl⟩
 rcases g with ⟨ho, κ, w, w', ⟨rfl, rfl⟩, A, X, Y, B, ⟨q1, q2⟩, rfl, rfl⟩ | ⟨c, κ, A, B, hA, rfl, rfl⟩ | ⟨c, κ, A, B, hA, rfl, rfl⟩ | ⟨c, w, rfl, rfl⟩
 ·refine .inl ⟨?_, κ, _, _, ⟨rfl, rfl⟩, A, Y, X, B, ⟨q1, EW_inv q2⟩, rfl, rfl⟩
  rw [ow_iff] at ho ⊢
  simp only [invM, invK]
  repeat' split
  all_goals omega
 ·have ck : (invM m).kind = m.kind := by simp [invM, c]
  exact .inr (.inr (.inl ⟨by simp [invM, invK, c], κ, A, B, hA, by rw [ck], rfl⟩))
 ·have ck : (invM m).kind = m.kind := by simp [invM, c]
  exact .inr (.inl ⟨by simp [invM, invK, c], κ, A, B, hA, rfl, by rw [ck]⟩)
 ·have ck : (invM m).kind = m.was ∧ (invM m).was = m.kind := by simp [invM, c]
  exact .inr (.inr (.inr ⟨by simp [invM, invK, c], w, by rw [ck.2], by rw [ck.1]⟩))
theorem EW_det {m : Mk} {X Y Z : List ByteArray} (h1 : EW m X Y) (h2 : EW m X Z) : Y = Z := by
 rcases h1 with ⟨c, rfl, rfl⟩ | ⟨c, rfl, rfl⟩ | ⟨c, rfl, rfl⟩ | ⟨c, u, v, rfl, rfl⟩ <;> rcases h2 with ⟨d, e, rfl⟩ | ⟨d, e, rfl⟩ | ⟨d, e, rfl⟩ | ⟨d, u', v', e, rfl⟩ <;> first | omega | rfl | simp_all
theorem Sp_det {α : Type} {E : List α → List α → Prop} {n : Int} {l l1 l2 : List α} (hl : ∀ X Y X' Y', E X Y → E X' Y' → X.length = X'.length) (hd : ∀ X Y Z, E X Y → E X Z → Y = Z) (h1 : Sp E n l l1) (h2 : Sp E n l l2) : l1 = l2 := by
 obtain ⟨A, X, Y, B, ⟨a1, a2⟩, rfl, rfl⟩ := h1
 obtain ⟨C, U, V, D, ⟨b1, b2⟩, b3, rfl⟩ := h2
 obtain ⟨rfl, rfl, rfl⟩ := align b3 (by omega) (hl _ _ _ _ a2 b2)
 rw [hd _ _ _ a2 b2]
theorem WW_det {m : Mk} {w w1 w2 : List ByteArray} (h1 : WW m w w1) (h2 : WW m w w2) : w1 = w2 :=
 Sp_det (E := EW m) (fun X Y X' Y' a b => by have := (EW_len _ _ a).1; have := (EW_len _ _ b).1; omega) (fun X Y Z a b => EW_det a b) h1 h2
theorem GP_det {m : Mk} {U V V' : List Pt} (h1 : GP m U V) (h2 : GP m U V') : V = V' := by
 by_cases ho : owB m = true
 ·obtain ⟨κ, w, w', ⟨rfl, rfl⟩, hw⟩ := GP_w h1 ho
  obtain ⟨κ', v, v', ⟨e, rfl⟩, hv⟩ := GP_w h2 ho
  injection e with e; injection e with e1 e2
  subst e1 e2
  rw [WW_det hw hv]
 by_cases h5 : m.mark = 5
 ·obtain ⟨κ, A, B, hA, rfl, rfl⟩ := GP_5 h1 h5
  obtain ⟨κ', A', B', hA', e, rfl⟩ := GP_5 h2 h5
  injection e with e; injection e with e1 e2
  subst e1
  obtain ⟨rfl, rfl⟩ := List.append_inj e2 (by omega)
  rfl
 by_cases h6 : m.mark = 6
 ·obtain ⟨κ, A, B, hA, rfl, rfl⟩ := GP_6 h1 h6
  obtain ⟨κ', A', B', hA', e, rfl⟩ := GP_6 h2 h6
  injection e with e e'; injection e with e1 e2
  injection e' with e3; injection e3 with e3 e4
  subst e1 e2 e4
  rfl
 obtain ⟨-, w, rfl, rfl⟩ := GP_7 h1 (by simpa using ho) h5 h6
 obtain ⟨-, w', e, rfl⟩ := GP_7 h2 (by simpa using ho) h5 h6
 injection e with e; injection e with e1 e2
 subst e2
 rfl
theorem RP_det {m : Mk} {l l1 l2 : List Pt} (h1 : RP m l l1) (h2 : RP m l l2) : l1 = l2 :=
 Sp_det (E := GP m) (fun X Y X' Y' a b => by have := (GP_lenX _ _ a).1; have := (GP_lenX _ _ b).1; omega) (fun X Y Z a b => GP_det a b) h1 h2
/-- a chain of marks. -/
def RPs : List Mk → List Pt → List Pt → Prop
 | [], l, l' => l = l'
 | m :: ms, l, l' => ∃ x, RP m l x ∧ RPs ms x l'
theorem RPs_append {a b : List Mk} {l l' : List Pt} : RPs (a ++ b) l l' ↔ ∃ x, RPs a l x ∧ RPs b x l' := by
 induction a generalizing l with
 | nil => simp [RPs]
 | cons m a ih =>
  simp only [List.cons_append, RPs, ih]
  constructor
  ·rintro ⟨x, h1, y, h2, h3⟩; exact ⟨y, ⟨x, h1, h2⟩, h3⟩
  ·rintro ⟨y, ⟨x, h1, h2⟩, h3⟩; exact ⟨x, h1, y, h2, h3⟩
theorem apF_RPs {ms : List Mk} {l : List Pt} {k : Nat} (hm : ∀ m ∈ ms, mkErr m = 0) (h : (apF l k ms).2.2 = 0) : RPs ms l (apF l k ms).1 ∧ ((partsErr l).2 = 0 → (partsErr (apF l k ms).1).2 = 0) := by
 induction ms generalizing l k with
 | nil => exact ⟨rfl, fun h => h⟩
 | cons m ms ih =>
  rw [apF] at h ⊢
  by_cases hv : (apV l m).2 = 0
  ·rw [if_pos hv] at h ⊢
   obtain ⟨i1, i2⟩ := ih (fun x hx => hm x (List.mem_cons_of_mem _ hx)) h
   exact ⟨⟨_, apV_RP (hm m List.mem_cons_self) (Prod.ext rfl hv), i1⟩, fun _ => i2 (apV_ok hv)⟩
  ·rw [if_neg hv] at h; exact absurd h hv
theorem apF_det {ms : List Mk} {l x y : List Pt} (h1 : RPs ms l x) (h2 : RPs ms l y) : x = y := by
 induction ms generalizing l with
 | nil => exact h1.symm.trans h2
 | cons m ms ih =>
  obtain ⟨u, a1, a2⟩ := h1
  obtain ⟨v, b1, b2⟩ := h2
  have := RP_det a1 b1
  subst this
  exact ih a2 b2
theorem wd_sz {s : ByteArray} (h : isWd s = true) : s.size ≤ 1000000000 := by
 simp [isWd] at h; omega
theorem mk_sz {m : Mk} (h : mkErr m = 0) : MkSz m := by
 obtain ⟨h1, h2, h3, h4⟩ := mk_ok h
 obtain ⟨k, p, w, o, n, a, c⟩ := m
 simp only at h1 h3
 have e0 : em.size ≤ 1000000000 := by decide
 have hc : k = 1 ∨ k = 2 ∨ k = 3 ∨ k = 4 ∨ k = 5 ∨ k = 6 ∨ k = 7 := by omega
 rcases hc with rfl | rfl | rfl | rfl | rfl | rfl | rfl <;> simp [wantB] at h3
 ·exact ⟨wd_sz h3.1, by rw [h3.2.1]; exact e0⟩
 ·exact ⟨by rw [h3.2.1]; exact e0, wd_sz h3.1⟩
 ·exact ⟨wd_sz h3.1.1.1, wd_sz h3.1.1.2⟩
 ·exact ⟨by rw [h3.1]; exact e0, by rw [h3.2.1]; exact e0⟩
 ·exact ⟨by rw [h3.2.1]; exact e0, by rw [h3.2.2.1]; exact e0⟩
 ·exact ⟨by rw [h3.2.1]; exact e0, by rw [h3.2.2.1]; exact e0⟩
 ·exact ⟨by rw [h3.2.1]; exact e0, by rw [h3.2.2]; exact e0⟩
end Go.Proofs.Ytenohgpackcjbaa
