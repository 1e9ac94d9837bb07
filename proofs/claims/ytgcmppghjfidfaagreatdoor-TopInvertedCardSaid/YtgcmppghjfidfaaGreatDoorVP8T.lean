/-
 Chapter 8, plain: what a mark does to a copy, as an exchange of pieces.
-/
import Derived.Test.YtgcmppghjfidfaaGreatDoorVP8D
import Derived.Test.YtgcmppghjfidfaaGreatDoorVGE
namespace Go.Proofs.YtgcmppghjfidfaaGreatDoor
open Go Go.Vx
set_option linter.unusedSimpArgs false
set_option linter.unusedVariables false
theorem apV_mid {P Q : List Pt} {p : Pt} {m : Mk} (hp : m.part = (P.length : Int)) : apV (P ++ p :: Q) m =
  if (if m.mark = 2 then (p.words.length : Int) else if m.mark = 4 then (p.words.length : Int) - 2 else if m.mark = 6 then 100 else if m.mark = 7 then 0 else (p.words.length : Int) - 1) < m.word ∨ (m.mark = 6 ∧ m.part = (P ++ p :: Q).length - 1) then ([], 6)
  else if ((m.mark = 1 ∨ m.mark = 3) ∧ p.words.getD m.word.toNat em ≠ m.old) ∨ (m.mark = 6 ∧ ((p.words.length : Int) ≠ m.word ∨ ((P ++ p :: Q).getD (P.length + 1) ⟨0, []⟩).kind ≠ m.kind)) ∨ (m.mark = 7 ∧ p.kind ≠ m.was) then ([], 13)
  else chk (apL (P ++ p :: Q) m P.length m.word.toNat p) := by
 have e : (P ++ p :: Q)[P.length]'(by simp) = p := by simp
 rw [apV_at m hp (by simp), e]
theorem split1 {α : Type} {l : List α} {i : Nat} (h : i < l.length) : ∃ A u B, l = A ++ u :: B ∧ A.length = i := ⟨l.take i, l[i], l.drop (i + 1), by simp, by simp; omega⟩
theorem split2 {α : Type} {l : List α} {i : Nat} (h : i + 1 < l.length) : ∃ A u v B, l = A ++ u :: v :: B ∧ A.length = i := by
 obtain ⟨A, u, B, rfl, rfl⟩ := split1 (l := l) (i := i) (by omega)
 cases B with
 | nil => simp at h
 | cons v B => exact ⟨A, u, v, B, rfl, rfl⟩
theorem ite_two {c1 c2 : Prop} [Decidable c1] [Decidable c2] {x : List Pt × Int} {l' : List Pt} (h : (if c1 then ([], 6) else if c2 then ([], 13) else x) = (l', 0)) : ¬ c1 ∧ ¬ c2 ∧ x = (l', 0) := by
 by_cases h1 : c1
 ·rw [if_pos h1] at h; simp at h
 ·rw [if_neg h1] at h
  by_cases h2 : c2
  ·rw [if_pos h2] at h; simp at h
  ·rw [if_neg h2] at h; exact ⟨h1, h2, h⟩
theorem apV_RP {l l' : List Pt} {m : Mk} (hm : mkErr m = 0) (h : apV l m = (l', 0)) : RP m l l' := by
 obtain ⟨hk, hr, -, -⟩ := mk_ok hm
 obtain ⟨⟨p0, -⟩, w0, -⟩ := inR_b hr
 obtain ⟨i, hp⟩ : ∃ i : Nat, m.part = i := ⟨m.part.toNat, by omega⟩
 obtain ⟨k, hw⟩ : ∃ k : Nat, m.word = k := ⟨m.word.toNat, by omega⟩
 by_cases hi : i < l.length
 case neg =>
  have : apV l m = ([], 6) := by rw [apV, hp, Int.toNat_natCast, List.getElem?_eq_none (by omega)]
  rw [this] at h; simp at h
 obtain ⟨P, p, Q, rfl, rfl⟩ := split1 hi
 rw [apV_mid hp] at h
 obtain ⟨c1, c2, h⟩ := ite_two h
 have hl : apL (P ++ p :: Q) m P.length m.word.toNat p = l' := by
  unfold chk at h
  split at h
  ·exact congrArg Prod.fst h
  ·rename_i hn; exact absurd (congrArg Prod.snd h) hn
 subst hl
 rw [hw, Int.toNat_natCast] at c2
 rw [hw, Int.toNat_natCast]
 rw [hw] at c1
 obtain ⟨κ, w⟩ := p
 simp only at c1 c2
 have hc : m.mark = 1 ∨ m.mark = 2 ∨ m.mark = 3 ∨ m.mark = 4 ∨ m.mark = 5 ∨ m.mark = 6 ∨ m.mark = 7 := by omega
 rcases hc with c | c | c | c | c | c | c
 ·simp [c] at c1 c2
  obtain ⟨A, u, B, rfl, rfl⟩ := split1 (l := w) (i := k) (by omega)
  have c2 : u = m.old := by simpa using c2
  exact ⟨P, [⟨κ, A ++ u :: B⟩], [⟨κ, A ++ B⟩], Q, ⟨hp.symm, .inl ⟨by rw [ow_iff]; omega, κ, _, _, ⟨rfl, rfl⟩, A, [m.old], [], B, ⟨hw.symm, .inl ⟨c, rfl, rfl⟩⟩, by simp [c2], by simp⟩⟩, by simp, by simp [apL, c]⟩
 ·simp [c] at c1 c2
  refine ⟨P, [⟨κ, w⟩], [⟨κ, w.take k ++ [m.new] ++ w.drop k⟩], Q, ⟨hp.symm, .inl ⟨by rw [ow_iff]; omega, κ, _, _, ⟨rfl, rfl⟩, w.take k, [], [m.new], w.drop k, ⟨?_, .inr (.inl ⟨c, rfl, rfl⟩)⟩, by simp, by simp⟩⟩, by simp, by simp [apL, c, insP]⟩
  rw [List.length_take]; omega
 ·simp [c] at c1 c2
  obtain ⟨A, u, B, rfl, rfl⟩ := split1 (l := w) (i := k) (by omega)
  have c2 : u = m.old := by simpa using c2
  exact ⟨P, [⟨κ, A ++ u :: B⟩], [⟨κ, A ++ m.new :: B⟩], Q, ⟨hp.symm, .inl ⟨by rw [ow_iff]; omega, κ, _, _, ⟨rfl, rfl⟩, A, [m.old], [m.new], B, ⟨hw.symm, .inr (.inr (.inl ⟨c, rfl, rfl⟩))⟩, by simp [c2], by simp⟩⟩, by simp, by simp [apL, c]⟩
 ·simp [c] at c1 c2
  obtain ⟨A, u, v, B, rfl, rfl⟩ := split2 (l := w) (i := k) (by omega)
  exact ⟨P, [⟨κ, A ++ u :: v :: B⟩], [⟨κ, A ++ v :: u :: B⟩], Q, ⟨hp.symm, .inl ⟨by rw [ow_iff]; omega, κ, _, _, ⟨rfl, rfl⟩, A, [u, v], [v, u], B, ⟨hw.symm, .inr (.inr (.inr ⟨c, u, v, rfl, rfl⟩))⟩, by simp, by simp⟩⟩, by simp, by simp [apL, c]⟩
 ·simp [c] at c1 c2
  refine ⟨P, [⟨κ, w⟩], [⟨κ, w.take k⟩, ⟨m.kind, w.drop k⟩], Q, ⟨hp.symm, .inr (.inl ⟨c, κ, w.take k, w.drop k, ?_, by simp, rfl⟩)⟩, by simp, by simp [apL, c]⟩
  rw [List.length_take]; omega
 ·simp [c] at c1 c2
  cases Q with
  | nil => simp at c1; omega
  | cons q Q =>
   obtain ⟨κ', w'⟩ := q
   have c3 : κ' = m.kind := by simpa using c2.2
   have c4 : w.length = k := by omega
   exact ⟨P, [⟨κ, w⟩, ⟨κ', w'⟩], [⟨κ, w ++ w'⟩], Q, ⟨hp.symm, .inr (.inr (.inl ⟨c, κ, w, w', by omega, by rw [c3], rfl⟩))⟩, by simp, by simp [apL, c]⟩
 ·simp [c] at c1 c2
  exact ⟨P, [⟨κ, w⟩], [⟨m.kind, w⟩], Q, ⟨hp.symm, .inr (.inr (.inr ⟨c, w, by rw [c2], rfl⟩))⟩, by simp, by simp [apL, c]⟩
theorem RP_apV {l l' : List Pt} {m : Mk} (hm : mkErr m = 0) (h : RP m l l') (hr : (partsErr l').2 = 0) : apV l m = (l', 0) := by
 obtain ⟨hk, hin, -, -⟩ := mk_ok hm
 obtain ⟨⟨p0, -⟩, w0, w100⟩ := inR_b hin
 have hne := (parts_ok hr).2
 have fin : ∀ {x : List Pt}, x = l' → chk x = (l', 0) := by rintro x rfl; rw [chk, if_pos hr]
 obtain ⟨P, U, V, Q, ⟨p1, g⟩, rfl, rfl⟩ := h
 rcases g with ⟨ho, κ, w, w', ⟨rfl, rfl⟩, A, X, Y, B, ⟨q1, q2⟩, rfl, rfl⟩ | ⟨c, κ, A, B, hA, rfl, rfl⟩ | ⟨c, κ, A, B, hA, rfl, rfl⟩ | ⟨c, w, rfl, rfl⟩
 ·have hwk : m.word.toNat = A.length := by omega
  rw [show P ++ [(⟨κ, A ++ X ++ B⟩ : Pt)] ++ Q = P ++ ⟨κ, A ++ X ++ B⟩ :: Q by simp, apV_mid p1.symm, hwk]
  rcases q2 with ⟨c, rfl, rfl⟩ | ⟨c, rfl, rfl⟩ | ⟨c, rfl, rfl⟩ | ⟨c, u, v, rfl, rfl⟩
  ·rw [if_neg (by simp [c]; omega), if_neg (by simp [c])]
   exact fin (by simp [apL, c])
  ·rw [if_neg (by simp [c]; omega), if_neg (by simp [c])]
   exact fin (by simp [apL, c, insP])
  ·rw [if_neg (by simp [c]; omega), if_neg (by simp [c])]
   exact fin (by simp [apL, c])
  ·rw [if_neg (by simp [c]; omega), if_neg (by simp [c])]
   exact fin (by simp [apL, c])
 ·have hwk : m.word.toNat = A.length := by omega
  have hB := (hne ⟨m.kind, B⟩ (by simp)).1
  simp only at hB
  rw [show P ++ [(⟨κ, A ++ B⟩ : Pt)] ++ Q = P ++ ⟨κ, A ++ B⟩ :: Q by simp, apV_mid p1.symm, hwk]
  rw [if_neg (by simp [c]; omega), if_neg (by simp [c])]
  exact fin (by simp [apL, c])
 ·have hwk : m.word.toNat = A.length := by omega
  rw [show P ++ [(⟨κ, A⟩ : Pt), ⟨m.kind, B⟩] ++ Q = P ++ ⟨κ, A⟩ :: (⟨m.kind, B⟩ :: Q) by simp, apV_mid p1.symm, hwk]
  rw [if_neg (by simp [c]; omega), if_neg (by simp [c]; omega)]
  exact fin (by simp [apL, c])
 ·rw [show P ++ [(⟨m.was, w⟩ : Pt)] ++ Q = P ++ ⟨m.was, w⟩ :: Q by simp, apV_mid p1.symm]
  have h7 : m.word = 0 := by
   have := (mk_ok hm).2.2.2
   unfold bdE at this
   split at this
   ·omega
   ·rename_i hn; exact Decidable.byContradiction fun hc => hn (.inr ⟨c, hc⟩)
  rw [if_neg (by simp [c]; omega), if_neg (by simp [c])]
  exact fin (by simp [apL, c])
theorem EW_inv {m : Mk} {X Y : List ByteArray} (h : EW m X Y) : EW (invM m) Y X := by
 rcases h with ⟨c, rfl, rfl⟩ | ⟨c, rfl, rfl⟩ | ⟨c, rfl, rfl⟩ | ⟨c, u, v, rfl, rfl⟩
 ·exact .inr (.inl ⟨by simp [invM, invK, c], rfl, rfl⟩)
 ·exact .inl ⟨by simp [invM, invK, c], rfl, rfl⟩
 ·exact .inr (.inr (.inl ⟨by simp [invM, invK, c], rfl, rfl⟩))
 ·exact .inr (.inr (.inr ⟨by simp [invM, invK, c], v, u, rfl, rfl⟩))
theorem RP_inv {m : Mk} {l l' : List Pt} (h : RP m l l') : RP (invM m) l' l := by
 obtain ⟨P, U, V, Q, ⟨p1, g⟩, rfl, rfl⟩ := h
 refine ⟨P, V, U, Q, ⟨p1, ?_⟩, rfl, rfl⟩
 rcases g with ⟨ho, κ, w, w', ⟨rfl, rfl⟩, A, X, Y, B, ⟨q1, q2⟩, rfl, rfl⟩ | ⟨c, κ, A, B, hA, rfl, rfl⟩ | ⟨c, κ, A, B, hA, rfl, rfl⟩ | ⟨c, w, rfl, rfl⟩
 ·refine .inl ⟨?_, κ, _, _, ⟨rfl, rfl⟩, A, Y, X, B, ⟨q1, EW_inv q2⟩, rfl, rfl⟩
  rw [ow_iff] at ho ⊢
  simp only [invM, invK]
  repeat' split
  all_goals omega
 ·have ck : (invM m).kind = m.kind := by simp [invM, c]
  exact .inr (.inr (.inl ⟨by simp [invM, invK, c], κ, A, B, hA, by rw [ck], rfl⟩))
 ·have ck : (invM m).kind = m.kind := by simp [invM, c]
  exact .inr (.inl ⟨by simp [invM, invK, c], κ, A, B, hA, rfl, by rw [ck]⟩)
 ·have ck : (invM m).kind = m.was ∧ (invM m).was = m.kind := by simp [invM, c]
  exact .inr (.inr (.inr ⟨by simp [invM, invK, c], w, by rw [ck.2], by rw [ck.1]⟩))
/-- a chain of marks. -/
def RPs : List Mk → List Pt → List Pt → Prop
 | [], l, l' => l = l'
 | m :: ms, l, l' => ∃ x, RP m l x ∧ RPs ms x l'
theorem apF_RPs {ms : List Mk} {l : List Pt} {k : Nat} (hm : ∀ m ∈ ms, mkErr m = 0) (h : (apF l k ms).2.2 = 0) : RPs ms l (apF l k ms).1 ∧ ((partsErr l).2 = 0 → (partsErr (apF l k ms).1).2 = 0) := by
 induction ms generalizing l k with
 | nil => exact ⟨rfl, fun h => h⟩
 | cons m ms ih =>
  rw [apF] at h ⊢
  by_cases hv : (apV l m).2 = 0
  ·rw [if_pos hv] at h ⊢
   obtain ⟨i1, i2⟩ := ih (fun x hx => hm x (List.mem_cons_of_mem _ hx)) h
   exact ⟨⟨_, apV_RP (hm m List.mem_cons_self) (Prod.ext rfl hv), i1⟩, fun _ => i2 (apV_ok hv)⟩
  ·rw [if_neg hv] at h; exact absurd h hv
end Go.Proofs.YtgcmppghjfidfaaGreatDoor
