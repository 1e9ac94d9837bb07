/-
 Chapter 8, plain: marks of edits, and what they come to.
-/
import Derived.Test.YtenohgpackcjbaaVP8T
import Derived.Test.YtenohgpackcjbaaVGL
import Derived.Test.YtenohgpackcjbaaVW28
namespace Go.Proofs.Ytenohgpackcjbaa
open Go Go.Vx
set_option linter.unusedSimpArgs false
set_option linter.unusedVariables false
/-- the mark of an edit, if it is one. -/
def moM (part : Int) (a b : List ByteArray) (x : Ed) (k : Nat) : Option Mk :=
 if x.to = -1 then some ⟨1, part, k, a.getD x.fr.toNat em, em, 0, 0⟩
 else if x.fr = -1 then some ⟨2, part, k, em, b.getD x.to.toNat em, 0, 0⟩
 else if a.getD x.fr.toNat em ≠ b.getD x.to.toNat em then some ⟨3, part, k, a.getD x.fr.toNat em, b.getD x.to.toNat em, 0, 0⟩ else none
def moL (part : Int) (a b : List ByteArray) : List Ed → Nat → List Mk
 | [], _ => []
 | x :: l, k => (moM part a b x k).toList ++ moL part a b l (nxI x.to k)
theorem partsE_of : ∀ (l : List Pt) (k : Nat), (∀ p ∈ l, partErr p = 0) → (partsE k l).2 = 0
 | [], _, _ => rfl
 | p :: l, k, h => by rw [partsE, if_pos (h p List.mem_cons_self)]; exact partsE_of l _ fun q hq => h q (List.mem_cons_of_mem _ hq)
theorem parts_of {l : List Pt} (hl : l.length ≤ 60) (h : ∀ p ∈ l, partErr p = 0) : (partsErr l).2 = 0 := by
 rw [partsErr, if_neg (by omega)]; exact partsE_of l 0 h
/-- words that may be compared. -/
def GoodW (s : ByteArray) : Prop := isWd s = true ∧ isMk s = false
theorem part_of {κ : Int} {w : List ByteArray} (hk : 1 ≤ κ ∧ κ ≤ 3) (h0 : 0 < w.length) (h1 : w.length ≤ 100) (hw : ∀ s ∈ w, GoodW s) : partErr ⟨κ, w⟩ = 0 := by
 rw [partErr, if_pos hk, if_neg (by simp only; omega), if_neg (by simp only; omega), if_neg]
 simp only
 rintro (h | h)
 ·rw [List.any_eq_true] at h
  obtain ⟨s, hs, hb⟩ := h
  rw [badW, (hw s hs).1] at hb; cases hb
 ·cases w with
  | nil => simp at h0
  | cons s w =>
   have := (hw s List.mem_cons_self).2
   rw [List.headD_cons, this] at h; cases h
theorem chN_le (a b : List ByteArray) : ∀ i k, dst a b i k ≤ max (i : Int) k
 | 0, 0 => by simp [dst]
 | i + 1, 0 => by have := chN_le a b i 0; rw [dst]; omega
 | 0, k + 1 => by have := chN_le a b 0 k; rw [dst]; omega
 | i + 1, k + 1 => by
  have h1 := chN_le a b i k
  have h4 := chN_b a b i k
  rw [dst]; omega
/-- one step of right edits. -/
theorem edF_step {a b : List ByteArray} {x : Ed} {l : List Ed} {i k c : Nat} (h : (edF a b (x :: l) i k c).2 = 0) :
  (edF a b (x :: l) i k c = edF a b l (nxI x.fr i) (nxI x.to k) (c + edC a b x i k)) ∧
  ((x.to = -1 ∧ (x.fr = i ∧ i < a.length)) ∨ (x.fr = -1 ∧ (x.to = k ∧ k < b.length)) ∨ ((x.fr = i ∧ i < a.length) ∧ (x.to = k ∧ k < b.length))) := by
 rw [edF] at h ⊢
 by_cases h1 : x.fr = -1 ∧ x.to = -1
 ·rw [if_pos h1] at h; simp at h
 ·rw [if_neg h1] at h ⊢
  by_cases h2 : nxOk x.fr i a.length = true ∧ nxOk x.to k b.length = true
  ·rw [if_pos h2]
   refine ⟨rfl, ?_⟩
   simp only [nxOk, Bool.or_eq_true, Bool.and_eq_true, decide_eq_true_eq] at h2
   omega
  ·rw [if_neg h2] at h; simp at h
theorem nxI_m (i : Nat) : nxI (-1) i = i := by rw [nxI, if_pos rfl]
theorem nxI_s (n : Int) (i : Nat) (h : n = i) : nxI n i = i + 1 := by rw [nxI, if_neg (by omega)]
theorem edC_m {a b : List ByteArray} {x : Ed} {i k : Nat} (h : x.fr = -1 ∨ x.to = -1) : edC a b x i k = 1 := by
 rw [edC, if_pos (by rcases h with h | h; exact .inl h; exact .inr (.inl h))]
theorem edF_low {a b : List ByteArray} : ∀ (l : List Ed) (i k c : Nat), (edF a b l i k c).2 = 0 → (c : Int) + (b.length - k) - (a.length - i) ≤ (edF a b l i k c).1
 | [], i, k, c, h => by
  rw [edF] at h ⊢
  by_cases h1 : i = a.length ∧ k = b.length
  ·rw [if_pos h1]; simp only; omega
  ·rw [if_neg h1] at h; simp at h
 | x :: l, i, k, c, h => by
  obtain ⟨he, hc⟩ := edF_step h
  rw [he] at h ⊢
  have := edF_low l _ _ _ h
  rcases hc with ⟨h1, h2, h3⟩ | ⟨h1, h2, h3⟩ | ⟨⟨h1, h2⟩, h3, h4⟩
  ·rw [edC_m (.inr h1), h1, nxI_m, nxI_s _ _ h2] at this ⊢; omega
  ·rw [edC_m (.inl h1), h1, nxI_m, nxI_s _ _ h2] at this ⊢; omega
  ·rw [nxI_s _ _ h1, nxI_s _ _ h3] at this ⊢; omega
theorem moL_len {part : Int} {a b : List ByteArray} : ∀ (l : List Ed) (i k c : Nat), (edF a b l i k c).2 = 0 → ((moL part a b l k).length : Int) + c = (edF a b l i k c).1
 | [], i, k, c, h => by
  rw [edF] at h ⊢
  by_cases h1 : i = a.length ∧ k = b.length
  ·rw [if_pos h1]; simp [moL]
  ·rw [if_neg h1] at h; simp at h
 | x :: l, i, k, c, h => by
  obtain ⟨he, hc⟩ := edF_step h
  rw [he] at h ⊢
  have := moL_len (part := part) l _ _ _ h
  have hm : (moM part a b x k).toList.length = edC a b x i k := by
   rcases hc with ⟨h1, h2, h3⟩ | ⟨h1, h2, h3⟩ | ⟨⟨h1, h2⟩, h3, h4⟩
   ·rw [edC_m (.inr h1), moM, if_pos h1]; rfl
   ·rw [edC_m (.inl h1), moM, if_neg (by omega), if_pos h1]; rfl
   ·rw [moM, if_neg (by omega), if_neg (by omega), edC, h1, h3]
    simp only [Int.toNat_natCast, List.getD_eq_getElem?_getD, List.getElem?_eq_getElem h2, List.getElem?_eq_getElem h4, Option.getD_some]
    by_cases hab : a[i] = b[k]
    ·rw [if_neg (by simp [hab]), if_neg (by simp [hab])]; rfl
    ·rw [if_pos hab, if_pos (by simp [hab])]; rfl
  rw [moL, List.length_append, hm]
  omega
theorem moM_ok {part : Int} {a b : List ByteArray} (hp : 0 ≤ part ∧ part ≤ 59) (hb : b.length ≤ 40) (ha : ∀ s ∈ a, GoodW s) (hbw : ∀ s ∈ b, GoodW s) {x : Ed} {i k : Nat}
  (hc : (x.to = -1 ∧ (x.fr = i ∧ i < a.length)) ∨ (x.fr = -1 ∧ (x.to = k ∧ k < b.length)) ∨ ((x.fr = i ∧ i < a.length) ∧ (x.to = k ∧ k < b.length))) (hk : k ≤ b.length) {m : Mk} (hm : moM part a b x k = some m) : mkErr m = 0 := by
 have hr : ∀ y o n, inR ⟨y, part, (k : Int), o, n, 0, 0⟩ = true := fun y o n => by simp [inR]; omega
 have hd : ∀ y o n, y ≤ 4 → bdE ⟨y, part, (k : Int), o, n, 0, 0⟩ = 0 := fun y o n h => by rw [bdE, if_neg (by simp [ptsB]; omega)]
 have gi : ∀ h : i < a.length, a.getD ((i : Int)).toNat em = a[i] := fun h => by simp [List.getD_eq_getElem?_getD, List.getElem?_eq_getElem h]
 have gk : ∀ h : k < b.length, b.getD ((k : Int)).toNat em = b[k] := fun h => by simp [List.getD_eq_getElem?_getD, List.getElem?_eq_getElem h]
 unfold moM at hm
 rcases hc with ⟨h1, h2, h3⟩ | ⟨h1, h2, h3⟩ | ⟨⟨h1, h2⟩, h3, h4⟩
 ·rw [if_pos h1] at hm
  injection hm with hm; subst hm
  rw [h2, gi h3]
  exact mkErr_of ⟨(by simp : (1:Int) ≤ _), (by simp : _ ≤ (7:Int))⟩ (hr _ _ _) (by simp [wantB, (ha _ (List.getElem_mem h3)).1]) (hd _ _ _ (by decide))
 ·rw [if_neg (by omega), if_pos h1] at hm
  injection hm with hm; subst hm
  rw [h2, gk h3]
  exact mkErr_of ⟨(by simp : (1:Int) ≤ _), (by simp : _ ≤ (7:Int))⟩ (hr _ _ _) (by simp [wantB, (hbw _ (List.getElem_mem h3)).1]) (hd _ _ _ (by decide))
 ·rw [if_neg (by omega), if_neg (by omega), h1, h3, gi h2, gk h4] at hm
  by_cases hab : a[i] = b[k]
  ·rw [if_neg (by simp [hab])] at hm; cases hm
  ·rw [if_pos hab] at hm
   injection hm with hm; subst hm
   exact mkErr_of ⟨(by simp : (1:Int) ≤ _), (by simp : _ ≤ (7:Int))⟩ (hr _ _ _) (by simp [wantB, (ha _ (List.getElem_mem h2)).1, (hbw _ (List.getElem_mem h4)).1, hab]) (hd _ _ _ (by decide))
theorem moL_ok {part : Int} {a b : List ByteArray} (hp : 0 ≤ part ∧ part ≤ 59) (hb : b.length ≤ 40) (ha : ∀ s ∈ a, GoodW s) (hbw : ∀ s ∈ b, GoodW s) : ∀ (l : List Ed) (i k c : Nat), k ≤ b.length → (edF a b l i k c).2 = 0 → ∀ m ∈ moL part a b l k, mkErr m = 0
 | [], i, k, c, _, h, m, hm => by simp [moL] at hm
 | x :: l, i, k, c, hk, h, m, hm => by
  obtain ⟨he, hc⟩ := edF_step h
  rw [he] at h
  have hk' : nxI x.to k ≤ b.length := by
   rw [nxI]; split <;> omega
  rw [moL, List.mem_append] at hm
  rcases hm with hm | hm
  ·exact moM_ok hp hb ha hbw hc hk (by simpa using hm)
  ·exact moL_ok hp hb ha hbw l _ _ _ hk' h m hm
theorem moL_run {P : List Pt} {a b : List ByteArray} (hP : P.length ≤ 59) (okP : ∀ p ∈ P, partErr p = 0) (la : a.length ≤ 40) (lb : b.length ≤ 40) (ha : ∀ s ∈ a, GoodW s) (hbw : ∀ s ∈ b, GoodW s) :
  ∀ (l : List Ed) (i k c n : Nat), i ≤ a.length → k ≤ b.length → (edF a b l i k c).2 = 0 → (i : Int) - k ≤ c → (edF a b l i k c).1 < a.length + b.length →
   apF (P ++ [⟨1, b.take k ++ a.drop i⟩]) n (moL (P.length : Int) a b l k) = (P ++ [⟨1, b⟩], 0, 0)
 | [], i, k, c, n, hi, hk, h, _, _ => by
  rw [edF] at h
  by_cases h1 : i = a.length ∧ k = b.length
  ·rw [h1.1, h1.2, List.take_length, List.drop_length, List.append_nil, moL, apF]
  ·rw [if_neg h1] at h; simp at h
 | x :: l, i, k, c, n, hi, hk, h, hik, hlt => by
  obtain ⟨he, hc⟩ := edF_step h
  rw [he] at h hlt
  have hlow := edF_low _ _ _ _ h
  -- the next words are right
  have hright : ∀ i' k' : Nat, i' ≤ a.length → k' ≤ b.length → (0 < k' ∨ i' < a.length) → (partsErr (P ++ [⟨1, b.take k' ++ a.drop i'⟩])).2 = 0 := fun i' k' h1 h2 h3 => by
   refine parts_of (by simp; omega) fun p hp => ?_
   rcases List.mem_append.1 hp with hp | hp
   ·exact okP p hp
   ·rw [List.mem_singleton] at hp
    subst hp
    refine part_of (by decide) (by simp; omega) (by simp; omega) fun s hs => ?_
    rcases List.mem_append.1 hs with hs | hs
    ·exact hbw s (List.mem_of_mem_take hs)
    ·exact ha s (List.mem_of_mem_drop hs)
  have step : ∀ (m : Mk) (i' k' : Nat), i' ≤ a.length → k' ≤ b.length → (0 < k' ∨ i' < a.length) → mkErr m = 0 → m.part = (P.length : Int) → owB m = true → WW m (b.take k ++ a.drop i) (b.take k' ++ a.drop i') →
    apV (P ++ [⟨1, b.take k ++ a.drop i⟩]) m = (P ++ [⟨1, b.take k' ++ a.drop i'⟩], 0) := fun m i' k' h1 h2 h3 hm hpt ho hw =>
   RP_apV hm ⟨P, [⟨1, b.take k ++ a.drop i⟩], [⟨1, b.take k' ++ a.drop i'⟩], [], ⟨hpt.symm, .inl ⟨ho, 1, _, _, ⟨rfl, rfl⟩, hw⟩⟩, by simp, by simp⟩ (hright i' k' h1 h2 h3)
  have gi : ∀ h : i < a.length, a.getD ((i : Int)).toNat em = a[i] := fun h => by simp [List.getD_eq_getElem?_getD, List.getElem?_eq_getElem h]
  have gk : ∀ h : k < b.length, b.getD ((k : Int)).toNat em = b[k] := fun h => by simp [List.getD_eq_getElem?_getD, List.getElem?_eq_getElem h]
  have htk : ((b.take k).length : Int) = k := by rw [List.length_take]; omega
  rw [moL]
  have hpp : (0 : Int) ≤ (P.length : Int) ∧ (P.length : Int) ≤ 59 := by omega
  have hmo := fun m => moM_ok (part := (P.length : Int)) (x := x) (m := m) hpp lb ha hbw hc hk
  rcases hc with ⟨h1, h2, h3⟩ | ⟨h1, h2, h3⟩ | ⟨⟨h1, h2⟩, h3, h4⟩
  ·rw [edC_m (.inr h1), h1, nxI_m, nxI_s _ _ h2] at h hlt hlow
   have hM : moM (P.length : Int) a b x k = some ⟨1, (P.length : Int), k, a[i], em, 0, 0⟩ := by rw [moM, if_pos h1, h2, gi h3]
   have hs := step _ (i + 1) k (by omega) hk (by omega) (hmo _ hM) rfl (by simp [owB]) ⟨b.take k, [a[i]], [], a.drop (i + 1), ⟨htk, .inl ⟨rfl, rfl, rfl⟩⟩, by simp, by simp⟩
   rw [hM, h1, nxI_m, Option.toList_some, List.singleton_append, apF, hs]
   simp only [if_true]
   exact moL_run hP okP la lb ha hbw l (i + 1) k _ (n + 1) (by omega) hk h (by omega) hlt
  ·rw [edC_m (.inl h1), h1, nxI_m, nxI_s _ _ h2] at h hlt hlow
   have hM : moM (P.length : Int) a b x k = some ⟨2, (P.length : Int), k, em, b[k], 0, 0⟩ := by rw [moM, if_neg (by omega), if_pos h1, h2, gk h3]
   have hs := step _ i (k + 1) hi (by omega) (by omega) (hmo _ hM) rfl (by simp [owB]) ⟨b.take k, [], [b[k]], a.drop i, ⟨htk, .inr (.inl ⟨rfl, rfl, rfl⟩)⟩, by simp, by rw [List.take_succ_eq_append_getElem h3]⟩
   rw [hM, nxI_s _ _ h2, Option.toList_some, List.singleton_append, apF, hs]
   simp only [if_true]
   exact moL_run hP okP la lb ha hbw l i (k + 1) _ (n + 1) hi (by omega) h (by omega) hlt
  ·rw [nxI_s _ _ h1, nxI_s _ _ h3] at h hlt hlow
   rw [nxI_s _ _ h3]
   by_cases hab : a[i] = b[k]
   ·have hM : moM (P.length : Int) a b x k = none := by rw [moM, if_neg (by omega), if_neg (by omega), h1, h3, gi h2, gk h4, if_neg (by simp [hab])]
    have hsame : b.take k ++ a.drop i = b.take (k + 1) ++ a.drop (i + 1) := by
     rw [List.drop_eq_getElem_cons h2, hab, List.take_succ_eq_append_getElem h4, List.append_assoc]; rfl
    rw [hM, hsame, Option.toList_none, List.nil_append]
    exact moL_run hP okP la lb ha hbw l (i + 1) (k + 1) _ n (by omega) (by omega) h (by omega) hlt
   ·have hM : moM (P.length : Int) a b x k = some ⟨3, (P.length : Int), k, a[i], b[k], 0, 0⟩ := by rw [moM, if_neg (by omega), if_neg (by omega), h1, h3, gi h2, gk h4, if_pos hab]
    have hs := step _ (i + 1) (k + 1) (by omega) (by omega) (by omega) (hmo _ hM) rfl (by simp [owB]) ⟨b.take k, [a[i]], [b[k]], a.drop (i + 1), ⟨htk, .inr (.inr (.inl ⟨rfl, rfl, rfl⟩))⟩, by simp, by rw [List.take_succ_eq_append_getElem h4]⟩
    rw [hM, Option.toList_some, List.singleton_append, apF, hs]
    simp only [if_true]
    exact moL_run hP okP la lb ha hbw l (i + 1) (k + 1) _ (n + 1) (by omega) (by omega) h (by omega) hlt
end Go.Proofs.Ytenohgpackcjbaa
