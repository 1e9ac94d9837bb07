/-
  Chapter 6, plain laws: folds that are found.
-/
import Derived.Test.YtfpkpokkgbobmaaVW44
namespace Go.Proofs.Ytfpkpokkgbobmaa
open Go Go.Vx
set_option linter.unusedSimpArgs false
theorem inF_congr {α : Type} {F G : Fold → Option α} {k : Int} : ∀ (m : Nat) (c : Int), (∀ c', c ≤ c' ∧ c' < c + m → F ⟨k, c'⟩ = G ⟨k, c'⟩) → inF F k m c = inF G k m c
  | 0, _, _ => rfl
  | m + 1, c, h => by rw [inF, inF, h c (by omega), inF_congr m (c + 1) fun c' h' => h c' (by omega)]
theorem outF_congr {α : Type} {F G : Fold → Option α} : ∀ (m : Nat) (k : Int), (∀ k' c', k ≤ k' ∧ k' < k + m → 1 ≤ c' ∧ c' ≤ 8 → F ⟨k', c'⟩ = G ⟨k', c'⟩) → outF F m k = outF G m k
  | 0, _, _ => rfl
  | m + 1, k, h => by rw [outF, outF, inF_congr 8 1 fun c' h' => h k c' (by omega) (by omega), outF_congr m (k + 1) fun k' c' h' => h k' c' (by omega)]
theorem or_none' {α : Type} {a b : Option α} (h : a.or b = none) : a = none ∧ b = none := by
  cases a <;> simp_all
theorem inF_none {α : Type} {F : Fold → Option α} {k : Int} : ∀ (m : Nat) (c : Int), inF F k m c = none → ∀ c', c ≤ c' ∧ c' < c + m → F ⟨k, c'⟩ = none
  | 0, _, _, c', h => by omega
  | m + 1, c, h, c', h' => by
    rw [inF] at h
    obtain ⟨h1, h2⟩ := or_none' h
    by_cases hc : c' = c
    · rw [hc]; exact h1
    · exact inF_none m (c + 1) h2 c' (by omega)
theorem outF_none {α : Type} {F : Fold → Option α} : ∀ (m : Nat) (k : Int), outF F m k = none → ∀ k' c', k ≤ k' ∧ k' < k + m → 1 ≤ c' ∧ c' ≤ 8 → F ⟨k', c'⟩ = none
  | 0, _, _, k', _, h, _ => by omega
  | m + 1, k, h, k', c', h', hc => by
    rw [outF] at h
    obtain ⟨h1, h2⟩ := or_none' h
    by_cases hk : k' = k
    · rw [hk]; exact inF_none 8 1 h1 c' (by omega)
    · exact outF_none m (k + 1) h2 k' c' (by omega) hc
theorem search_find {cn : Nat} {cells : List Cell} : ∀ (n : Nat) (p : PileS), (∀ j, j < n → findS cn cells j p = none) → searchS cn cells n p = findS cn cells n p
  | 0, p, _ => by
    unfold searchS findS oneS1 goalS
    by_cases h1 : p.ls.length = 1 <;> simp [h1]
  | n + 1, p, h => by
    have h0 := h 0 (by omega)
    unfold searchS
    by_cases h1 : p.ls.length = 1
    · rw [if_pos h1]
      have e1 : findS cn cells (n + 1) p = none := by unfold findS; rw [if_pos h1]
      rw [e1]
      unfold findS goalS at h0
      unfold oneS1
      rw [h1] at h0
      simpa using h0
    · rw [if_neg h1]
      have e1 : findS cn cells (n + 1) p = outF (fun x => if foldErrS p x = 0 then (findS cn cells n (foldP p x)).map (x :: ·) else none) 4 1 := by
        conv => lhs; unfold findS
        rw [if_neg h1]
      rw [e1]
      refine outF_congr 4 1 fun k c hk hc => ?_
      by_cases he : foldErrS p ⟨k, c⟩ = 0
      · rw [if_pos he, if_pos he, search_find n (foldP p ⟨k, c⟩) fun j hj => ?_]
        have hj2 := h (j + 1) (by omega)
        unfold findS at hj2
        rw [if_neg h1] at hj2
        have := outF_none 4 1 hj2 k c hk hc
        rw [if_pos he] at this
        simpa using this
      · rw [if_neg he, if_neg he]
theorem firstN_congr {α : Type} {G H : Nat → Option α} (h : ∀ j, (∀ i, i < j → G i = none) → H j = G j) : ∀ (m n : Nat), (∀ i, i < n → G i = none) → firstN H m n = firstN G m n
  | 0, _, _ => rfl
  | m + 1, n, hn => by
    rw [firstN, firstN, h n hn]
    cases hg : G n with
    | some x => rfl
    | none =>
      have := firstN_congr h m (n + 1) fun i hi => by
        by_cases hin : i = n
        · rw [hin]; exact hg
        · exact hn i (by omega)
      rw [this]
theorem ffR_eq (cn rn : Nat) (l : List Cell) : ffR cn rn l = firstN (fun n => findS cn l n (flatP cn rn)) (cn + rn - 1) 0 :=
  firstN_congr (fun j hj => search_find j _ hj) _ _ fun i hi => by omega
theorem firstN_some {α : Type} {G : Nat → Option α} {j : Nat} (hj : (G j).isSome = true) : ∀ (m n : Nat), n ≤ j → j < n + m → ∃ x i, firstN G m n = some x ∧ i ≤ j ∧ G i = some x
  | 0, _, _, _ => by omega
  | m + 1, n, h1, h2 => by
    rw [firstN]
    cases hg : G n with
    | some x => exact ⟨x, n, rfl, h1, hg⟩
    | none =>
      by_cases hn : n = j
      · rw [hn] at hg; rw [hg] at hj; cases hj
      · obtain ⟨x, i, h3, h4, h5⟩ := firstN_some hj m (n + 1) (by omega) (by omega)
        exact ⟨x, i, by rw [h3]; rfl, h4, h5⟩
theorem find_sound {cn : Nat} {cells : List Cell} : ∀ (n : Nat) (p : PileS) (k : Nat) (x : List Fold), findS cn cells n p = some x → ∃ q, foldRun p k x = (q, none) ∧ q.ls.length = 1 ∧ ordK 0 ((stkAt q.ls 0).flatMap (rdP cn cells)) = true ∧ x.length = n ∧ ∀ y ∈ x, (1 ≤ y.kind ∧ y.kind ≤ 4) ∧ 1 ≤ y.count ∧ y.count ≤ 8
  | 0, p, k, x, h => by
    unfold findS goalS at h
    split at h
    · rename_i h1
      cases h
      simp only [Bool.and_eq_true, decide_eq_true_eq] at h1
      exact ⟨p, rfl, h1.1, h1.2, rfl, by simp⟩
    · cases h
  | n + 1, p, k, x, h => by
    unfold findS at h
    split at h
    · cases h
    · obtain ⟨kk, c, h1, h2, h3⟩ := outF_some _ _ h
      split at h3
      · rename_i he
        rw [Option.map_eq_some_iff] at h3
        obtain ⟨a, h4, rfl⟩ := h3
        obtain ⟨q, e1, e2, e3, e4, e5⟩ := find_sound n _ (k + 1) a h4
        refine ⟨q, by rw [foldRun, if_neg (by simpa using he)]; exact e1, e2, e3, by simp [e4], fun y hy => ?_⟩
        rcases List.mem_cons.1 hy with rfl | hy
        · exact ⟨⟨h1.1, show kk ≤ 4 by omega⟩, h2⟩
        · exact e5 y hy
      · cases h3
theorem firstN_ex {α : Type} {G : Nat → Option α} {x : α} : ∀ (m n : Nat), firstN G m n = some x → ∃ i, i < n + m ∧ G i = some x
  | 0, _, h => by cases h
  | m + 1, n, h => by
    rw [firstN] at h
    cases hg : G n with
    | some y => rw [hg] at h; exact ⟨n, by omega, by rw [hg]; exact h⟩
    | none =>
      rw [hg] at h
      obtain ⟨i, h1, h2⟩ := firstN_ex m (n + 1) h
      exact ⟨i, by omega, h2⟩
theorem first_len {cn rn : Nat} {l : List Cell} {x : List Fold} (h : firstN (fun n => findS cn l n (flatP cn rn)) (cn + rn - 1) 0 = some x) (hs : cn + rn ≤ 10) : x.length ≤ 1000 := by
  obtain ⟨i, h1, h2⟩ := firstN_ex _ _ h
  obtain ⟨_, _, _, _, h3, _⟩ := find_sound i _ 0 x h2
  omega
theorem fold_less {h : Nat} {p : PileS} (g : p.Good h) {x : Fold} (he : foldErrS p x = 0) (h5 : x.kind ≠ 5) (h6 : x.kind ≠ 6) : (foldP p x).cols ≤ p.cols ∧ (foldP p x).rows ≤ p.rows ∧ (foldP p x).cols + (foldP p x).rows + 1 ≤ p.cols + p.rows ∧ (1 ≤ x.kind ∧ x.kind ≤ 4) ∧ 1 ≤ x.count ∧ 2 * x.count ≤ foldSide p x ∧ p.ls.length ≠ 1 := by
  rcases err_bounds he with hx | ⟨hk, hc, hs⟩
  · omega
  rw [foldP_ok he, if_neg h5, if_neg h6]
  have g1 := g.c1; have g2 := g.r1; have g3 := g.len
  have hne : p.ls.length ≠ 1 := fun e => by
    rw [e] at g3
    have h1 : p.cols = 1 := by
      have := Nat.le_mul_of_pos_left p.cols g2; omega
    have h2 : p.rows = 1 := by
      have := Nat.le_mul_of_pos_right p.rows g1; omega
    have : foldSide p x = 1 := by unfold foldSide; split <;> omega
    omega
  by_cases hr : x.kind = 3 ∨ x.kind = 4
  · have hsd : foldSide p x = p.rows := by unfold foldSide; rw [if_pos hr]
    rw [hsd] at hs ⊢
    simp only [hr, decide_true, if_true]
    exact ⟨by omega, by omega, by omega, by omega, hc, hs, hne⟩
  · have hsd : foldSide p x = p.cols := by unfold foldSide; rw [if_neg hr]
    rw [hsd] at hs ⊢
    simp only [hr, decide_false, Bool.false_eq_true, if_false]
    exact ⟨by omega, by omega, by omega, by omega, hc, hs, hne⟩
theorem find_complete {cn : Nat} {cells : List Cell} : ∀ (l : List Fold) (p : PileS) (k h : Nat) (q : PileS), p.Good h → p.cols ≤ 8 → p.rows ≤ 8 → foldRun p k l = (q, none) → (∀ y ∈ l, y.kind ≠ 5 ∧ y.kind ≠ 6) → q.ls.length = 1 → ordK 0 ((stkAt q.ls 0).flatMap (rdP cn cells)) = true →
    (findS cn cells l.length p).isSome = true ∧ q.cols + q.rows + l.length ≤ p.cols + p.rows ∧ 1 ≤ q.cols ∧ 1 ≤ q.rows
  | [], p, k, h, q, g, _, _, hr, _, h1, h2 => by
    simp only [foldRun, Prod.mk.injEq, and_true] at hr
    subst hr
    refine ⟨?_, by simp, g.c1, g.r1⟩
    simp [findS, goalS, h1, h2]
  | x :: l, p, k, h, q, g, hc, hrw, hr, hk, h1, h2 => by
    rw [foldRun] at hr
    by_cases he : foldErrS p x = 0
    · rw [if_neg (by simpa using he)] at hr
      have hkx := hk x (by simp)
      obtain ⟨f1, f2, f3, f4, f5, f6, f7⟩ := fold_less g he hkx.1 hkx.2
      obtain ⟨r1, r2, r3⟩ := find_complete l (foldP p x) (k + 1) (2 * h) q (foldP_good g he) (by omega) (by omega) hr (fun y hy => hk y (by simp [hy])) h1 h2
      refine ⟨?_, by simp; omega, r3⟩
      have hx8 : x.count ≤ 8 := by
        have : foldSide p x ≤ 8 := by unfold foldSide; split <;> omega
        omega
      have e1 : findS cn cells (l.length + 1) p = outF (fun x => if foldErrS p x = 0 then (findS cn cells l.length (foldP p x)).map (x :: ·) else none) 4 1 := by
        conv => lhs; unfold findS
        rw [if_neg f7]
      rw [List.length_cons, e1]
      cases ho : outF (fun x => if foldErrS p x = 0 then (findS cn cells l.length (foldP p x)).map (x :: ·) else none) 4 1 with
      | some y => rfl
      | none =>
        have := outF_none 4 1 ho x.kind x.count (by omega) (by omega)
        rw [if_pos he] at this
        have h3 : findS cn cells l.length (foldP p x) = none := by simpa using this
        rw [h3] at r1; cases r1
    · rw [if_pos he] at hr; simp at hr
theorem ord_of : ∀ (l : List Page) (k : Nat), (∀ (i : Nat) (hi : i < l.length), l[i] = ⟨((k + i : Nat) : Int) + 1, 0⟩) → ordK k l = true
  | [], _, _ => rfl
  | x :: l, k, h => by
    have h0 := h 0 (by simp)
    rw [List.getElem_cons_zero] at h0
    rw [ordK, ord_of l (k + 1) fun i hi => by
      have := h (i + 1) (by simp; omega)
      rw [List.getElem_cons_succ] at this
      rw [this]; congr 2; omega]
    simp [h0]
theorem found_law {cn rn : Nat} {l : List Fold} (h : (foldedS cn rn l).2.2 = 0) (h16 : rn * cn ≤ 16) (hk : ∀ y ∈ l, y.kind ≠ 5 ∧ y.kind ≠ 6) :
    ∃ x, ffS cn rn (schC cn rn l) = (x, 0) ∧ x.length ≤ l.length ∧ Cnt x ∧ ∃ pgs, readsS cn rn (schC cn rn l) x = (pgs, 0) ∧ pgs.length = 2 * (rn * cn) ∧ ordK 0 pgs = true := by
  obtain ⟨s1, s2, s3, s4, s5⟩ := folded_sheet h
  obtain ⟨o1, o2, o3, o4⟩ := folded_ok h
  simp only [Int.toNat_natCast] at o2 o3 o4
  have hgd := flatP_good (c := cn) (r := rn) (by omega) (by omega) (by omega) (by omega)
  have hq : foldRun (flatP cn rn) 0 l = ((foldRun (flatP cn rn) 0 l).1, none) := by rw [← o2]
  generalize (foldRun (flatP cn rn) 0 l).1 = q at hq o3 o4
  obtain ⟨-, h', gq⟩ := run_perm l (flatP cn rn) 0 1 hgd (by rw [hq])
  rw [hq] at gq
  obtain ⟨s, hs⟩ := good_one gq o3
  have hq1 : q.ls.length = 1 := by rw [hs]; rfl
  have hst : (foldedS cn rn l).1 = stkAt q.ls 0 := by rw [o4, hs]; rfl
  have hord : ordK 0 ((stkAt q.ls 0).flatMap (rdP cn (schC cn rn l))) = true := by
    rw [← hst]
    exact ord_of _ 0 fun i hi => by rw [schC_read h i hi]; simp
  obtain ⟨c1, c2, c3, c4⟩ := find_complete (cells := schC cn rn l) l (flatP cn rn) 0 1 q hgd (by show cn ≤ 8; omega) (by show rn ≤ 8; omega) hq hk hq1 hord
  have c2' : q.cols + q.rows + l.length ≤ cn + rn := c2
  obtain ⟨x, i, f1, f2, f3⟩ := firstN_some (G := fun n => findS cn (schC cn rn l) n (flatP cn rn)) c1 (cn + rn - 1) 0 (by omega) (by omega)
  obtain ⟨q2, e1, e2, e3, e4, e5⟩ := find_sound i (flatP cn rn) 0 x f3
  have hsc := (schC_ok h).2
  have hff : ffS cn rn (schC cn rn l) = (x, 0) := by
    unfold ffS
    rw [hsc, if_neg (by simp), if_neg (by rw [schC_len]; omega)]
    simp only [Int.toNat_natCast, f1]
  have hl12 : l.length ≤ 12 := by
    unfold foldedS at h
    rw [if_neg (by simpa using o1)] at h
    by_cases h12 : 12 < l.length
    · rw [if_pos h12] at h; simp at h
    · omega
  have hfx := folded_of (c := cn) (r := rn) (l := x) (q := q2) o1 (by omega) (by simpa using e1) (by omega)
  have hhd : q2.ls.headD [] = stkAt q2.ls 0 := by
    cases q2.ls <;> rfl
  refine ⟨x, hff, by omega, fun y hy => by have := (e5 y hy).2; omega, (stkAt q2.ls 0).flatMap (rdP cn (schC cn rn l)), ?_, ?_, e3⟩
  · unfold readsS
    rw [hsc, if_neg (by simp), hfx, if_neg (by simp), hhd, Int.toNat_natCast]
  · rw [rdL_len, ← hhd]
    have := pile_len (cn := cn) (rn := rn) (l := x) (by rw [hfx])
    rw [hfx] at this
    rw [this]
end Go.Proofs.Ytfpkpokkgbobmaa
