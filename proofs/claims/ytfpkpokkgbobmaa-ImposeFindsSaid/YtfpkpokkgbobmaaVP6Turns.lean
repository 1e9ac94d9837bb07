/-
  Chapter 6, plain laws of piles: turning twice changes nothing; folds from the other side, with all turned round, are the same folds.
-/
import Derived.Test.YtfpkpokkgbobmaaVW13
namespace Go.Proofs.Ytfpkpokkgbobmaa
open Go Go.Vx
set_option linter.unusedSimpArgs false
theorem grid_get {α : Type} (cols : Nat) (f : Nat → Nat → α) : ∀ (rows r c : Nat), r < rows → c < cols → (grid cols rows f)[r * cols + c]? = some (f c r)
  | 0, _, _, h, _ => absurd h (by omega)
  | rows + 1, r, c, hr, hc => by
    rw [grid_succ]
    by_cases h : r < rows
    · have hlt := cell_lt h hc
      rw [List.getElem?_append_left (by rw [grid_length]; exact hlt)]
      exact grid_get cols f rows r c h hc
    · have : r = rows := by omega
      subst this
      rw [List.getElem?_append_right (by rw [grid_length]; omega), grid_length, Nat.add_sub_cancel_left]
      simp [gridRow, hc]
theorem grid_at {cols rows c r : Nat} (f : Nat → Nat → List Leaf) (hr : r < rows) (hc : c < cols) : stkAt (grid cols rows f) (r * cols + c) = f c r := by
  simp [stkAt, List.getD_eq_getElem?_getD, grid_get cols f rows r c hr hc]
theorem grid_ext {α : Type} {cols : Nat} {f g : Nat → Nat → α} : ∀ {rows : Nat}, (∀ c r, c < cols → r < rows → f c r = g c r) → grid cols rows f = grid cols rows g
  | 0, _ => rfl
  | rows + 1, h => by
    rw [grid_succ, grid_succ, grid_ext (rows := rows) fun c r hc hr => h c r hc (by omega)]
    congr 1
    exact List.map_congr_left fun c hc => h c rows (by simpa using hc) (by omega)
theorem grid_self {cols rows : Nat} {ls : List (List Leaf)} (h : ls.length = rows * cols) : grid cols rows (fun c r => stkAt ls (r * cols + c)) = ls := by
  apply List.ext_getElem?
  intro i
  by_cases hi : i < rows * cols
  · have hc : 0 < cols := by
      rcases Nat.eq_zero_or_pos cols with h0 | h0
      · subst h0; simp at hi
      · exact h0
    have h1 : i / cols < rows := Nat.div_lt_of_lt_mul (by rwa [Nat.mul_comm])
    have h2 : i % cols < cols := Nat.mod_lt _ hc
    have e : i / cols * cols + i % cols = i := by rw [Nat.mul_comm]; exact Nat.div_add_mod i cols
    have := grid_get cols (fun c r => stkAt ls (r * cols + c)) rows _ _ h1 h2
    simp only [e] at this
    rw [this]
    exact (stkAt_get (by omega)).symm
  · rw [List.getElem?_eq_none (by rw [grid_length]; omega), List.getElem?_eq_none (by omega)]

theorem rnd1_rnd1 (l : Leaf) : rnd1 (rnd1 l) = l := by
  obtain ⟨a, b, c, d⟩ := l
  simp only [rnd1, Leaf.mk.injEq, true_and]; omega
theorem flip_flip (b : Bool) (l : Leaf) : flip b (flip b l) = l := by
  obtain ⟨a, b', c, d⟩ := l
  cases b <;> simp only [flip, Bool.false_eq_true, if_false, if_true, Leaf.mk.injEq, true_and, and_true] <;> omega
theorem flip_rnd (b : Bool) (l : Leaf) : flip b (rnd1 l) = rnd1 (flip b l) := by
  obtain ⟨a, b', c, d⟩ := l
  cases b <;> simp only [flip, rnd1, Bool.false_eq_true, if_false, if_true]
theorem map_rr (l : List Leaf) : (l.map rnd1).map rnd1 = l := by
  rw [List.map_map]
  have : rnd1 ∘ rnd1 = id := funext rnd1_rnd1
  rw [this, List.map_id]
theorem map_ff (b : Bool) (l : List Leaf) : (l.map (flip b)).map (flip b) = l := by
  rw [List.map_map]
  have : flip b ∘ flip b = id := funext (flip_flip b)
  rw [this, List.map_id]
theorem map_fr (b : Bool) (l : List Leaf) : (l.map rnd1).map (flip b) = (l.map (flip b)).map rnd1 := by
  rw [List.map_map, List.map_map]
  congr 1
  exact funext (flip_rnd b)
theorem over_at {cols rows c r : Nat} (ls : List (List Leaf)) (hr : r < rows) (hc : c < cols) : stkAt (overG cols rows ls) (r * cols + c) = (stkAt ls (r * cols + (cols - 1 - c))).reverse.map (flip false) := grid_at _ hr hc
theorem round_at {cols rows c r : Nat} (ls : List (List Leaf)) (hr : r < rows) (hc : c < cols) : stkAt (roundG cols rows ls) (r * cols + c) = (stkAt ls ((rows - 1 - r) * cols + (cols - 1 - c))).map rnd1 := grid_at _ hr hc
theorem over_over {cols rows : Nat} {ls : List (List Leaf)} (h : ls.length = rows * cols) : overG cols rows (overG cols rows ls) = ls := by
  conv => rhs; rw [← grid_self h]
  refine grid_ext fun c r hc hr => ?_
  rw [over_at ls hr (by omega), show cols - 1 - (cols - 1 - c) = c by omega, ← List.map_reverse, List.reverse_reverse, map_ff]
theorem round_round {cols rows : Nat} {ls : List (List Leaf)} (h : ls.length = rows * cols) : roundG cols rows (roundG cols rows ls) = ls := by
  conv => rhs; rw [← grid_self h]
  refine grid_ext fun c r hc hr => ?_
  rw [round_at ls (by omega) (by omega), show cols - 1 - (cols - 1 - c) = c by omega, show rows - 1 - (rows - 1 - r) = r by omega, map_rr]
theorem over_round {cols rows : Nat} (ls : List (List Leaf)) : overG cols rows (roundG cols rows ls) = roundG cols rows (overG cols rows ls) := by
  refine grid_ext fun c r hc hr => ?_
  rw [round_at ls hr (by omega), over_at ls (by omega) (by omega), ← List.map_reverse, map_fr]
theorem getR {cols rws along across : Nat} {back rows : Bool} (ls : List (List Leaf)) (ha : along < if rows then rws else cols) (hx : across < if rows then cols else rws) :
    stkAt (roundG cols rws ls) (getAt (!back) rows (if rows then rws else cols) cols along across) = (stkAt ls (getAt back rows (if rows then rws else cols) cols along ((if rows then cols else rws) - 1 - across))).map rnd1 := by
  cases rows <;> cases back <;> simp only [Bool.false_eq_true, if_false, if_true, getAt, Bool.not_false, Bool.not_true] at ha hx ⊢
  · rw [round_at ls (by omega) (by omega), show cols - 1 - (cols - 1 - along) = along by omega]
  · rw [round_at ls (by omega) (by omega)]
  · rw [round_at ls (by omega) (by omega), show rws - 1 - (rws - 1 - along) = along by omega]
  · rw [round_at ls (by omega) (by omega)]
theorem laidAt_round {cols rws first along across : Nat} {back rows : Bool} (ls : List (List Leaf)) (h1 : first ≤ if rows then rws else cols) (ha : along < first) (hx : across < if rows then cols else rws) :
    laidAt cols rws first rows (!back) (roundG cols rws ls) along across = (laidAt cols rws first rows back ls (first - 1 - along) ((if rows then cols else rws) - 1 - across)).map rnd1 := by
  have e : (if (!back) = true then first - 1 - along else along) = (if back = true then first - 1 - (first - 1 - along) else first - 1 - along) := by
    cases back <;> simp; omega
  have e1 : (if back = true then first - 1 - (first - 1 - along) else first - 1 - along) < first := by split <;> omega
  unfold laidAt
  simp only []
  rw [e]
  generalize (if back = true then first - 1 - (first - 1 - along) else first - 1 - along) = a at e1
  rw [getR (along := a) (back := back) ls (by omega) hx]
  by_cases hlt : 2 * first - 1 - a < if rows then rws else cols
  · rw [if_pos hlt, if_pos hlt, getR (back := back) ls hlt hx, ← List.map_reverse, map_fr, List.map_append]
  · rw [if_neg hlt, if_neg hlt]
theorem laid_round {cols rws first : Nat} {back rows : Bool} (ls : List (List Leaf)) (h1 : first ≤ if rows then rws else cols) :
    laidG cols rws first rows (!back) (roundG cols rws ls) = roundG (if rows then cols else first) (if rows then first else rws) (laidG cols rws first rows back ls) := by
  cases rows
  · simp only [laidG, Bool.false_eq_true, if_false] at h1 ⊢
    refine grid_ext fun c r hc hr => ?_
    have := laidAt_round (rows := false) (back := back) ls (by simpa using h1) hc (across := r) (by simpa using hr)
    rw [this, grid_at _ (by omega) (by omega)]
    rfl
  · simp only [laidG, if_true] at h1 ⊢
    refine grid_ext fun c r hc hr => ?_
    have := laidAt_round (rows := true) (back := back) ls (by simpa using h1) hr (across := c) (by simpa using hc)
    rw [this, grid_at _ (by omega) (by omega)]
    rfl
/-- a fold from the other side. -/
def swapK (x : Fold) : Fold := ⟨if x.kind = 1 then 2 else if x.kind = 2 then 1 else if x.kind = 3 then 4 else if x.kind = 4 then 3 else x.kind, x.count⟩
def rndP (p : PileS) : PileS := ⟨p.cols, p.rows, roundG p.cols p.rows p.ls⟩
theorem err_swap (p : PileS) (x : Fold) : foldErrS (rndP p) (swapK x) = foldErrS p x := by
  obtain ⟨k, n⟩ := x
  by_cases h1 : k = 1
  · subst h1; simp [foldErrS, swapK, foldSide, rndP]
  by_cases h2 : k = 2
  · subst h2; simp [foldErrS, swapK, foldSide, rndP]
  by_cases h3 : k = 3
  · subst h3; simp [foldErrS, swapK, foldSide, rndP]
  by_cases h4 : k = 4
  · subst h4; simp [foldErrS, swapK, foldSide, rndP]
  simp [foldErrS, swapK, foldSide, rndP, h1, h2, h3, h4]
theorem foldP_ok {p : PileS} {x : Fold} (he : foldErrS p x = 0) : foldP p x = if x.kind = 5 then ⟨p.cols, p.rows, overG p.cols p.rows p.ls⟩ else if x.kind = 6 then ⟨p.cols, p.rows, roundG p.cols p.rows p.ls⟩ else
    ⟨if decide (x.kind = 3 ∨ x.kind = 4) then p.cols else ((foldSide p x : Int) - x.count).toNat, if decide (x.kind = 3 ∨ x.kind = 4) then ((foldSide p x : Int) - x.count).toNat else p.rows, laidG p.cols p.rows ((foldSide p x : Int) - x.count).toNat (decide (x.kind = 3 ∨ x.kind = 4)) (decide (x.kind = 2 ∨ x.kind = 4)) p.ls⟩ := by
  unfold foldP
  rw [if_neg (by simpa using he)]
theorem fold_swap {p : PileS} {x : Fold} (he : foldErrS p x = 0) : foldP (rndP p) (swapK x) = rndP (foldP p x) := by
  have he' := (err_swap p x).trans he
  rw [foldP_ok he', foldP_ok he]
  obtain ⟨k, n⟩ := x
  by_cases h5 : k = 5
  · subst h5; simp [swapK, rndP, over_round]
  by_cases h6 : k = 6
  · subst h6; simp [swapK, rndP]
  have hk : k = 1 ∨ k = 2 ∨ k = 3 ∨ k = 4 := by
    unfold foldErrS at he
    by_cases h : ¬ (1 ≤ k ∧ k ≤ 6)
    · simp [h] at he
    · omega
  have hn : 1 ≤ n := by
    unfold foldErrS at he
    by_cases h : n < 1
    · simp [h5, h6, h] at he
      split at he <;> omega
    · omega
  have hf : ∀ s : Nat, ((s : Int) - n).toNat ≤ s := fun s => by omega
  rcases hk with rfl | rfl | rfl | rfl
  · have := laid_round (cols := p.cols) (rws := p.rows) (first := ((p.cols : Int) - n).toNat) (back := false) (rows := false) p.ls (by simpa using hf _)
    simpa [swapK, rndP, foldSide] using this
  · have := laid_round (cols := p.cols) (rws := p.rows) (first := ((p.cols : Int) - n).toNat) (back := true) (rows := false) p.ls (by simpa using hf _)
    simpa [swapK, rndP, foldSide] using this
  · have := laid_round (cols := p.cols) (rws := p.rows) (first := ((p.rows : Int) - n).toNat) (back := false) (rows := true) p.ls (by simpa using hf _)
    simpa [swapK, rndP, foldSide] using this
  · have := laid_round (cols := p.cols) (rws := p.rows) (first := ((p.rows : Int) - n).toNat) (back := true) (rows := true) p.ls (by simpa using hf _)
    simpa [swapK, rndP, foldSide] using this
theorem run_swap : ∀ (l : List Fold) (p : PileS) (k k' : Nat), (foldRun p k l).2 = none → foldRun (rndP p) k' (l.map swapK) = (rndP (foldRun p k l).1, none)
  | [], _, _, _, _ => rfl
  | x :: l, p, k, k', h => by
    simp only [foldRun, List.map_cons] at h ⊢
    by_cases he : foldErrS p x = 0
    · rw [if_neg (by simpa using he)] at h
      have he' := (err_swap p x).trans he
      rw [if_neg (by simpa using he'), if_neg (by simpa using he), fold_swap he]
      exact run_swap l _ _ _ h
    · rw [if_pos he] at h; cases h
theorem run_app : ∀ (a b : List Fold) (p : PileS) (k : Nat), (foldRun p k a).2 = none → foldRun p k (a ++ b) = foldRun (foldRun p k a).1 (k + a.length) b
  | [], _, _, _, _ => rfl
  | x :: a, b, p, k, h => by
    simp only [foldRun, List.cons_append] at h ⊢
    by_cases he : foldErrS p x = 0
    · rw [if_neg (by simpa using he)] at h
      rw [if_neg (by simpa using he), if_neg (by simpa using he), run_app a b _ _ h, List.length_cons]
      congr 1; omega
    · rw [if_pos he] at h; cases h
theorem run_none_app : ∀ (a b : List Fold) (p : PileS) (k : Nat), (foldRun p k (a ++ b)).2 = none → (foldRun p k a).2 = none
  | [], _, _, _, _ => rfl
  | x :: a, b, p, k, h => by
    simp only [foldRun, List.cons_append] at h ⊢
    by_cases he : foldErrS p x = 0
    · rw [if_neg (by simpa using he)] at h ⊢
      exact run_none_app a b _ _ h
    · rw [if_pos he] at h; cases h
theorem run_ix : ∀ (l : List Fold) (p : PileS) (k k' : Nat), (foldRun p k l).2 = none → foldRun p k' l = foldRun p k l
  | [], _, _, _, _ => rfl
  | x :: l, p, k, k', h => by
    simp only [foldRun] at h ⊢
    by_cases he : foldErrS p x = 0
    · rw [if_neg (by simpa using he)] at h ⊢
      rw [if_neg (by simpa using he)]
      exact run_ix l _ _ _ h
    · rw [if_pos he] at h; cases h
theorem err_turn (p : PileS) {x : Fold} (hx : x = ⟨5, 0⟩ ∨ x = ⟨6, 0⟩) : foldErrS p x = 0 := by
  rcases hx with rfl | rfl <;> simp [foldErrS]
theorem fold_twice {p : PileS} (h : p.ls.length = p.rows * p.cols) {x : Fold} (hx : x = ⟨5, 0⟩ ∨ x = ⟨6, 0⟩) : foldP (foldP p x) x = p := by
  obtain ⟨c, r, ls⟩ := p
  rcases hx with rfl | rfl
  · simp only [foldP, err_turn _ (.inl rfl), ne_eq, not_true_eq_false, if_false, if_true]
    rw [over_over h]
  · simp only [foldP, err_turn _ (.inr rfl), ne_eq, not_true_eq_false, if_false, if_true, show ¬ (6 : Int) = 5 by decide]
    rw [round_round h]
theorem fold_round (p : PileS) : foldP p ⟨6, 0⟩ = rndP p := by
  simp only [foldP, err_turn _ (.inr rfl), ne_eq, not_true_eq_false, if_false, if_true, show ¬ (6 : Int) = 5 by decide]
  rfl
theorem rnd_rnd {p : PileS} (h : p.ls.length = p.rows * p.cols) : rndP (rndP p) = p := by
  rw [← fold_round, ← fold_round]; exact fold_twice h (.inr rfl)
theorem run_err : ∀ (l : List Fold) (p : PileS) (k i : Nat) (e : Int), (foldRun p k l).2 = some (i, e) → e ≠ 0
  | [], _, _, _, _, h => by simp [foldRun] at h
  | x :: l, p, k, i, e, h => by
    simp only [foldRun] at h
    by_cases he : foldErrS p x = 0
    · rw [if_neg (by simpa using he)] at h
      exact run_err l _ _ _ _ h
    · rw [if_pos he] at h
      simp only [Option.some.injEq, Prod.mk.injEq] at h
      rw [← h.2]; exact he
theorem folded_ok {c r : Int} {l : List Fold} (h : (foldedS c r l).2.2 = 0) : sheetErr c r = 0 ∧ (foldRun (flatP c.toNat r.toNat) 0 l).2 = none ∧ ¬ 1 < (foldRun (flatP c.toNat r.toNat) 0 l).1.ls.length ∧
    (foldedS c r l).1 = (foldRun (flatP c.toNat r.toNat) 0 l).1.ls.headD [] := by
  unfold foldedS at h ⊢
  by_cases h1 : sheetErr c r = 0
  · by_cases h2 : 12 < l.length
    · simp [h1, h2] at h
    · simp only [h1, h2, ne_eq, not_true_eq_false, if_false] at h ⊢
      generalize hq : foldRun (flatP c.toNat r.toNat) 0 l = q at h ⊢
      obtain ⟨q, _ | ⟨i, e⟩⟩ := q
      · simp only [] at h ⊢
        by_cases h3 : 1 < q.ls.length
        · simp [h3] at h
        · simp [h3]
      · exact absurd h (run_err l _ _ i e (by rw [hq]))
  · simp [h1] at h
theorem folded_bad {c r : Int} {l : List Fold} (h : (foldedS c r l).2.2 ≠ 0) : (foldedS c r l).1 = [] := by
  unfold foldedS at h ⊢
  by_cases h1 : sheetErr c r = 0
  · by_cases h2 : 12 < l.length
    · simp [h1, h2]
    · simp only [h1, h2, ne_eq, not_true_eq_false, if_false] at h ⊢
      generalize foldRun (flatP c.toNat r.toNat) 0 l = q at h ⊢
      obtain ⟨q, _ | ⟨i, e⟩⟩ := q
      · simp only [] at h ⊢
        by_cases h3 : 1 < q.ls.length
        · simp [h3]
        · simp [h3] at h
      · rfl
  · simp [h1]
theorem folded_of {c r : Int} {l : List Fold} {q : PileS} (hs : sheetErr c r = 0) (hl : l.length ≤ 12) (h : foldRun (flatP c.toNat r.toNat) 0 l = (q, none)) (h1 : ¬ 1 < q.ls.length) : foldedS c r l = (q.ls.headD [], 0, 0) := by
  unfold foldedS
  rw [if_neg (by simpa using hs), if_neg (by omega), h]
  simp [h1]
theorem run_len {c r : Int} (h : 1 ≤ c ∧ c ≤ 8 ∧ 1 ≤ r ∧ r ≤ 8) {l : List Fold} (hn : (foldRun (flatP c.toNat r.toNat) 0 l).2 = none) :
    (foldRun (flatP c.toNat r.toNat) 0 l).1.ls.length = (foldRun (flatP c.toNat r.toNat) 0 l).1.rows * (foldRun (flatP c.toNat r.toNat) 0 l).1.cols :=
  (foldRun_good l _ 0 1 (flatP_good (by omega) (by omega) (by omega) (by omega)) hn).len
theorem turns_twice {c r : Int} {l : List Fold} {x : Fold} (k : Nat) (hx : x = ⟨5, 0⟩ ∨ x = ⟨6, 0⟩) (hl : l.length ≤ 9) (h : (foldedS c r l).2.2 = 0) : foldedS c r (l.take k ++ x :: x :: l.drop k) = ((foldedS c r l).1, 0, 0) := by
  obtain ⟨s1, s2, s3, s4, s5⟩ := folded_sheet h
  obtain ⟨h1, h2, h3, h4⟩ := folded_ok h
  have ea : (foldRun (flatP c.toNat r.toNat) 0 (l.take k)).2 = none := run_none_app _ (l.drop k) _ _ (by rw [List.take_append_drop]; exact h2)
  have e1 := run_app (l.take k) (l.drop k) (flatP c.toNat r.toNat) 0 ea
  rw [List.take_append_drop] at e1
  have hlen := run_len ⟨s1, s2, s3, s4⟩ ea
  rw [h4]
  refine folded_of h1 (by simp; omega) ?_ h3
  rw [run_app _ _ _ _ ea]
  simp only [foldRun, err_turn _ hx, ne_eq, not_true_eq_false, if_false]
  rw [fold_twice hlen hx, e1]
  rw [e1] at h2
  rw [run_ix _ _ _ _ h2]
  exact Prod.ext rfl h2
theorem turns_other {c r : Int} {l : List Fold} (hl : l.length ≤ 9) (h : (foldedS c r l).2.2 = 0) : foldedS c r (⟨6, 0⟩ :: l.map swapK ++ [⟨6, 0⟩]) = ((foldedS c r l).1, 0, 0) := by
  obtain ⟨s1, s2, s3, s4, s5⟩ := folded_sheet h
  obtain ⟨h1, h2, h3, h4⟩ := folded_ok h
  rw [h4]
  refine folded_of h1 (by simp; omega) ?_ h3
  have hlen := run_len ⟨s1, s2, s3, s4⟩ h2
  simp only [List.cons_append, foldRun, err_turn _ (.inr rfl), ne_eq, not_true_eq_false, if_false]
  rw [fold_round]
  have e := run_swap l (flatP c.toNat r.toNat) 0 (0 + 1) h2
  rw [run_app _ _ _ _ (by rw [e]), e]
  simp only [foldRun, err_turn _ (.inr rfl), ne_eq, not_true_eq_false, if_false]
  rw [fold_round, rnd_rnd hlen]
end Go.Proofs.Ytfpkpokkgbobmaa
