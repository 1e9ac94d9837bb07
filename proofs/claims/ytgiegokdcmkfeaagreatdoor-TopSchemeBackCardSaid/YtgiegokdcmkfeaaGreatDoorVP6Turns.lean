/-
  Chapter 6, plain laws of piles: turning twice changes nothing; folds from the other side, with all turned round, are the same folds.
-/
import Derived.Test.YtgiegokdcmkfeaaGreatDoorVGB
namespace Go.Proofs.YtgiegokdcmkfeaaGreatDoor
open Go Go.Vx
set_option linter.unusedSimpArgs false
theorem grid_get {α : Type} (cols : Nat) (f : Nat → Nat → α) : ∀ (rows r c : Nat), r < rows → c < cols → (grid cols rows f)[r * cols + c]? = some (f c r)
  | 0, _, _, h, _ => absurd h (by omega)
  | rows + 1, r, c, hr, hc => by
    rw [grid_succ]
    by_cases h : r < rows
    · have hlt := cell_lt h hc
      rw [List.getElem?_append_left (by rw [grid_length]; exact hlt)]
      exact grid_get cols f rows r c h hc
    · have : r = rows := by omega
      subst this
      rw [List.getElem?_append_right (by rw [grid_length]; omega), grid_length, Nat.add_sub_cancel_left]
      simp [gridRow, hc]
theorem grid_at {cols rows c r : Nat} (f : Nat → Nat → List Leaf) (hr : r < rows) (hc : c < cols) : stkAt (grid cols rows f) (r * cols + c) = f c r := by
  simp [stkAt, List.getD_eq_getElem?_getD, grid_get cols f rows r c hr hc]
theorem grid_ext {α : Type} {cols : Nat} {f g : Nat → Nat → α} : ∀ {rows : Nat}, (∀ c r, c < cols → r < rows → f c r = g c r) → grid cols rows f = grid cols rows g
  | 0, _ => rfl
  | rows + 1, h => by
    rw [grid_succ, grid_succ, grid_ext (rows := rows) fun c r hc hr => h c r hc (by omega)]
    congr 1
    exact List.map_congr_left fun c hc => h c rows (by simpa using hc) (by omega)
theorem grid_self {cols rows : Nat} {ls : List (List Leaf)} (h : ls.length = rows * cols) : grid cols rows (fun c r => stkAt ls (r * cols + c)) = ls := by
  apply List.ext_getElem?
  intro i
  by_cases hi : i < rows * cols
  · have hc : 0 < cols := by
      rcases Nat.eq_zero_or_pos cols with h0 | h0
      · subst h0; simp at hi
      · exact h0
    have h1 : i / cols < rows := Nat.div_lt_of_lt_mul (by rwa [Nat.mul_comm])
    have h2 : i % cols < cols := Nat.mod_lt _ hc
    have e : i / cols * cols + i % cols = i := by rw [Nat.mul_comm]; exact Nat.div_add_mod i cols
    have := grid_get cols (fun c r => stkAt ls (r * cols + c)) rows _ _ h1 h2
    simp only [e] at this
    rw [this]
    exact (stkAt_get (by omega)).symm
  · rw [List.getElem?_eq_none (by rw [grid_length]; omega), List.getElem?_eq_none (by omega)]

/-- a fold from the other side. -/
def swapK (x : Fold) : Fold := ⟨if x.kind = 1 then 2 else if x.kind = 2 then 1 else if x.kind = 3 then 4 else if x.kind = 4 then 3 else x.kind, x.count⟩
def rndP (p : PileS) : PileS := ⟨p.cols, p.rows, roundG p.cols p.rows p.ls⟩
theorem foldP_ok {p : PileS} {x : Fold} (he : foldErrS p x = 0) : foldP p x = if x.kind = 5 then ⟨p.cols, p.rows, overG p.cols p.rows p.ls⟩ else if x.kind = 6 then ⟨p.cols, p.rows, roundG p.cols p.rows p.ls⟩ else
    ⟨if decide (x.kind = 3 ∨ x.kind = 4) then p.cols else ((foldSide p x : Int) - x.count).toNat, if decide (x.kind = 3 ∨ x.kind = 4) then ((foldSide p x : Int) - x.count).toNat else p.rows, laidG p.cols p.rows ((foldSide p x : Int) - x.count).toNat (decide (x.kind = 3 ∨ x.kind = 4)) (decide (x.kind = 2 ∨ x.kind = 4)) p.ls⟩ := by
  unfold foldP
  rw [if_neg (by simpa using he)]
theorem run_err : ∀ (l : List Fold) (p : PileS) (k i : Nat) (e : Int), (foldRun p k l).2 = some (i, e) → e ≠ 0
  | [], _, _, _, _, h => by simp [foldRun] at h
  | x :: l, p, k, i, e, h => by
    simp only [foldRun] at h
    by_cases he : foldErrS p x = 0
    · rw [if_neg (by simpa using he)] at h
      exact run_err l _ _ _ _ h
    · rw [if_pos he] at h
      simp only [Option.some.injEq, Prod.mk.injEq] at h
      rw [← h.2]; exact he
theorem folded_ok {c r : Int} {l : List Fold} (h : (foldedS c r l).2.2 = 0) : sheetErr c r = 0 ∧ (foldRun (flatP c.toNat r.toNat) 0 l).2 = none ∧ ¬ 1 < (foldRun (flatP c.toNat r.toNat) 0 l).1.ls.length ∧
    (foldedS c r l).1 = (foldRun (flatP c.toNat r.toNat) 0 l).1.ls.headD [] := by
  unfold foldedS at h ⊢
  by_cases h1 : sheetErr c r = 0
  · by_cases h2 : 12 < l.length
    · simp [h1, h2] at h
    · simp only [h1, h2, ne_eq, not_true_eq_false, if_false] at h ⊢
      generalize hq : foldRun (flatP c.toNat r.toNat) 0 l = q at h ⊢
      obtain ⟨q, _ | ⟨i, e⟩⟩ := q
      · simp only [] at h ⊢
        by_cases h3 : 1 < q.ls.length
        · simp [h3] at h
        · simp [h3]
      · exact absurd h (run_err l _ _ i e (by rw [hq]))
  · simp [h1] at h
end Go.Proofs.YtgiegokdcmkfeaaGreatDoor
