/-
  Chapter 6, plain laws of piles: a pile of right folds has each cell once.
-/
import Derived.Test.YtgiegokdcmkfeaaGreatDoorVP6Perm
import Derived.Test.YtgiegokdcmkfeaaGreatDoorVGD
namespace Go.Proofs.YtgiegokdcmkfeaaGreatDoor
open Go Go.Vx
set_option linter.unusedSimpArgs false
theorem flatMap_one {α β : Type} (f : α → β) : ∀ l : List α, (l.flatMap fun a => [f a]) = l.map f
  | [] => rfl
  | x :: l => by rw [List.flatMap_cons, List.map_cons, flatMap_one f l]; rfl
def atI (c : Int) (x : Leaf) : Int := x.row * c + x.col
def cellsI (n : Nat) : List Int := (List.range n).map fun i : Nat => (i : Int)
theorem cells_flat (cn rn : Nat) : (posL (flatG cn rn)).map (fun p => p.2 * (cn : Int) + p.1) = cellsI (rn * cn) := by
  have e1 : (posL (flatG cn rn)).map (fun p => p.2 * (cn : Int) + p.1) = grid cn rn fun k q => (q : Int) * cn + k := by
    unfold flatG
    rw [posL_grid]
    simp only [oneL, List.map_cons, List.map_nil, pos, flatMap_one, List.map_flatMap, List.map_map]
    rfl
  rw [e1, ← grid_selfG (0 : Int) (cols := cn) (rows := rn) (ls := cellsI (rn * cn)) (by simp [cellsI])]
  refine grid_ext fun k q hk hq => ?_
  have := cell_lt hq hk
  rw [List.getD_eq_getElem?_getD]
  simp [cellsI, List.getElem?_range this]
theorem good_one {h : Nat} {p : PileS} (g : p.Good h) (h1 : ¬ 1 < p.ls.length) : ∃ s, p.ls = [s] := by
  have hpl := g.len
  have hpos : 1 * 1 ≤ p.rows * p.cols := Nat.mul_le_mul g.r1 g.c1
  match hp : p.ls with
  | [] => rw [hp] at hpl; simp at hpl; omega
  | [s] => exact ⟨s, rfl⟩
  | _ :: _ :: _ => rw [hp] at h1; simp at h1
theorem pile_perm {cn rn : Nat} {l : List Fold} (h : (foldedS cn rn l).2.2 = 0) : ((foldedS cn rn l).1.map pos).Perm (posL (flatG cn rn)) := by
  obtain ⟨s1, s2, s3, s4, s5⟩ := folded_sheet h
  obtain ⟨h1, h2, h3, h4⟩ := folded_ok h
  rw [Int.toNat_natCast, Int.toNat_natCast] at *
  obtain ⟨k1, h', k2⟩ := run_perm l (flatP cn rn) 0 1 (flatP_good (by omega) (by omega) (by omega) (by omega)) h2
  obtain ⟨s, hs⟩ := good_one k2 h3
  rw [h4, hs]
  rw [hs] at k1
  have : posL [s] = s.map pos := by simp [posL]
  rw [this] at k1
  exact k1
theorem pile_cells {cn rn : Nat} {l : List Fold} (h : (foldedS cn rn l).2.2 = 0) : ((foldedS cn rn l).1.map (atI cn)).Perm (cellsI (rn * cn)) := by
  have := (pile_perm h).map fun p => p.2 * (cn : Int) + p.1
  rw [cells_flat, List.map_map] at this
  exact this
theorem pile_len {cn rn : Nat} {l : List Fold} (h : (foldedS cn rn l).2.2 = 0) : (foldedS cn rn l).1.length = rn * cn := by
  have := (pile_cells h).length_eq
  simpa [cellsI] using this
theorem pile_in {cn rn : Nat} {l : List Fold} (h : (foldedS cn rn l).2.2 = 0) {x : Leaf} (hx : x ∈ (foldedS cn rn l).1) : (0 ≤ x.col ∧ x.col < cn) ∧ 0 ≤ x.row ∧ x.row < rn := by
  have := (pile_perm h).mem_iff.1 (List.mem_map_of_mem hx)
  unfold flatG at this
  rw [posL_grid] at this
  simp only [oneL, List.map_cons, List.map_nil, pos, List.mem_flatMap, List.mem_range, List.mem_singleton, Prod.mk.injEq] at this
  obtain ⟨q, hq, k, hk, e1, e2⟩ := this
  omega
end Go.Proofs.YtgiegokdcmkfeaaGreatDoor
