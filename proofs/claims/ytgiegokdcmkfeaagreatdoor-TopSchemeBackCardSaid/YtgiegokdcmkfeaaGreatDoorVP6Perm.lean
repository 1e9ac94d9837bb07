/-
  Chapter 6, plain laws of piles: seen from the other end and folded the other way; each place once.
-/
import Derived.Test.YtgiegokdcmkfeaaGreatDoorVGC
namespace Go.Proofs.YtgiegokdcmkfeaaGreatDoor
open Go Go.Vx
set_option linter.unusedSimpArgs false
theorem perm_flatMap_app {α β : Type} (f g : α → List β) : ∀ l : List α, (l.flatMap fun x => f x ++ g x).Perm (l.flatMap f ++ l.flatMap g)
  | [] => by simp
  | x :: l => by
    simp only [List.flatMap_cons]
    refine ((perm_flatMap_app f g l).append_left (f x ++ g x)).trans ?_
    rw [List.append_assoc, List.append_assoc]
    refine List.Perm.append_left (f x) ?_
    rw [← List.append_assoc, ← List.append_assoc]
    exact (List.perm_append_comm).append_right _
theorem perm_flatMap_congr {α β : Type} {f g : α → List β} : ∀ {l : List α}, (∀ x ∈ l, (f x).Perm (g x)) → (l.flatMap f).Perm (l.flatMap g)
  | [], _ => by simp
  | x :: l, h => by
    simp only [List.flatMap_cons]
    exact (h x (by simp)).append (perm_flatMap_congr fun y hy => h y (List.mem_cons_of_mem _ hy))
theorem perm_flatMap_rev {α β : Type} (f : α → List β) : ∀ l : List α, (l.reverse.flatMap f).Perm (l.flatMap f)
  | [] => by simp
  | x :: l => by
    rw [List.reverse_cons, List.flatMap_append, List.flatMap_cons]
    refine List.perm_append_comm.trans ?_
    simp only [List.flatMap_cons, List.flatMap_nil, List.append_nil]
    exact (perm_flatMap_rev f l).append_left (f x)
theorem range_rev (n : Nat) : (List.range n).reverse = (List.range n).map fun i => n - 1 - i := by
  apply List.ext_getElem (by simp)
  intro i h1 h2
  simp
theorem perm_range_rev {β : Type} (n : Nat) (f : Nat → List β) : ((List.range n).flatMap fun i => f (n - 1 - i)).Perm ((List.range n).flatMap f) := by
  have := perm_flatMap_rev f (List.range n)
  rwa [range_rev, List.flatMap_map] at this
theorem range_split {β : Type} (a n : Nat) (h : a ≤ n) (f : Nat → List β) : (List.range n).flatMap f = (List.range a).flatMap f ++ (List.range (n - a)).flatMap fun i => f (a + i) := by
  obtain ⟨m, rfl⟩ : ∃ m, n = a + m := ⟨n - a, by omega⟩
  rw [List.range_add, List.flatMap_append, Nat.add_sub_cancel_left, List.flatMap_map]
/-- what is laid over: each place once. -/
theorem perm_lay {β : Type} (first n : Nat) (h1 : first ≤ n) (h2 : n ≤ 2 * first) (A : Nat → List β) :
    ((List.range first).flatMap fun c => (if 2 * first - 1 - c < n then A (2 * first - 1 - c) else []) ++ A c).Perm ((List.range n).flatMap A) := by
  refine (perm_flatMap_app _ _ _).trans ?_
  rw [range_split first n h1 A]
  refine List.perm_append_comm.trans (List.Perm.append_left _ ?_)
  refine (perm_range_rev first _).symm.trans ?_
  rw [range_split (n - first) first (by omega)]
  have e1 : ((List.range (first - (n - first))).flatMap fun i => if 2 * first - 1 - (first - 1 - (n - first + i)) < n then A (2 * first - 1 - (first - 1 - (n - first + i))) else []) = [] := by
    rw [List.flatMap_eq_nil_iff]
    intro i hi
    rw [List.mem_range] at hi
    rw [if_neg (by omega)]
  rw [e1, List.append_nil]
  refine perm_flatMap_congr fun i hi => ?_
  rw [List.mem_range] at hi
  rw [if_pos (by omega), show 2 * first - 1 - (first - 1 - i) = first + i by omega]
theorem mir_at {mc mr : Bool} {cn rn j q : Nat} (ls : List (List Leaf)) (hq : q < rn) (hj : j < cn) : stkAt (grid cn rn (mirG mc mr cn rn ls)) (q * cn + j) = stkAt ls ((if mr then rn - 1 - q else q) * cn + (if mc then cn - 1 - j else j)) := grid_at _ hq hj
theorem mir_left {cn rn first : Nat} (ls : List (List Leaf)) (h1 : first ≤ cn) :
    grid first rn (mirG true false first rn (laidG cn rn first false false (grid cn rn (mirG true false cn rn ls)))) = laidG cn rn first false true ls := by
  have hG : ∀ b M, laidG cn rn first false b M = grid first rn fun c r => laidAt cn rn first false b M c r := fun b M => by simp only [laidG, Bool.false_eq_true, if_false]
  rw [hG, hG]
  refine grid_ext fun c r hc hr => ?_
  have hk : first - 1 - c < first := by omega
  simp only [mirG, Bool.false_eq_true, if_false, if_true]
  rw [grid_at _ hr hk]
  by_cases h : 2 * first - 1 - (first - 1 - c) < cn
  · rw [laidLeft_yes h, mir_at ls hr h, mir_at ls hr (show first - 1 - c < cn by omega)]
    simp only [laidAt, getAt, Bool.false_eq_true, if_false, if_true, h]
  · rw [laidLeft_no h, mir_at ls hr (show first - 1 - c < cn by omega)]
    simp only [laidAt, getAt, Bool.false_eq_true, if_false, if_true, h]
theorem mir_up {cn rn first : Nat} (ls : List (List Leaf)) (h1 : first ≤ rn) :
    grid cn first (mirG false true cn first (laidG cn rn first true false (grid cn rn (mirG false true cn rn ls)))) = laidG cn rn first true true ls := by
  have hG : ∀ b M, laidG cn rn first true b M = grid cn first fun c r => laidAt cn rn first true b M r c := fun b M => by simp only [laidG, if_true]
  rw [hG, hG]
  refine grid_ext fun c r hc hr => ?_
  have hk : first - 1 - r < first := by omega
  simp only [mirG, Bool.false_eq_true, if_false, if_true]
  rw [grid_at _ hk hc]
  by_cases h : 2 * first - 1 - (first - 1 - r) < rn
  · rw [laidUp_yes h, mir_at ls h hc, mir_at ls (show first - 1 - r < rn by omega) hc]
    simp only [laidAt, getAt, Bool.false_eq_true, if_false, if_true, h]
  · rw [laidUp_no h, mir_at ls (show first - 1 - r < rn by omega) hc]
    simp only [laidAt, getAt, Bool.false_eq_true, if_false, if_true, h]
/-- where a leaf was. -/
def pos (x : Leaf) : Int × Int := (x.col, x.row)
theorem pos_flip (b : Bool) (l : List Leaf) : (l.map (flip b)).map pos = l.map pos := by rw [List.map_map]; rfl
theorem pos_rnd (l : List Leaf) : (l.map rnd1).map pos = l.map pos := by rw [List.map_map]; rfl
def posL (ls : List (List Leaf)) : List (Int × Int) := ls.flatMap fun l => l.map pos
theorem posL_grid (cn rn : Nat) (f : Nat → Nat → List Leaf) : posL (grid cn rn f) = (List.range rn).flatMap fun r => (List.range cn).flatMap fun c => (f c r).map pos := by
  unfold posL grid gridRow
  rw [List.flatMap_assoc]
  congr 1
  funext r
  rw [List.flatMap_map]
theorem posL_self {cn rn : Nat} {ls : List (List Leaf)} (h : ls.length = rn * cn) : posL ls = (List.range rn).flatMap fun r => (List.range cn).flatMap fun c => (stkAt ls (r * cn + c)).map pos := by
  conv => lhs; rw [← grid_self h]
  exact posL_grid _ _ _
theorem posL_mir (mc mr : Bool) {cn rn : Nat} {ls : List (List Leaf)} (h : ls.length = rn * cn) : (posL (grid cn rn (mirG mc mr cn rn ls))).Perm (posL ls) := by
  rw [posL_grid, posL_self h]
  have hrow : ∀ y, ((List.range cn).flatMap fun c => (stkAt ls (y * cn + (if mc then cn - 1 - c else c))).map pos).Perm ((List.range cn).flatMap fun c => (stkAt ls (y * cn + c)).map pos) := fun y => by
    cases mc
    · exact List.Perm.refl _
    · exact perm_range_rev cn fun c => (stkAt ls (y * cn + c)).map pos
  refine (perm_flatMap_congr fun r _ => hrow (if mr then rn - 1 - r else r)).trans ?_
  cases mr
  · exact List.Perm.refl _
  · exact perm_range_rev rn fun r => (List.range cn).flatMap fun c => (stkAt ls (r * cn + c)).map pos
theorem posL_over {cn rn : Nat} {ls : List (List Leaf)} (h : ls.length = rn * cn) : (posL (overG cn rn ls)).Perm (posL ls) := by
  refine List.Perm.trans ?_ (posL_mir true false h)
  unfold overG
  rw [posL_grid, posL_grid]
  refine perm_flatMap_congr fun r _ => perm_flatMap_congr fun c _ => ?_
  rw [pos_flip, List.map_reverse]
  exact List.reverse_perm _
theorem posL_round {cn rn : Nat} {ls : List (List Leaf)} (h : ls.length = rn * cn) : (posL (roundG cn rn ls)).Perm (posL ls) := by
  refine List.Perm.trans ?_ (posL_mir true true h)
  unfold roundG
  rw [posL_grid, posL_grid]
  refine perm_flatMap_congr fun r _ => perm_flatMap_congr fun c _ => ?_
  rw [pos_rnd]
  exact List.Perm.refl _
theorem posL_left {cn rn first : Nat} {ls : List (List Leaf)} (h : ls.length = rn * cn) (h1 : first ≤ cn) (h2 : cn ≤ 2 * first) : (posL (laidG cn rn first false false ls)).Perm (posL ls) := by
  simp only [laidG, Bool.false_eq_true, if_false]
  rw [posL_grid, posL_self h]
  refine perm_flatMap_congr fun r _ => ?_
  refine List.Perm.trans (perm_flatMap_congr fun c _ => ?_) (perm_lay first cn h1 h2 fun c => (stkAt ls (r * cn + c)).map pos)
  by_cases hc : 2 * first - 1 - c < cn
  · rw [laidLeft_yes hc, if_pos hc, List.map_append, pos_flip, List.map_reverse]
    exact (List.reverse_perm _).append_right _
  · rw [laidLeft_no hc, if_neg hc]
    exact List.Perm.refl _
theorem posL_up {cn rn first : Nat} {ls : List (List Leaf)} (h : ls.length = rn * cn) (h1 : first ≤ rn) (h2 : rn ≤ 2 * first) : (posL (laidG cn rn first true false ls)).Perm (posL ls) := by
  simp only [laidG, if_true]
  rw [posL_grid, posL_self h]
  refine List.Perm.trans (perm_flatMap_congr fun r _ => ?_) (perm_lay first rn h1 h2 fun r => (List.range cn).flatMap fun c => (stkAt ls (r * cn + c)).map pos)
  by_cases hr : 2 * first - 1 - r < rn
  · rw [if_pos hr]
    refine List.Perm.trans (perm_flatMap_congr fun c _ => ?_) (perm_flatMap_app _ _ _)
    rw [laidUp_yes hr, List.map_append, pos_flip, List.map_reverse]
    exact (List.reverse_perm _).append_right _
  · rw [if_neg hr, List.nil_append]
    refine perm_flatMap_congr fun c _ => ?_
    rw [laidUp_no hr]
theorem posL_laid {cn rn first : Nat} {rows back : Bool} {ls : List (List Leaf)} (h : ls.length = rn * cn) (h1 : first ≤ if rows then rn else cn) (h2 : (if rows then rn else cn) ≤ 2 * first) : (posL (laidG cn rn first rows back ls)).Perm (posL ls) := by
  cases rows <;> simp only [Bool.false_eq_true, if_false, if_true] at h1 h2
  · cases back
    · exact posL_left h h1 h2
    · rw [← mir_left ls h1]
      refine (posL_mir true false (by simp [laidG, grid_length])).trans ?_
      exact (posL_left (grid_length _ _ _) h1 h2).trans (posL_mir true false h)
  · cases back
    · exact posL_up h h1 h2
    · rw [← mir_up ls h1]
      refine (posL_mir false true (by simp [laidG, grid_length])).trans ?_
      exact (posL_up (grid_length _ _ _) h1 h2).trans (posL_mir false true h)
theorem posL_fold {h : Nat} {p : PileS} (g : p.Good h) {x : Fold} (he : foldErrS p x = 0) : (posL (foldP p x).ls).Perm (posL p.ls) := by
  rw [foldP_ok he]
  by_cases h5 : x.kind = 5
  · rw [if_pos h5]; exact posL_over g.len
  rw [if_neg h5]
  by_cases h6 : x.kind = 6
  · rw [if_pos h6]; exact posL_round g.len
  rw [if_neg h6]
  have h56 : ¬ (x.kind = 5 ∨ x.kind = 6) := by omega
  unfold foldErrS at he
  simp only [h56, if_false, not_false_eq_true, true_and] at he
  by_cases hk : ¬ (1 ≤ x.kind ∧ x.kind ≤ 6)
  · rw [if_pos hk] at he; omega
  rw [if_neg hk] at he
  by_cases hc : x.count < 1
  · rw [if_pos hc] at he; omega
  rw [if_neg hc] at he
  by_cases hs : (foldSide p x : Int) - x.count < x.count
  · rw [if_pos hs] at he; omega
  have hsd : foldSide p x = if decide (x.kind = 3 ∨ x.kind = 4) = true then p.rows else p.cols := by simp [foldSide]
  refine posL_laid g.len ?_ ?_
  · rw [← hsd]; omega
  · rw [← hsd]; omega
theorem run_perm : ∀ (l : List Fold) (p : PileS) (k h : Nat), p.Good h → (foldRun p k l).2 = none → (posL (foldRun p k l).1.ls).Perm (posL p.ls) ∧ ∃ h', (foldRun p k l).1.Good h'
  | [], p, k, h, g, _ => ⟨List.Perm.refl _, h, g⟩
  | x :: l, p, k, h, g, hn => by
    simp only [foldRun] at hn ⊢
    by_cases he : foldErrS p x = 0
    · rw [if_neg (by simp [he])] at hn ⊢
      obtain ⟨h1, h2⟩ := run_perm l (foldP p x) (k + 1) (2 * h) (foldP_good g he) hn
      exact ⟨h1.trans (posL_fold g he), h2⟩
    · rw [if_pos he] at hn; simp at hn
end Go.Proofs.YtgiegokdcmkfeaaGreatDoor
