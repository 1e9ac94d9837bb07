/-
  Chapter 6, plain laws of piles: the scheme of a pile is right, and reads in order.
-/
import Derived.Test.YtgiegokdcmkfeaaGreatDoorVGE
namespace Go.Proofs.YtgiegokdcmkfeaaGreatDoor
open Go Go.Vx
set_option linter.unusedSimpArgs false
def atN (c : Int) (x : Leaf) : Nat := (x.row * c + x.col).toNat
theorem schemeK_keep (c : Int) : ∀ (l : List Leaf) (cs : List Cell) (i p : Nat), (∀ x ∈ l, atN c x ≠ p) → (schemeK c cs i l)[p]? = cs[p]?
  | [], _, _, _, _ => rfl
  | x :: l, cs, i, p, h => by
    unfold schemeK
    rw [schemeK_keep c l _ _ _ fun y hy => h y (List.mem_cons_of_mem _ hy)]
    exact List.getElem?_set_ne (h x (by simp))
theorem schemeK_len (c : Int) : ∀ (l : List Leaf) (cs : List Cell) (i : Nat), (schemeK c cs i l).length = cs.length
  | [], _, _ => rfl
  | x :: l, cs, i => by
    unfold schemeK
    rw [schemeK_len c l]
    exact List.length_set
theorem schemeK_get (c : Int) : ∀ (l : List Leaf) (cs : List Cell) (i : Nat), (l.map (atN c)).Nodup → (∀ x ∈ l, atN c x < cs.length) → ∀ (j : Nat) (h : j < l.length), (schemeK c cs i l)[atN c l[j]]? = some (cellAt (i + j) l[j])
  | [], _, _, _, _, _, h => by simp at h
  | x :: l, cs, i, hn, hb, j, h => by
    rw [List.map_cons, List.nodup_cons] at hn
    unfold schemeK
    cases j with
    | zero =>
      simp only [List.getElem_cons_zero, Nat.add_zero]
      rw [schemeK_keep c l _ _ _ fun y hy hc => hn.1 (by rw [← hc]; exact List.mem_map_of_mem hy)]
      exact List.getElem?_set_self (hb x (by simp))
    | succ j =>
      simp only [List.getElem_cons_succ]
      have := schemeK_get c l (cs.set (x.row * c + x.col).toNat (cellAt i x)) (i + 1) hn.2 (fun y hy => by rw [List.length_set]; exact hb y (List.mem_cons_of_mem _ hy)) j (by simpa using h)
      rw [this, show i + 1 + j = i + (j + 1) by omega]
def cellL : Nat → List Leaf → List Cell
  | _, [] => []
  | i, x :: l => cellAt i x :: cellL (i + 1) l
theorem cellL_len : ∀ (l : List Leaf) (i : Nat), (cellL i l).length = l.length
  | [], _ => rfl
  | x :: l, i => by simp [cellL, cellL_len l]
theorem cellL_get : ∀ (l : List Leaf) (i j : Nat) (h : j < l.length), (cellL i l)[j]? = some (cellAt (i + j) l[j])
  | [], _, _, h => by simp at h
  | x :: l, i, j, h => by
    cases j with
    | zero => rfl
    | succ j =>
      simp only [cellL, List.getElem?_cons_succ, List.getElem_cons_succ]
      rw [cellL_get l (i + 1) j (by simpa using h), show i + 1 + j = i + (j + 1) by omega]
def pgs (x : Cell) : List Int := [x.front, x.back]
theorem pgs_at (i : Nat) (x : Leaf) : pgs (cellAt i x) = if x.over = 1 then [2 * (i : Int) + 2, 2 * (i : Int) + 1] else [2 * (i : Int) + 1, 2 * (i : Int) + 2] := by
  unfold cellAt pgs; split <;> rfl
theorem cellL_pages : ∀ (l : List Leaf) (i : Nat), ((cellL i l).flatMap pgs).Nodup ∧ ∀ y ∈ (cellL i l).flatMap pgs, 2 * (i : Int) + 1 ≤ y ∧ y ≤ 2 * ((i + l.length : Nat) : Int)
  | [], i => by simp [cellL]
  | x :: l, i => by
    obtain ⟨h1, h2⟩ := cellL_pages l (i + 1)
    have hx : ∀ y ∈ pgs (cellAt i x), y = 2 * (i : Int) + 1 ∨ y = 2 * (i : Int) + 2 := fun y hy => by
      rw [pgs_at] at hy
      split at hy <;> simp at hy <;> omega
    simp only [cellL, List.flatMap_cons, List.length_cons]
    constructor
    · rw [List.nodup_append]
      refine ⟨?_, h1, fun a ha b hb hab => ?_⟩
      · rw [pgs_at]; split <;> simp
      · have := hx a ha
        have := (h2 b hb).1
        push_cast at this
        omega
    · intro y hy
      rcases List.mem_append.1 hy with hy | hy
      · have := hx y hy
        push_cast
        omega
      · have := h2 y hy
        push_cast at this ⊢
        omega
theorem schK_ok {n : Nat} : ∀ (l : List Cell) (seen : List Int) (i : Nat), (∀ x ∈ l, clOk n x = true) → (seen ++ l.flatMap pgs).Nodup → schK n seen i l = (0, 0)
  | [], _, _, _, _ => rfl
  | x :: l, seen, i, h, hn => by
    have hx := h x (by simp)
    unfold schK
    rw [if_neg (by simp [hx])]
    have hn2 := hn
    simp only [List.flatMap_cons, pgs] at hn2
    rw [← List.append_assoc] at hn2
    have hn3 := hn2
    rw [List.nodup_append, List.nodup_append] at hn2
    obtain ⟨⟨-, h1, h2⟩, -, -⟩ := hn2
    rw [if_neg]
    · exact schK_ok l _ _ (fun y hy => h y (List.mem_cons_of_mem _ hy)) hn3
    · rintro (hf | hf | hf)
      · exact h2 _ hf _ (by simp) rfl
      · exact h2 _ hf _ (by simp) rfl
      · rw [List.nodup_cons] at h1; exact h1.1 (by simp [hf])
theorem flatMap_two {α β : Type} {f : α → List β} (hf : ∀ x, (f x).length = 2) : ∀ (l : List α) (j : Nat) (h : j < l.length), (l.flatMap f)[2 * j]? = (f l[j])[0]? ∧ (l.flatMap f)[2 * j + 1]? = (f l[j])[1]?
  | [], _, h => by simp at h
  | x :: l, j, h => by
    rw [List.flatMap_cons]
    cases j with
    | zero =>
      rw [List.getElem?_append_left (by rw [hf]; omega), List.getElem?_append_left (by rw [hf]; omega)]
      exact ⟨rfl, rfl⟩
    | succ j =>
      rw [List.getElem?_append_right (by rw [hf]; omega), List.getElem?_append_right (by rw [hf]; omega), hf]
      have := flatMap_two hf l j (by simpa using h)
      rw [show 2 * (j + 1) - 2 = 2 * j by omega, show 2 * (j + 1) + 1 - 2 = 2 * j + 1 by omega]
      exact this
theorem pile_ok {cn rn : Nat} {l : List Fold} (h : (foldedS cn rn l).2.2 = 0) : ∀ x ∈ (foldedS cn rn l).1, LfOk cn rn x := by
  obtain ⟨s1, s2, s3, s4, s5⟩ := folded_sheet h
  obtain ⟨h1, h2, h3, h4⟩ := folded_ok h
  obtain ⟨-, h', g⟩ := run_perm l _ 0 1 (flatP_good (by omega) (by omega) (by omega) (by omega)) h2
  obtain ⟨s, hs⟩ := good_one g h3
  intro x hx
  have hin := pile_in h hx
  rw [h4, hs] at hx
  exact ⟨(g.fine s (by rw [hs]; simp)).1 x hx, hin⟩
theorem at_nat {cn rn : Nat} {x : Leaf} (h : LfOk cn rn x) : atN cn x = x.row.toNat * cn + x.col.toNat ∧ atI cn x = (atN cn x : Nat) := by
  obtain ⟨-, ⟨c1, c2⟩, r1, r2⟩ := h
  have e : x.row * (cn : Int) + x.col = ((x.row.toNat * cn + x.col.toNat : Nat) : Int) := by
    push_cast; rw [Int.toNat_of_nonneg r1, Int.toNat_of_nonneg c1]
  simp only [atN, atI, e, Int.toNat_natCast, and_self]
theorem pile_nat {cn rn : Nat} {l : List Fold} (h : (foldedS cn rn l).2.2 = 0) : ((foldedS cn rn l).1.map (atN cn)).Perm (List.range (rn * cn)) := by
  have := (pile_cells h).map Int.toNat
  unfold cellsI at this
  rw [List.map_map, List.map_map] at this
  have e : (Int.toNat ∘ fun i : Nat => (i : Int)) = id := by funext i; simp
  rw [e, List.map_id] at this
  exact this
def schC (cn rn : Nat) (l : List Fold) : List Cell := schemeK cn (List.replicate ((cn : Int) * rn).toNat zeroC) 0 (foldedS cn rn l).1
theorem schC_len (cn rn : Nat) (l : List Fold) : (schC cn rn l).length = rn * cn := by
  unfold schC
  rw [schemeK_len, List.length_replicate, ← Int.natCast_mul, Int.toNat_natCast, Nat.mul_comm]
theorem schC_get {cn rn : Nat} {l : List Fold} (h : (foldedS cn rn l).2.2 = 0) (j : Nat) (hj : j < (foldedS cn rn l).1.length) : (schC cn rn l)[atN cn (foldedS cn rn l).1[j]]? = some (cellAt j (foldedS cn rn l).1[j]) := by
  have hp := pile_nat h
  have := schemeK_get cn (foldedS cn rn l).1 (List.replicate ((cn : Int) * rn).toNat zeroC) 0 (hp.symm.nodup List.nodup_range) (fun x hx => by
    have := hp.mem_iff.1 (List.mem_map_of_mem hx)
    rw [List.mem_range] at this
    rw [List.length_replicate, ← Int.natCast_mul, Int.toNat_natCast, Nat.mul_comm]; exact this) j hj
  rw [Nat.zero_add] at this
  exact this
theorem schC_perm {cn rn : Nat} {l : List Fold} (h : (foldedS cn rn l).2.2 = 0) : (schC cn rn l).Perm (cellL 0 (foldedS cn rn l).1) := by
  have e1 : schC cn rn l = (List.range (rn * cn)).map fun p => (schC cn rn l).getD p zC := by
    apply List.ext_getElem (by rw [schC_len]; simp)
    intro i h1 h2
    simp only [List.getElem_map, List.getElem_range]
    rw [List.getD_eq_getElem?_getD, List.getElem?_eq_getElem h1]; rfl
  have e2 : ((foldedS cn rn l).1.map (atN cn)).map (fun p => (schC cn rn l).getD p zC) = cellL 0 (foldedS cn rn l).1 := by
    apply List.ext_getElem? 
    intro j
    by_cases hj : j < (foldedS cn rn l).1.length
    · rw [cellL_get _ _ _ hj, List.getElem?_map, List.getElem?_map, List.getElem?_eq_getElem hj]
      simp only [Option.map_some]
      rw [List.getD_eq_getElem?_getD, schC_get h j hj, Nat.zero_add]; rfl
    · rw [List.getElem?_eq_none (by simp; omega), List.getElem?_eq_none (by rw [cellL_len]; omega)]
  rw [← e2]
  conv => lhs; rw [e1]
  exact (pile_nat h).symm.map _
theorem schC_ok {cn rn : Nat} {l : List Fold} (h : (foldedS cn rn l).2.2 = 0) : (∀ x ∈ schC cn rn l, clOk (schC cn rn l).length x = true) ∧ schS cn rn (schC cn rn l) = (0, 0) := by
  obtain ⟨s1, s2, s3, s4, s5⟩ := folded_sheet h
  have hp := schC_perm h
  have hpl := pile_len h
  have hc := cellL_pages (foldedS cn rn l).1 0
  have hok : ∀ x ∈ schC cn rn l, clOk (schC cn rn l).length x = true := fun x hx => by
    have hx2 := hp.mem_iff.1 hx
    have h1 := hc.2 x.front (List.mem_flatMap.2 ⟨x, hx2, by simp [pgs]⟩)
    have h2 := hc.2 x.back (List.mem_flatMap.2 ⟨x, hx2, by simp [pgs]⟩)
    rw [Nat.zero_add, hpl] at h1 h2
    obtain ⟨j, hj, he⟩ := List.mem_iff_getElem.1 hx2
    have hj2 : j < (foldedS cn rn l).1.length := by rwa [cellL_len] at hj
    have hg := cellL_get (foldedS cn rn l).1 0 j hj2
    rw [List.getElem?_eq_getElem hj, he] at hg
    simp only [Option.some.injEq] at hg
    obtain ⟨⟨-, t1, t2⟩, -⟩ := pile_ok h _ (List.getElem_mem hj2)
    have ht : x.fturn = ((foldedS cn rn l).1[j]).round ∧ x.bturn = ((foldedS cn rn l).1[j]).round := by
      rw [hg]; unfold cellAt; split <;> exact ⟨rfl, rfl⟩
    rw [clOk_iff, schC_len]
    refine ⟨by omega, by omega, ?_, ?_⟩
    · rw [ht.1]; exact ⟨t1, t2⟩
    · rw [ht.2]; exact ⟨t1, t2⟩
  refine ⟨hok, ?_⟩
  have e : ((schC cn rn l).length : Int) = (cn : Int) * rn := by rw [schC_len]; push_cast; exact Int.mul_comm _ _
  unfold schS
  rw [if_neg (by simpa using s5), if_neg (by simp [e])]
  refine schK_ok _ _ _ hok ?_
  rw [List.nil_append]
  exact (hp.flatMap_right pgs).symm.nodup hc.1
theorem schC_read {cn rn : Nat} {l : List Fold} (h : (foldedS cn rn l).2.2 = 0) : ∀ (i : Nat) (hi : i < ((foldedS cn rn l).1.flatMap (rdP cn (schC cn rn l))).length), ((foldedS cn rn l).1.flatMap (rdP cn (schC cn rn l)))[i] = ⟨(i : Int) + 1, 0⟩ := by
  intro i hi
  have hl := hi
  rw [rdL_len] at hl
  have hj : i / 2 < (foldedS cn rn l).1.length := by omega
  obtain ⟨h1, h2⟩ := flatMap_two (rdP_len cn (schC cn rn l)) (foldedS cn rn l).1 (i / 2) hj
  have hc : rdC cn (schC cn rn l) (foldedS cn rn l).1[i / 2] = cellAt (i / 2) (foldedS cn rn l).1[i / 2] := by
    have := schC_get h (i / 2) hj
    rw [(at_nat (pile_ok h _ (List.getElem_mem hj))).1] at this
    unfold rdC
    rw [List.getD_eq_getElem?_getD, this]; rfl
  have hP : rdP cn (schC cn rn l) (foldedS cn rn l).1[i / 2] = [⟨2 * ((i / 2 : Nat) : Int) + 1, 0⟩, ⟨2 * ((i / 2 : Nat) : Int) + 2, 0⟩] := by
    unfold rdP
    rw [hc]
    unfold cellAt
    by_cases ho : (foldedS cn rn l).1[i / 2].over = 1
    · simp only [ho, if_true, xr]
    · simp only [ho, if_false, xr, if_true]
  rw [hP] at h1 h2
  have hg : ((foldedS cn rn l).1.flatMap (rdP cn (schC cn rn l)))[i]? = some ⟨(i : Int) + 1, 0⟩ := by
    rcases Nat.mod_two_eq_zero_or_one i with hm | hm
    · rw [show 2 * (i / 2) = i by omega] at h1
      rw [h1]
      simp only [List.getElem?_cons_zero, Option.some.injEq, Page.mk.injEq, and_true]; omega
    · rw [show 2 * (i / 2) + 1 = i by omega] at h2
      rw [h2]
      simp only [List.getElem?_cons_succ, List.getElem?_cons_zero, Option.some.injEq, Page.mk.injEq, and_true]; omega
  rw [List.getElem?_eq_getElem hi] at hg
  exact Option.some.inj hg
end Go.Proofs.YtgiegokdcmkfeaaGreatDoor
