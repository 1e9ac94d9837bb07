/-
  Lists: plain facts for walks (reversing in place, changing element by element).
-/
import Derived.Test.YtgiegokdcmkfeaaGreatDoorVLib
namespace Go.Vx
set_option linter.unusedSimpArgs false
set_option linter.unusedVariables false
/-- reversed up to 'i' from both ends. -/
def rv {α : Type} (l : List α) (i : Nat) : List α := List.ofFn (n := l.length) fun k => if k.1 < i ∨ l.length ≤ k.1 + i then l[l.length - 1 - k.1]'(by omega) else l[k.1]
theorem rv_eq {α : Type} (l : List α) (i : Nat) : rv l i = List.ofFn (n := l.length) fun k => if k.1 < i ∨ l.length ≤ k.1 + i then l[l.length - 1 - k.1]'(by omega) else l[k.1] := rfl
@[simp] theorem rv_length {α : Type} (l : List α) (i : Nat) : (rv l i).length = l.length := by rw [rv_eq]; simp
theorem rv_get {α : Type} (l : List α) (i k : Nat) (hk : k < l.length) : (rv l i)[k]? = if k < i ∨ l.length ≤ k + i then l[l.length - 1 - k]? else l[k]? := by
  rw [rv_eq, List.getElem?_eq_getElem (by simpa using hk), List.getElem_ofFn]
  by_cases hc : k < i ∨ l.length ≤ k + i
  · rw [if_pos hc, if_pos hc, List.getElem?_eq_getElem (by omega)]
  · rw [if_neg hc, if_neg hc, List.getElem?_eq_getElem (by omega)]
theorem rv_zero {α : Type} (l : List α) : rv l 0 = l := by
  apply List.ext_getElem?
  intro k
  by_cases hk : k < l.length
  · rw [rv_get l 0 k hk, if_neg (by omega)]
  · rw [List.getElem?_eq_none (by simp; omega), List.getElem?_eq_none (by omega)]
theorem rv_at {α : Type} (l : List α) (i j : Nat) (hj : j < l.length) (h1 : i ≤ j) (h2 : j + i < l.length) : (rv l i)[j]? = l[j]? := by
  rw [rv_get l i j hj, if_neg (by omega)]
theorem rv_step {α : Type} (l : List α) (i : Nat) (h : i + 1 + i < l.length) : ((rv l i).set i (l[l.length - 1 - i]'(by omega))).set (l.length - 1 - i) (l[i]'(by omega)) = rv l (i + 1) := by
  apply List.ext_getElem?
  intro k
  by_cases hk : k < l.length
  · rw [rv_get l (i + 1) k hk, List.getElem?_set, List.getElem?_set]
    simp only [List.length_set, rv_length]
    by_cases h1 : l.length - 1 - i = k
    · rw [if_pos h1, if_pos (by omega), if_pos (by omega), ← List.getElem?_eq_getElem]
      congr 1; omega
    · rw [if_neg h1]
      by_cases h2 : i = k
      · subst h2; rw [if_pos rfl, if_pos (by omega), if_pos (by omega), ← List.getElem?_eq_getElem]
      · rw [if_neg h2, rv_get l i k hk]
        by_cases h3 : k < i ∨ l.length ≤ k + i
        · rw [if_pos h3, if_pos (by omega)]
        · rw [if_neg h3, if_neg (by omega)]
  · rw [List.getElem?_eq_none (by simp; omega), List.getElem?_eq_none (by simp; omega)]
theorem rv_end {α : Type} (l : List α) (i : Nat) (h : l.length ≤ i + 1 + i) (h2 : 2 * i ≤ l.length) : rv l i = l.reverse := by
  apply List.ext_getElem?
  intro k
  by_cases hk : k < l.length
  · rw [rv_get l i k hk, List.getElem?_reverse hk]
    split
    · rfl
    · congr 1; omega
  · rw [List.getElem?_eq_none (by simp; omega), List.getElem?_eq_none (by simp; omega)]
/-- the first 'k' elements changed. -/
def chg {α : Type} (f : α → α) (l : List α) (k : Nat) : List α := (l.take k).map f ++ l.drop k
@[simp] theorem chg_length {α : Type} (f : α → α) (l : List α) (k : Nat) : (chg f l k).length = l.length := by simp [chg]; omega
theorem chg_zero {α : Type} (f : α → α) (l : List α) : chg f l 0 = l := by simp [chg]
theorem chg_end {α : Type} (f : α → α) (l : List α) : chg f l l.length = l.map f := by simp [chg]
theorem chg_at {α : Type} (f : α → α) (l : List α) (k : Nat) (hk : k < l.length) : (chg f l k)[k]? = some l[k] := by
  unfold chg
  rw [List.getElem?_append_right (by simp; omega)]
  simp [Nat.min_eq_left (Nat.le_of_lt hk), hk]
theorem chg_step {α : Type} (f : α → α) (l : List α) (k : Nat) (hk : k < l.length) : (chg f l k).set k (f l[k]) = chg f l (k + 1) := by
  unfold chg
  have e1 : l.take (k + 1) = l.take k ++ [l[k]] := List.take_succ_eq_append_getElem hk
  have e2 : l.drop k = l[k] :: l.drop (k + 1) := List.drop_eq_getElem_cons hk
  rw [e1, e2, List.map_append, List.set_append]
  have : ((l.take k).map f).length = k := by simp; omega
  rw [if_neg (by omega), this, Nat.sub_self, List.set_cons_zero, List.append_assoc]
  rfl
/-- a part of an element of a list that was made of another list. -/
theorem modify_map {α : Type} {f : α → List D} {g : List D → List D} {l : List α} {n : Nat} {x : α} (h : l[n]? = some x) (y : α) (hg : g (f x) = f y) : (l.map f).modify n g = (l.set n y).map f := by
  apply List.ext_getElem?
  intro k
  rw [List.getElem?_modify, List.getElem?_map, List.getElem?_map, List.getElem?_set]
  by_cases hk : n = k
  · subst hk
    have hn := (List.getElem?_eq_some_iff.1 h).1
    rw [if_pos rfl, if_pos hn, h]; simp [hg]
  · rw [if_neg hk]
    cases l[k]? <;> simp [hk]
end Go.Vx
