/-
 Chapter 8, walks: labels of edits are checked (reference).
-/
import Derived.Test.YtmiibjncomgneaaVGI
import Derived.Test.YtmiibjncomgneaaVGN
import Derived.Test.YtmiibjncomgneaaVDrF
namespace Go.Proofs.Ytmiibjncomgneaa
open Go Go.Vx
set_option linter.unusedSimpArgs false
set_option linter.unusedVariables false
set_option maxRecDepth 20000
def lenS (n : Nat) : Bool := decide (n ≤ 10) || (decide (40 < n) && decide (n ≤ 42))
def slimB (l : List ByteArray) : Bool := lenS l.length && l.all szB
def chN (a b : List ByteArray) (i k : Nat) : Int := if a[i]? = b[k]? then 0 else 1
end Go.Proofs.Ytmiibjncomgneaa
/-
 Chapter 8, walks: labels of edits are checked (reference), the second part.
-/
namespace Go.Proofs.Ytmiibjncomgneaa
open Go Go.Vx
set_option linter.unusedSimpArgs false
set_option linter.unusedVariables false
set_option maxRecDepth 20000
/-- whether a label binds those behind it. -/
def fwdB (a b : List ByteArray) (L : List Int) (i k : Nat) : Bool :=
 !((decide (i < a.length) && decide (L.getD (atN b.length i k) 0 + 1 < L.getD (atN b.length (i + 1) k) 0)) ||
  (decide (k < b.length) && decide (L.getD (atN b.length i k) 0 + 1 < L.getD (atN b.length i (k + 1)) 0)) ||
  (decide (i < a.length) && decide (k < b.length) && decide (L.getD (atN b.length i k) 0 + chN a b i k < L.getD (atN b.length (i + 1) (k + 1)) 0)))
def fwdR (a b : List ByteArray) (L : List Int) (i : Nat) : Bool := (List.range (b.length + 1)).all fun k => fwdB a b L i k
def refOk (a b : List ByteArray) (L : List Int) : Bool := decide (L.getD 0 0 = 0) && (List.range (a.length + 1)).all fun i => fwdR a b L i
def labR (a b : List ByteArray) (L : List Int) : Int × Int :=
 if L.length = (a.length + 1) * (b.length + 1) then (if L.any badL = true then (0, 2) else if refOk a b L = true then (L.getD (L.length - 1) 0, 0) else (0, 22)) else (0, 10)
end Go.Proofs.Ytmiibjncomgneaa
/-
 Chapter 8: the law of labels.
-/
namespace Go.Proofs.Ytmiibjncomgneaa
open Go Go.Vx
set_option linter.unusedSimpArgs false
set_option linter.unusedVariables false
set_option maxRecDepth 20000
theorem fold_le {nb : Nat} {L : List Int} {x : Int} : ∀ (l : List ((Nat × Nat) × Int)) (m : Int), x ≤ l.foldl (bdS nb L) m ↔ x ≤ m ∧ ∀ p ∈ l, x ≤ L.getD (atN nb p.1.1 p.1.2) 0 + p.2
 | [], m => by simp
 | p :: l, m => by
  rw [List.foldl_cons, fold_le l, bdS]
  simp only [List.forall_mem_cons]
  constructor
  ·rintro ⟨h1, h2⟩
   exact ⟨by omega, by omega, h2⟩
  ·rintro ⟨h1, h2, h3⟩
   exact ⟨by omega, h3⟩
theorem bdV_le {a b : List ByteArray} {L : List Int} {i k : Nat} {x : Int} : x ≤ bdV a b L i k ↔ x ≤ mostB i k ∧ ∀ p ∈ stN a b i k, x ≤ L.getD (atN b.length p.1.1 p.1.2) 0 + p.2 := fold_le _ _
def lb (b : List ByteArray) (L : List Int) (i k : Nat) : Int := L.getD (atN b.length i k) 0
theorem fwd_iff {a b : List ByteArray} {L : List Int} {i k : Nat} : fwdB a b L i k = true ↔ (i < a.length → lb b L (i + 1) k ≤ lb b L i k + 1) ∧ (k < b.length → lb b L i (k + 1) ≤ lb b L i k + 1) ∧ (i < a.length → k < b.length → lb b L (i + 1) (k + 1) ≤ lb b L i k + chN a b i k) := by
 unfold fwdB lb
 simp only [Bool.not_eq_true', Bool.or_eq_false_iff, Bool.and_eq_false_iff, decide_eq_false_iff_not]
 constructor
 ·rintro ⟨⟨h1, h2⟩, h3⟩
  refine ⟨fun h => by omega, fun h => by omega, fun h h' => by omega⟩
 ·rintro ⟨h1, h2, h3⟩
  refine ⟨⟨?_, ?_⟩, ?_⟩
  ·by_cases h : i < a.length
   ·have := h1 h; omega
   ·exact .inl h
  ·by_cases h : k < b.length
   ·have := h2 h; omega
   ·exact .inl h
  ·by_cases h : i < a.length
   ·by_cases h' : k < b.length
    ·have := h3 h h'; omega
    ·exact .inl (.inr h')
   ·exact .inl (.inl h)
theorem row_iff {a b : List ByteArray} {L : List Int} {i k : Nat} : rowOk a b L i k = true ↔ lb b L i k ≤ mostB i k ∧ (0 < i → 0 < k → lb b L i k ≤ lb b L (i - 1) (k - 1) + chN a b (i - 1) (k - 1)) ∧ (0 < i → lb b L i k ≤ lb b L (i - 1) k + 1) ∧ (0 < k → lb b L i k ≤ lb b L i (k - 1) + 1) := by
 unfold rowOk
 rw [decide_eq_true_eq, bdV_le]
 refine and_congr Iff.rfl ?_
 unfold stN lb chN
 constructor
 ·intro h
  refine ⟨fun h1 h2 => ?_, fun h1 => ?_, fun h2 => ?_⟩
  ·have := h ((i - 1, k - 1), if a[i - 1]? = b[k - 1]? then 0 else 1) (by rw [if_pos ⟨h1, h2⟩]; simp)
   exact this
  ·have := h ((i - 1, k), 1) (by rw [if_pos h1]; simp)
   exact this
  ·have := h ((i, k - 1), 1) (by rw [if_pos h2]; simp)
   exact this
 ·rintro ⟨h1, h2, h3⟩ p hp
  simp only [List.mem_append] at hp
  rcases hp with hp | hp | hp
  ·split at hp
   ·rename_i hh
    simp only [List.mem_singleton] at hp; subst hp
    exact h1 hh.1 hh.2
   ·cases hp
  ·split at hp
   ·rename_i hh
    simp only [List.mem_singleton] at hp; subst hp
    exact h2 hh
   ·cases hp
  ·split at hp
   ·rename_i hh
    simp only [List.mem_singleton] at hp; subst hp
    exact h3 hh
   ·cases hp
theorem range_all {p : Nat → Bool} {n : Nat} : (List.range n).all p = true ↔ ∀ k, k < n → p k = true := by
 rw [List.all_eq_true]
 exact ⟨fun h k hk => h k (List.mem_range.2 hk), fun h k hk => h k (List.mem_range.1 hk)⟩
theorem lab_ref {a b : List ByteArray} {L : List Int} (hn : L.length = (a.length + 1) * (b.length + 1)) (hv : ∀ x ∈ L, 0 ≤ x ∧ x ≤ 100) : labOk a b L = refOk a b L := by
 have hb : ∀ i k, i ≤ a.length → k ≤ b.length → 0 ≤ lb b L i k ∧ lb b L i k ≤ 100 := fun i k h1 h2 => by
  have hx : atN b.length i k < L.length := by rw [hn]; exact atN_lt h1 h2
  have : lb b L i k = L[atN b.length i k] := by simp [lb, List.getD_eq_getElem?_getD, hx]
  rw [this]
  exact hv _ (List.getElem_mem hx)
 have h00 : lb b L 0 0 = L.getD 0 0 := by simp [lb, atN]
 rw [Bool.eq_iff_iff]
 unfold labOk refOk rowsOk fwdR
 rw [Bool.and_eq_true, decide_eq_true_eq, range_all, range_all]
 simp only [range_all]
 constructor
 ·intro h
  have hr := fun i k (h1 : i < a.length + 1) (h2 : k < b.length + 1) => row_iff.1 (h i h1 k h2)
  refine ⟨?_, fun i hi k hk => fwd_iff.2 ⟨fun h1 => ?_, fun h2 => ?_, fun h1 h2 => ?_⟩⟩
  ·have h1 := (hr 0 0 (by omega) (by omega)).1
   have h2 := hb 0 0 (by omega) (by omega)
   rw [← h00]
   unfold mostB at h1
   simp at h1; omega
  ·exact (hr (i + 1) k (by omega) hk).2.2.1 (by omega)
  ·exact (hr i (k + 1) hi (by omega)).2.2.2 (by omega)
  ·exact (hr (i + 1) (k + 1) (by omega) (by omega)).2.1 (by omega) (by omega)
 ·rintro ⟨h0, h⟩ i hi k hk
  have hf := fun i k (h1 : i < a.length + 1) (h2 : k < b.length + 1) => fwd_iff.1 (h i h1 k h2)
  refine row_iff.2 ⟨?_, fun h1 h2 => ?_, fun h1 => ?_, fun h2 => ?_⟩
  ·unfold mostB
   split
   ·rename_i hz
    obtain ⟨rfl, rfl⟩ := hz
    omega
   ·exact (hb i k (by omega) (by omega)).2
  ·obtain ⟨i, rfl⟩ : ∃ j, i = j + 1 := ⟨i - 1, by omega⟩
   obtain ⟨k, rfl⟩ : ∃ j, k = j + 1 := ⟨k - 1, by omega⟩
   exact (hf i k (by omega) (by omega)).2.2 (by omega) (by omega)
  ·obtain ⟨i, rfl⟩ : ∃ j, i = j + 1 := ⟨i - 1, by omega⟩
   exact (hf i k (by omega) hk).1 (by omega)
  ·obtain ⟨k, rfl⟩ : ∃ j, k = j + 1 := ⟨k - 1, by omega⟩
   exact (hf i k hi (by omega)).2.1 (by omega)
theorem labE_eq (a b : List ByteArray) (L : List Int) : labE a b L = labR a b L := by
 unfold labE labR
 by_cases hn : L.length = (a.length + 1) * (b.length + 1)
 ·rw [if_pos hn, if_pos hn]
  by_cases hr : L.any badL = true
  ·rw [if_pos hr, if_pos hr]
  ·rw [if_neg hr, if_neg hr, lab_ref hn (fun x hx => ?_)]
   have hr : L.any badL = false := by simpa using hr
   rw [List.any_eq_false] at hr
   simpa [badL] using hr x hx
 ·rw [if_neg hn, if_neg hn]
end Go.Proofs.Ytmiibjncomgneaa
