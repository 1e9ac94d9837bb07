/-
 Texts cut at a byte: what the library's function reckons, and what the reference reckons.
-/
import Derived.Lib.SplitLaws
import Derived.Lib.IndexBytes
import Derived.Lib.IndexLaws
namespace Go.Vx
open Go Go.Lib
set_option linter.unusedSimpArgs false
set_option linter.unusedVariables false
/-- cut at a byte; 'acc' is the piece so far. -/
def cutL (c : UInt8) : List UInt8 → List UInt8 → List (List UInt8)
 | acc, [] => [acc]
 | acc, b :: l => if b = c then acc :: cutL c [] l else cutL c (acc ++ [b]) l
theorem cut_miss {c : UInt8} : ∀ (l acc : List UInt8), ¬ c ∈ l → cutL c acc l = [acc ++ l]
 | [], acc, _ => by simp [cutL]
 | b :: l, acc, h => by
  rw [cutL, if_neg (fun e => h (by simp [e])), cut_miss l _ (fun h' => h (List.mem_cons_of_mem _ h'))]
  simp
theorem cut_hit {c : UInt8} : ∀ (A acc B : List UInt8), ¬ c ∈ A → cutL c acc (A ++ c :: B) = (acc ++ A) :: cutL c [] B
 | [], acc, B, _ => by simp [cutL]
 | b :: A, acc, B, h => by
  rw [List.cons_append, cutL, if_neg (fun e => h (by simp [e])), cut_hit A _ B (fun h' => h (List.mem_cons_of_mem _ h'))]
  simp
theorem byte_at {c : UInt8} : ∀ (A B : List UInt8), ¬ c ∈ A → indexByte (A ++ c :: B) c = A.length
 | [], B, _ => by simp [indexByte]
 | b :: A, B, h => by
  have hb : ¬ b = c := fun e => h (by simp [e])
  have ih := byte_at A B (fun h' => h (List.mem_cons_of_mem _ h'))
  rw [List.cons_append, indexByte, ih]
  have : ¬ ((A.length : Int) = -1) := by omega
  simp [hb, this]
theorem split_first {c : UInt8} {l : List UInt8} (h : c ∈ l) : ∃ A B, l = A ++ c :: B ∧ ¬ c ∈ A := by
 induction l with
 | nil => simp at h
 | cons b l ih =>
  by_cases hb : b = c
  ·exact ⟨[], l, by simp [hb], by simp⟩
  ·have h' : c ∈ l := by
    rcases List.mem_cons.1 h with e | e
    ·exact absurd e.symm hb
    ·exact e
   obtain ⟨A, B, rfl, hA⟩ := ih h'
   exact ⟨b :: A, B, by simp, by
    intro hc
    rcases List.mem_cons.1 hc with e | e
    ·exact hb e.symm
    ·exact hA e⟩
theorem splitK_cut (c : UInt8) : ∀ (n : Nat) (s : List UInt8), s.length ≤ n → splitK [c] 0 (s.count c) s = cutL c [] s := by
 intro n
 induction n with
 | zero =>
  intro s hs
  have : s = [] := List.length_eq_zero_iff.1 (by omega)
  subst this
  rfl
 | succ n ih =>
  intro s hs
  by_cases hc : c ∈ s
  ·obtain ⟨A, B, rfl, hA⟩ := split_first hc
   have hcnt : (A ++ c :: B).count c = B.count c + 1 := by
    rw [List.count_append, List.count_eq_zero.2 hA, List.count_cons_self]; omega
   have hix := byte_at A B hA
   rw [hcnt, splitK, index_one, hix, cut_hit A [] B hA]
   have hne : ¬ (((A.length : Int) == -1) = true) := by
    rw [beq_iff_eq]; omega
   rw [if_neg hne]
   simp only [Int.toNat_natCast, Nat.add_zero, List.length_singleton, List.nil_append]
   rw [List.take_left, show (A ++ c :: B).drop (A.length + 1) = B by rw [← List.drop_drop, List.drop_left]; rfl]
   rw [ih B (by simp at hs; omega)]
  ·rw [List.count_eq_zero.2 hc, splitK, cut_miss s [] hc]; simp
theorem cutL_len (c : UInt8) : ∀ (l acc : List UInt8), (cutL c acc l).length = l.count c + 1
 | [], acc => by simp [cutL]
 | b :: l, acc => by
  rw [cutL]
  by_cases hb : b = c
  ·rw [if_pos hb, List.length_cons, cutL_len c l, hb, List.count_cons_self]
  ·rw [if_neg hb, cutL_len c l, List.count_cons_of_ne hb]
/-- strings.Split at one byte. -/
theorem split_cut (c : UInt8) (s : ByteArray) : (splitB ⟨#[c]⟩ 0 (countB s ⟨#[c]⟩) s).map (·.data.toList) = cutL c [] s.data.toList := by
 rw [splitB_data]
 show splitK [c] 0 (count s.data.toList [c]) s.data.toList = _
 rw [count_one]
 exact splitK_cut c _ _ (Nat.le_refl _)
end Go.Vx
