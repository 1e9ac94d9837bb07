/-
 Numbers as texts: what the library's functions reckon, and what the reference reckons.
-/
import Derived.Lib.AtoiAllCases
import Derived.Lib.ItoaNum
import Derived.Lib.Strings
namespace Go.Vx
open Go Go.Lib
set_option linter.unusedSimpArgs false
set_option linter.unusedVariables false
def dgB (c : UInt8) : Bool := decide (48 ≤ c.toNat ∧ c.toNat ≤ 57)
def valD (acc : Nat) (l : List UInt8) : Nat := l.foldl (fun a c => a * 10 + (c.toNat - 48)) acc
theorem valD_append (acc : Nat) (l m : List UInt8) : valD acc (l ++ m) = valD (valD acc l) m := by simp [valD]
theorem valD_cons (acc : Nat) (c : UInt8) (l : List UInt8) : valD acc (c :: l) = valD (acc * 10 + (c.toNat - 48)) l := by simp only [valD, List.foldl_cons]
theorem dig_fin : ∀ v : Fin 10, (UInt8.ofNat (48 + v.val)).toNat = 48 + v.val := by decide
theorem dig_nat {u : Nat} (h : u < 10) : (UInt8.ofNat (48 + u)).toNat = 48 + u := dig_fin ⟨u, h⟩
theorem dec_all (u : Nat) : (decDigits u).all dgB = true := by
 induction u using decDigits.induct with
 | case1 u h => rw [decDigits, dif_pos h]; simp [dgB, dig_nat h]; omega
 | case2 u h ih =>
  rw [decDigits, dif_neg h, List.all_append, ih]
  have : u % 10 < 10 := by omega
  simp [dgB, dig_nat this]; omega
theorem dec_ne (u : Nat) : decDigits u ≠ [] := by
 rw [decDigits]; split <;> simp
theorem dec_val (u : Nat) : valD 0 (decDigits u) = u := by
 induction u using decDigits.induct with
 | case1 u h => rw [decDigits, dif_pos h]; simp only [valD, List.foldl_cons, List.foldl_nil, dig_nat h]; omega
 | case2 u h ih =>
  rw [decDigits, dif_neg h, valD_append, ih]
  have : u % 10 < 10 := by omega
  simp only [valD, List.foldl_cons, List.foldl_nil, dig_nat this]; omega
theorem dec_head (u : Nat) (hu : 0 < u) : ∃ c r, decDigits u = c :: r ∧ c.toNat ≠ 48 := by
 induction u using decDigits.induct with
 | case1 u h => exact ⟨_, [], by rw [decDigits, dif_pos h], by rw [dig_nat h]; omega⟩
 | case2 u h ih =>
  obtain ⟨c, r, e, hc⟩ := ih (by omega)
  exact ⟨c, r ++ [UInt8.ofNat (48 + u % 10)], by rw [decDigits, dif_neg h, e]; rfl, hc⟩
theorem valD_pos {c : UInt8} {r : List UInt8} (hc : 48 < c.toNat) : 0 < valD 0 (c :: r) := by
 have key : ∀ (l : List UInt8) (a : Nat), 0 < a → 0 < valD a l := by
  intro l
  induction l with
  | nil => intro a h; exact h
  | cons x l ih => intro a h; rw [valD_cons]; exact ih _ (by omega)
 rw [valD_cons]
 exact key r _ (by omega)
/-- digits without a leading zero are their number's digits. -/
theorem dec_of : ∀ (n : Nat) (l : List UInt8), l.length = n → l ≠ [] → l.all dgB = true → ((∃ c r, l = c :: r ∧ c.toNat ≠ 48) ∨ l.length = 1) → decDigits (valD 0 l) = l := by
 intro n
 induction n with
 | zero => intro l h0 h1; exact absurd (List.length_eq_zero_iff.1 h0) h1
 | succ n ih =>
  intro l hl hne hall hcan
  obtain ⟨l', c, rfl⟩ : ∃ l' c, l = l' ++ [c] := ⟨l.dropLast, l.getLast hne, (List.dropLast_concat_getLast hne).symm⟩
  rw [List.all_append, Bool.and_eq_true] at hall
  have hc : 48 ≤ c.toNat ∧ c.toNat ≤ 57 := by simpa [dgB] using hall.2
  have hlen : l'.length = n := by simpa using hl
  rw [valD_append]
  have hs : ∀ a, valD a [c] = a * 10 + (c.toNat - 48) := fun a => rfl
  rw [hs]
  have hcc : UInt8.ofNat (48 + (c.toNat - 48)) = c := by
   rw [show 48 + (c.toNat - 48) = c.toNat by omega]; exact UInt8.ofNat_toNat
  by_cases h0 : l' = []
  ·subst h0
   rw [show valD 0 [] = 0 from rfl, Nat.zero_mul, Nat.zero_add, decDigits, dif_pos (by omega), hcc]; rfl
  ·rcases hcan with ⟨x, r, e, hx⟩ | h1
   ·obtain ⟨y, r', rfl⟩ : ∃ y r', l' = y :: r' := by
     cases l' with
     | nil => exact absurd rfl h0
     | cons y r' => exact ⟨y, r', rfl⟩
    have hxy : y = x := by simpa using congrArg List.head? e
    subst hxy
    have hy : 48 ≤ y.toNat := by
     have := hall.1
     rw [List.all_cons, Bool.and_eq_true] at this
     have h := this.1
     simp only [dgB, decide_eq_true_eq] at h
     exact h.1
    have ihh := ih (y :: r') hlen h0 hall.1 (.inl ⟨y, r', rfl, hx⟩)
    have hp := valD_pos (r := r') (show 48 < y.toNat by omega)
    generalize valD 0 (y :: r') = v at ihh hp ⊢
    rw [decDigits, dif_neg (by omega), show (v * 10 + (c.toNat - 48)) / 10 = v by omega, show (v * 10 + (c.toNat - 48)) % 10 = c.toNat - 48 by omega, ihh, hcc]
   ·exfalso
    rw [List.length_append, List.length_singleton] at h1
    exact h0 (List.length_eq_zero_iff.1 (by omega))
theorem parse_of : ∀ (l : List UInt8) (acc k : Nat), l.all dgB = true → acc < 10 ^ k → k + l.length ≤ 18 → parseUint10 acc l = .ok (valD acc l) ∧ valD acc l < 10 ^ 18
 | [], acc, k, _, h1, h2 => ⟨rfl, Nat.lt_of_lt_of_le h1 (Nat.pow_le_pow_right (by decide) (by simpa using h2))⟩
 | c :: r, acc, k, h, h1, h2 => by
  rw [List.all_cons, Bool.and_eq_true] at h
  have hc : 48 ≤ c.toNat ∧ c.toNat ≤ 57 := by simpa [dgB] using h.1
  simp only [List.length_cons] at h2
  have hk : 10 ^ k ≤ 10 ^ 17 := Nat.pow_le_pow_right (by decide) (by omega)
  have h17 : (10 : Nat) ^ 17 = 100000000000000000 := by decide
  have hpk : 10 ^ (k + 1) = 10 ^ k * 10 := Nat.pow_succ 10 k
  rw [parseUint10, if_pos hc, if_neg (by omega), if_neg (by omega), valD_cons]
  exact parse_of r _ (k + 1) h.2 (by omega) (by omega)
/-- what stands behind a minus. -/
def numM (r : List UInt8) (dg : Nat) : Int × Bool :=
 if r.length = 0 ∨ dg < r.length ∨ r.head? = some 48 then (0, false) else if r.all dgB = true then (-(valD 0 r : Int), true) else (0, false)
/-- what the reference reads. -/
def numR (s : List UInt8) (dg : Nat) : Int × Bool :=
 if s.head? = some 45 then numM s.tail dg
 else (if s = [] ∨ dg < s.length ∨ (s.head? = some 48 ∧ 1 < s.length) then (0, false) else if s.all dgB = true then ((valD 0 s : Int), true) else (0, false))
/-- what the library's functions read. -/
def numP (s : List UInt8) (dg : Nat) : Int × Bool :=
 match atoiAll s with
 | .ok v => (v, decide (itoa v = s ∧ (trimPrefix s [45]).length ≤ dg))
 | .range => (atoiSat s, false)
 | _ => (0, false)
theorem trim_m (r : List UInt8) : trimPrefix (45 :: r) [45] = r := by simp [trimPrefix, hasPrefix]
theorem trim_o {l : List UInt8} (h : l.head? ≠ some 45) : trimPrefix l [45] = l := by
 cases l with
 | nil => simp [trimPrefix, hasPrefix]
 | cons c r =>
  have : ¬ c = 45 := fun e => h (by rw [e]; rfl)
  simp [trimPrefix, hasPrefix, this]
  intro e; exact absurd e.symm this
/-- both read the same numbers. -/
theorem num_same (s : List UInt8) (dg : Nat) (hd : dg ≤ 18) : (numP s dg).2 = (numR s dg).2 ∧ ((numR s dg).2 = true → (numP s dg).1 = (numR s dg).1) := by
 have hto : (numR s dg).2 = true → numP s dg = numR s dg := by
  intro h
  unfold numR at h ⊢
  by_cases hm : s.head? = some 45
  ·rw [if_pos hm] at h ⊢
   obtain ⟨r, rfl⟩ : ∃ r, s = 45 :: r := by
    cases s with
    | nil => simp at hm
    | cons c r => exact ⟨r, by simp at hm; rw [hm]⟩
   rw [List.tail_cons] at h ⊢
   unfold numM at h ⊢
   by_cases c1 : r.length = 0 ∨ dg < r.length ∨ r.head? = some 48
   ·rw [if_pos c1] at h; simp at h
   ·rw [if_neg c1] at h ⊢
    by_cases c2 : r.all dgB = true
    ·rw [if_pos c2]
     have hne : r ≠ [] := fun e => c1 (.inl (by rw [e]; rfl))
     obtain ⟨c, r', rfl⟩ : ∃ c r', r = c :: r' := by
      cases r with
      | nil => exact absurd rfl hne
      | cons c r' => exact ⟨c, r', rfl⟩
     have hc48 : c.toNat ≠ 48 := fun e => c1 (.inr (.inr (by rw [List.head?_cons]; congr 1; exact UInt8.toNat_inj.1 e)))
     have hcd : 48 ≤ c.toNat ∧ c.toNat ≤ 57 := by
      rw [List.all_cons, Bool.and_eq_true] at c2
      simpa [dgB] using c2.1
     have hlen : (c :: r').length ≤ dg := Nat.le_of_not_lt fun h => c1 (.inr (.inl h))
     obtain ⟨p1, p2⟩ := parse_of (c :: r') 0 0 c2 (by decide) (by omega)
     have hpos := valD_pos (c := c) (r := r') (by omega)
     have hdec := dec_of _ (c :: r') rfl hne c2 (.inl ⟨c, r', rfl, hc48⟩)
     have hat : atoiAll (45 :: c :: r') = .ok (-(valD 0 (c :: r') : Int)) := by
      rw [atoiAll_minus, parseMag, if_neg hne, p1, signed, if_neg (by omega)]
     have hit : itoa (-(valD 0 (c :: r') : Int)) = 45 :: c :: r' := by
      rw [itoa, if_pos (by omega), show (-(valD 0 (c :: r') : Int)).natAbs = valD 0 (c :: r') by omega, hdec]
     unfold numP
     rw [hat]
     simp only [hit, trim_m, true_and, hlen, decide_true]
    ·rw [if_neg c2] at h; simp at h
  ·rw [if_neg hm] at h ⊢
   by_cases c1 : s = [] ∨ dg < s.length ∨ (s.head? = some 48 ∧ 1 < s.length)
   ·rw [if_pos c1] at h; simp at h
   ·rw [if_neg c1] at h ⊢
    by_cases c2 : s.all dgB = true
    ·rw [if_pos c2]
     have hne : s ≠ [] := fun e => c1 (.inl e)
     have hlen : s.length ≤ dg := Nat.le_of_not_lt fun h => c1 (.inr (.inl h))
     obtain ⟨c, r', rfl⟩ : ∃ c r', s = c :: r' := by
      cases s with
      | nil => exact absurd rfl hne
      | cons c r' => exact ⟨c, r', rfl⟩
     have hcd : 48 ≤ c.toNat ∧ c.toNat ≤ 57 := by
      rw [List.all_cons, Bool.and_eq_true] at c2
      simpa [dgB] using c2.1
     have hcan : (∃ x r, c :: r' = x :: r ∧ x.toNat ≠ 48) ∨ (c :: r').length = 1 := by
      by_cases e : c.toNat = 48
      ·refine .inr ?_
       have : ¬ 1 < (c :: r').length := fun h => c1 (.inr (.inr ⟨by rw [List.head?_cons]; congr 1; exact UInt8.toNat_inj.1 e, h⟩))
       simp only [List.length_cons] at this ⊢
       omega
      ·exact .inl ⟨c, r', rfl, e⟩
     obtain ⟨p1, p2⟩ := parse_of (c :: r') 0 0 c2 (by decide) (by omega)
     have hdec := dec_of _ (c :: r') rfl hne c2 hcan
     have hat : atoiAll (c :: r') = .ok (valD 0 (c :: r') : Int) := by
      rw [atoiAll_plain c r' (by omega) (by omega), parseMag, if_neg hne, p1, signless, if_neg (by omega)]
     have hit : itoa (valD 0 (c :: r') : Int) = c :: r' := by
      rw [itoa, if_neg (by omega), Int.toNat_natCast, hdec]
     unfold numP
     rw [hat]
     simp only [hit, trim_o hm, true_and, hlen, decide_true]
    ·rw [if_neg c2] at h; simp at h
 have hfrom : (numP s dg).2 = true → (numR s dg).2 = true := by
  intro h
  unfold numP at h
  split at h
  ·rename_i v hat
   simp only [decide_eq_true_eq] at h
   obtain ⟨hit, htr⟩ := h
   by_cases hv : v < 0
   ·have hs : s = 45 :: decDigits v.natAbs := by rw [← hit, itoa, if_pos hv]
    obtain ⟨c, r, e, hc⟩ := dec_head v.natAbs (by omega)
    have hall := dec_all v.natAbs
    rw [e] at hs hall
    subst hs
    rw [trim_m] at htr
    simp only [List.length_cons] at htr
    unfold numR
    rw [if_pos (by rfl), List.tail_cons, numM, if_neg (by
     rintro (h | h | h)
     ·simp at h
     ·simp only [List.length_cons] at h; omega
     ·rw [List.head?_cons] at h; exact hc (by injection h with h; rw [h]; rfl)), if_pos hall]
   ·have hs : s = decDigits v.toNat := by rw [← hit, itoa, if_neg hv]
    have hall := dec_all v.toNat
    have hne := dec_ne v.toNat
    rw [← hs] at hall hne
    have hm : s.head? ≠ some 45 := by
     intro e
     cases s with
     | nil => simp at e
     | cons c r =>
      simp at e; subst e
      rw [List.all_cons] at hall
      simp [dgB] at hall
    rw [trim_o hm] at htr
    unfold numR
    rw [if_neg hm, if_neg (by
     rintro (h | h | ⟨h, h'⟩)
     ·exact hne h
     ·omega
     ·by_cases h0 : v.toNat = 0
      ·rw [h0, decDigits, dif_pos (by decide)] at hs
       rw [hs] at h'; simp at h'
      ·obtain ⟨c, r, e, hc⟩ := dec_head v.toNat (by omega)
       rw [hs, e] at h
       simp at h
       exact hc (by rw [h]; rfl)), if_pos hall]
  ·simp at h
  ·simp at h
 refine ⟨?_, fun h => by rw [hto h]⟩
 cases h1 : (numR s dg).2 with
 | true => rw [hto h1, h1]
 | false =>
  cases h2 : (numP s dg).2 with
  | true => rw [hfrom h2] at h1; cases h1
  | false => rfl
end Go.Vx
