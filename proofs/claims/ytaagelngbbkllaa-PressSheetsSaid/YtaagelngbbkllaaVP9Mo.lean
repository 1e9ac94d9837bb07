/-
  Chapter 9, plain: one more sheet, one more good one.
-/
import Derived.Test.YtaagelngbbkllaaVW9
namespace Go.Proofs.Ytaagelngbbkllaa
set_option linter.unusedVariables false
def mo1 (n p q g : Nat) : Bool := Nat.ble (psC n p q g (n + 1) * (p + q)) (psC (n + 1) p q g (n + 2))
def mo : Bool := (List.range 17).all fun n => (List.range 11).all fun p => (List.range 11).all fun q => !(Nat.ble 1 (p + q) && Nat.ble (p + q) 10 && Nat.beq (Nat.gcd q (p + q)) 1) || (List.range 17).all fun g => mo1 n p q g
theorem mo_ok : mo = true := by kernel_rfl
theorem psC_more {n p q g : Nat} (hn : n ≤ 16) (hg : g ≤ n) (h : SpOk p q) : psC n p q g (n + 1) * (p + q) ≤ psC (n + 1) p q g (n + 2) := by
  have h1 := mo_ok
  unfold mo at h1
  have h2 := List.all_eq_true.1 (List.all_eq_true.1 (List.all_eq_true.1 h1 n (List.mem_range.2 (by omega))) p (List.mem_range.2 (by have := h.hi; omega))) q (List.mem_range.2 (by have := h.hi; omega))
  have h3 : (Nat.ble 1 (p + q) && Nat.ble (p + q) 10 && Nat.beq (Nat.gcd q (p + q)) 1) = true := by
    rw [h.gcd]
    simp only [Bool.and_eq_true, Nat.ble_eq]
    exact ⟨⟨h.lo, h.hi⟩, rfl⟩
  rw [h3, Bool.not_true, Bool.false_or, List.all_eq_true] at h2
  have := h2 g (List.mem_range.2 (by omega))
  simpa only [mo1, Nat.ble_eq] using this
/-- a fraction that is not more than another one is not more in lowest terms. -/
theorem low_le {a d b e : Nat} (hd : 1 ≤ d) (he : 1 ≤ e) (h : a * e ≤ b * d) : lowN a d * lowD b e ≤ lowN b e * lowD a d := by
  unfold lowN lowD
  have g1 : 0 < Nat.gcd a d := Nat.gcd_pos_of_pos_right _ (by omega)
  have g2 : 0 < Nat.gcd b e := Nat.gcd_pos_of_pos_right _ (by omega)
  obtain ⟨x, hx⟩ := Nat.gcd_dvd_left a d
  obtain ⟨y, hy⟩ := Nat.gcd_dvd_right a d
  obtain ⟨u, hu⟩ := Nat.gcd_dvd_left b e
  obtain ⟨v, hv⟩ := Nat.gcd_dvd_right b e
  have ex : a / Nat.gcd a d = x := Nat.div_eq_of_eq_mul_right g1 hx
  have ey : d / Nat.gcd a d = y := Nat.div_eq_of_eq_mul_right g1 hy
  have eu : b / Nat.gcd b e = u := Nat.div_eq_of_eq_mul_right g2 hu
  have ev : e / Nat.gcd b e = v := Nat.div_eq_of_eq_mul_right g2 hv
  rw [ex, ey, eu, ev]
  generalize Nat.gcd a d = g at *
  generalize Nat.gcd b e = k at *
  subst hx hy hu hv
  have h2 : (g * k) * (x * v) ≤ (g * k) * (u * y) := by
    calc (g * k) * (x * v) = g * x * (k * v) := by ac_rfl
      _ ≤ k * u * (g * y) := h
      _ = (g * k) * (u * y) := by ac_rfl
  have h3 := Nat.le_of_mul_le_mul_left h2 (Nat.mul_pos g1 g2)
  exact_mod_cast h3
theorem low_pos {a d : Nat} (hd : 1 ≤ d) : 1 ≤ lowD a d := by
  unfold lowD
  have g1 : 0 < Nat.gcd a d := Nat.gcd_pos_of_pos_right _ (by omega)
  have : 0 < d / Nat.gcd a d := Nat.div_pos (Nat.le_of_dvd (by omega) (Nat.gcd_dvd_right a d)) g1
  omega
theorem low_nd {a d : Nat} (h : a ≤ d) : lowN a d ≤ lowD a d := by
  unfold lowN lowD
  have := Nat.div_le_div_right (c := Nat.gcd a d) h
  omega
end Go.Proofs.Ytaagelngbbkllaa
