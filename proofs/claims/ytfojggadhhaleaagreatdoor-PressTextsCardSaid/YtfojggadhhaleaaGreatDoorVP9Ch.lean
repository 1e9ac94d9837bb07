/-
  Chapter 9, plain: chances.
-/
import Derived.KernelRfl
namespace Go.Proofs.YtfojggadhhaleaaGreatDoor
def wy (n : Nat) : Nat → Nat
  | 0 => 1
  | k + 1 => wy n k * (n - k) / (k + 1)
def tmC (n p q k : Nat) : Nat := wy n k * p ^ k * q ^ (n - k)
def psC (n p q g : Nat) : Nat → Nat
  | 0 => 0
  | k + 1 => psC n p q g k + (if g ≤ k then tmC n p q k else 0)
def chk1 (n p q : Nat) : Bool := (List.range (n + 1)).all (fun k => Nat.ble (wy n k * (n - k)) 1000000000000000000 && Nat.ble (wy n k * p ^ k) 1000000000000000000) && Nat.beq (psC n p q 0 (n + 1)) ((p + q) ^ n) && Nat.ble ((p + q) ^ n) 100000000000000000
def chk : Bool := (List.range 18).all fun n => (List.range 11).all fun p => (List.range 11).all fun q => !(Nat.ble 1 (p + q) && Nat.ble (p + q) 10 && Nat.beq (Nat.gcd q (p + q)) 1) || chk1 n p q
theorem chk_ok : chk = true := by kernel_rfl
/-- right spoil: so many in 'p + q' are good, so many spoiled. -/
structure SpOk (p q : Nat) : Prop where
  lo : 1 ≤ p + q
  hi : p + q ≤ 10
  gcd : Nat.gcd q (p + q) = 1
theorem chk1_ok {n p q : Nat} (hn : n ≤ 17) (h : SpOk p q) : chk1 n p q = true := by
  have h1 := chk_ok
  unfold chk at h1
  have h2 := List.all_eq_true.1 (List.all_eq_true.1 (List.all_eq_true.1 h1 n (List.mem_range.2 (by omega))) p (List.mem_range.2 (by have := h.hi; omega))) q (List.mem_range.2 (by have := h.hi; omega))
  have h3 : (Nat.ble 1 (p + q) && Nat.ble (p + q) 10 && Nat.beq (Nat.gcd q (p + q)) 1) = true := by
    rw [h.gcd]
    simp only [Bool.and_eq_true, Nat.ble_eq]
    exact ⟨⟨h.lo, h.hi⟩, rfl⟩
  rw [h3] at h2
  simpa using h2
theorem chk_facts {n p q : Nat} (hn : n ≤ 17) (h : SpOk p q) : (∀ k, k ≤ n → wy n k * (n - k) ≤ 1000000000000000000 ∧ wy n k * p ^ k ≤ 1000000000000000000) ∧ psC n p q 0 (n + 1) = (p + q) ^ n ∧ (p + q) ^ n ≤ 100000000000000000 := by
  have h1 := chk1_ok hn h
  simp only [chk1, Bool.and_eq_true, Nat.ble_eq] at h1
  obtain ⟨⟨h2, h3⟩, h4⟩ := h1
  refine ⟨fun k hk => ?_, Nat.eq_of_beq_eq_true h3, h4⟩
  have := List.all_eq_true.1 h2 k (List.mem_range.2 (by omega))
  simp only [Bool.and_eq_true, Nat.ble_eq] at this
  exact this
theorem psC_mono {n p q g : Nat} : ∀ {j k : Nat}, j ≤ k → psC n p q g j ≤ psC n p q g k
  | j, k, h => by
    induction h with
    | refl => exact Nat.le_refl _
    | step _ ih => exact Nat.le_trans ih (by simp [psC])
theorem psC_good {n p q : Nat} {g g' : Nat} (h : g ≤ g') : ∀ k, psC n p q g' k ≤ psC n p q g k
  | 0 => Nat.le_refl _
  | k + 1 => by
    simp only [psC]
    have := psC_good (n := n) (p := p) (q := q) h k
    split <;> split <;> omega
theorem psC_b {n p q g k : Nat} (hn : n ≤ 17) (h : SpOk p q) (hk : k ≤ n + 1) : psC n p q g k ≤ (p + q) ^ n := by
  rw [← (chk_facts hn h).2.1]
  exact Nat.le_trans (psC_good (Nat.zero_le g) k) (psC_mono hk)
theorem tmC_b {n p q k : Nat} (hn : n ≤ 17) (h : SpOk p q) (hk : k ≤ n) : tmC n p q k ≤ (p + q) ^ n := by
  have h1 := psC_b (g := 0) (k := k + 1) hn h (by omega)
  simp only [psC, Nat.zero_le, if_true] at h1
  omega
theorem pow_b {n p q k : Nat} (hn : n ≤ 17) (h : SpOk p q) (hk : k ≤ n) (x : Nat) (hx : x ≤ p + q) : x ^ k ≤ 100000000000000000 := by
  refine Nat.le_trans (Nat.pow_le_pow_left hx k) (Nat.le_trans (Nat.pow_le_pow_right h.lo hk) (chk_facts hn h).2.2)
end Go.Proofs.YtfojggadhhaleaaGreatDoor
