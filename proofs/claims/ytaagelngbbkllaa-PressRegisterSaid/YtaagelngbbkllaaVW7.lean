/-
  Chapter 9, walks: divisors, powers, comparing.
-/
import Derived.Test.YtaagelngbbkllaaVW1
namespace Go.Proofs.Ytaagelngbbkllaa
open Go Go.Vx
set_option linter.unusedSimpArgs false
set_option maxRecDepth 20000
theorem gcd_step (a b : Int) : Int.gcd b (a.tmod b) = Int.gcd a b := by
  unfold Int.gcd
  rw [Int.natAbs_tmod, Nat.gcd_comm b.natAbs, ← Nat.gcd_rec, Nat.gcd_comm]
theorem tmod_lt (a b : Int) (h : b ≠ 0) : (a.tmod b).natAbs < b.natAbs := by
  rw [Int.natAbs_tmod]; exact Nat.mod_lt _ (by omega)
theorem gcd_zero_max (a : Int) : (Int.gcd a 0 : Int) = max a (-a) := by
  unfold Int.gcd; simp; omega
theorem divisor_s (a b : Int) (hb : 1 ≤ b) (hb2 : b ≤ 9223372036854775807) : Ctr Try.prog 89 [(.v (.int .i64 a)), (.v (.int .i64 b))] (fun rr => rr = ⟨(.v (.int .i64 ((Int.gcd a b : Int)))), []⟩) := by
  refine Ctr.of (rs := [.tmp 4]) Tok true Try.func89 rfl rfl rfl rfl (by simp [ofDL]) (fun w0 kp => ?_)
  simp only [↓sxD, ↓sxP0, ↓sxP3, ↓sxGd, sxP1, sxF, sxA, sxS, sxK, sxG, sxZ, sxH, sxU, encs, tys, sxN, sevalprocAttr, ne_eq, decide_true, decide_false]
  refine LoopW.comp [0, 1] (by simp only [sxS, sxL, sxF, sxG, sxH, sxU, encs, sxN, sevalprocAttr, ne_eq, decide_true, decide_false] <;> (try simp) <;> (try omega)) ?_
  simp only [sxS, sxF, sxG, sxH, sxU, sxN, sevalprocAttr, ne_eq, decide_true, decide_false]
  refine LoopW.up Tok (fun p : Int × Int => [(0, (.v (.int .i64 p.1))), (1, (.v (.int .i64 p.2)))]) (fun p => []) (fun p => []) (fun p => []) (fun p => Int.gcd p.1 p.2 = Int.gcd a b ∧ (-9223372036854775807 ≤ p.2 ∧ p.2 ≤ 9223372036854775807) ∧ (p.2 = 0 → -9223372036854775807 ≤ p.1 ∧ p.1 ≤ 9223372036854775807)) (fun p => p.2.natAbs) ((a, b)) (by simp only [sxS, sxL, sxF, sxG, sxH, sxU, encs, sxN, sevalprocAttr, ne_eq, decide_true, decide_false] <;> (try simp) <;> (try omega)) ?_ ?_
  · exact ⟨rfl, by simp only; omega, by simp only; omega⟩
  rintro ⟨x, y⟩ ⟨hg, hy, hx⟩
  simp only at hg hy hx
  simp only [↓sxD, ↓sxP0, ↓sxP3, ↓sxGd, sxP1, sxF, sxA, sxS, sxK, sxG, sxZ, sxH, sxU, encs, tys, sxN, sevalprocAttr, ne_eq, decide_true, decide_false]
  refine BrW.dec (fun h => ?_) (fun h => ?_)
  · simp only [↓sxD, ↓sxP0, ↓sxP3, ↓sxGd, sxP1, sxF, sxA, sxS, sxK, sxG, sxZ, sxH, sxU, encs, tys, sxN, sevalprocAttr, ne_eq, decide_true, decide_false]
    refine DrawW.plan Tok mixed (.q 0 <| .q 1 <| .q 2 <| .q 3 <| .q 4 <| .q 5 <| .done) (by kernel_rfl) (by kernel_rfl) ?_
    simp only [↓sxD, ↓sxP0, ↓sxP3, ↓sxGd, sxP1, sxF, sxA, sxS, sxK, sxG, sxZ, sxH, sxU, encs, tys, sxN, sevalprocAttr, ne_eq, decide_true, decide_false]
    (with_reducible refine Vc.go ?_ fun _ => ?_); focus (first | omega | (simp only [InK]; omega) | (simp [InK]; done) | (simp [InK]; omega))
    simp only [↓sxD, ↓sxP0, ↓sxP3, ↓sxGd, sxP1, sxF, sxA, sxS, sxK, sxG, sxZ, sxH, sxU, encs, tys, sxN, sevalprocAttr, ne_eq, decide_true, decide_false]
    have := tmod_lt x y h
    refine ⟨(y, x.tmod y), StLe.auto (by simp only [sxS, sxL, sxF, sxG, sxH, sxU, encs, sxN, sevalprocAttr, ne_eq, decide_true, decide_false] <;> (try simp) <;> (try omega)), ?_, ?_⟩
    · exact ⟨(gcd_step x y).trans hg, by simp only; omega, fun _ => by simp only; omega⟩
    · exact this
  · simp only [↓sxD, ↓sxP0, ↓sxP3, ↓sxGd, sxP1, sxF, sxA, sxS, sxK, sxG, sxZ, sxH, sxU, encs, tys, sxN, sevalprocAttr, ne_eq, decide_true, decide_false]
    have h : y = 0 := by omega
    subst h
    have := hx rfl
    (with_reducible refine Vc.go ?_ fun _ => ?_); focus (first | omega | (simp only [InK]; omega) | (simp [InK]; done) | (simp [InK]; omega))
    simp only [↓sxD, ↓sxP0, ↓sxP3, ↓sxGd, sxP1, sxF, sxA, sxS, sxK, sxG, sxZ, sxH, sxU, encs, tys, sxN, sevalprocAttr, ne_eq, decide_true, decide_false]
    have e : max x (-x) = (Int.gcd a b : Int) := by rw [← hg, gcd_zero_max]
    rw [e]
    exact EndW.fn (by simp only [sxL, sxG, sxH, sxU, encs, kpLL_map, sxN, sevalprocAttr, ne_eq, decide_true, decide_false] <;> (try simp) <;> (try omega)) (by simp only [sxL, sxG, sxH, sxU, encs, kpLL_map, sxN, sevalprocAttr, ne_eq, decide_true, decide_false] <;> (try simp) <;> (try omega))
theorem gcdB_s (a b : Int) (hb : 1 ≤ b) (hb2 : b ≤ 9223372036854775807) : Ctr Try.prog 91 [(.v (.int .i64 a)), (.v (.int .i64 b))] (fun rr => rr = ⟨(.v (.int .i64 ((Int.gcd a b : Int)))), []⟩) := by
  refine Ctr.of (rs := [.tmp 4]) Tok true Try.func91 rfl rfl rfl rfl (by simp [ofDL]) (fun w0 kp => ?_)
  simp only [↓sxD, ↓sxP0, ↓sxP3, ↓sxGd, sxP1, sxF, sxA, sxS, sxK, sxG, sxZ, sxH, sxU, encs, tys, sxN, sevalprocAttr, ne_eq, decide_true, decide_false]
  refine LoopW.comp [0, 1] (by simp only [sxS, sxL, sxF, sxG, sxH, sxU, encs, sxN, sevalprocAttr, ne_eq, decide_true, decide_false] <;> (try simp) <;> (try omega)) ?_
  simp only [sxS, sxF, sxG, sxH, sxU, sxN, sevalprocAttr, ne_eq, decide_true, decide_false]
  refine LoopW.up Tok (fun p : Int × Int => [(0, (.v (.int .i64 p.1))), (1, (.v (.int .i64 p.2)))]) (fun p => []) (fun p => []) (fun p => []) (fun p => Int.gcd p.1 p.2 = Int.gcd a b ∧ (-9223372036854775807 ≤ p.2 ∧ p.2 ≤ 9223372036854775807) ∧ (p.2 = 0 → -9223372036854775807 ≤ p.1 ∧ p.1 ≤ 9223372036854775807)) (fun p => p.2.natAbs) ((a, b)) (by simp only [sxS, sxL, sxF, sxG, sxH, sxU, encs, sxN, sevalprocAttr, ne_eq, decide_true, decide_false] <;> (try simp) <;> (try omega)) ?_ ?_
  · exact ⟨rfl, by simp only; omega, by simp only; omega⟩
  rintro ⟨x, y⟩ ⟨hg, hy, hx⟩
  simp only at hg hy hx
  simp only [↓sxD, ↓sxP0, ↓sxP3, ↓sxGd, sxP1, sxF, sxA, sxS, sxK, sxG, sxZ, sxH, sxU, encs, tys, sxN, sevalprocAttr, ne_eq, decide_true, decide_false]
  refine BrW.dec (fun h => ?_) (fun h => ?_)
  · simp only [↓sxD, ↓sxP0, ↓sxP3, ↓sxGd, sxP1, sxF, sxA, sxS, sxK, sxG, sxZ, sxH, sxU, encs, tys, sxN, sevalprocAttr, ne_eq, decide_true, decide_false]
    refine DrawW.plan Tok mixed (.q 0 <| .q 1 <| .q 2 <| .q 3 <| .q 4 <| .q 5 <| .done) (by kernel_rfl) (by kernel_rfl) ?_
    simp only [↓sxD, ↓sxP0, ↓sxP3, ↓sxGd, sxP1, sxF, sxA, sxS, sxK, sxG, sxZ, sxH, sxU, encs, tys, sxN, sevalprocAttr, ne_eq, decide_true, decide_false]
    (with_reducible refine Vc.go ?_ fun _ => ?_); focus (first | omega | (simp only [InK]; omega) | (simp [InK]; done) | (simp [InK]; omega))
    simp only [↓sxD, ↓sxP0, ↓sxP3, ↓sxGd, sxP1, sxF, sxA, sxS, sxK, sxG, sxZ, sxH, sxU, encs, tys, sxN, sevalprocAttr, ne_eq, decide_true, decide_false]
    have := tmod_lt x y h
    refine ⟨(y, x.tmod y), StLe.auto (by simp only [sxS, sxL, sxF, sxG, sxH, sxU, encs, sxN, sevalprocAttr, ne_eq, decide_true, decide_false] <;> (try simp) <;> (try omega)), ?_, ?_⟩
    · exact ⟨(gcd_step x y).trans hg, by simp only; omega, fun _ => by simp only; omega⟩
    · exact this
  · simp only [↓sxD, ↓sxP0, ↓sxP3, ↓sxGd, sxP1, sxF, sxA, sxS, sxK, sxG, sxZ, sxH, sxU, encs, tys, sxN, sevalprocAttr, ne_eq, decide_true, decide_false]
    have h : y = 0 := by omega
    subst h
    have := hx rfl
    refine CallI.fn (size_s x (by omega) (by omega)) (by simp only [sxA, sxL, sxF, sxG, sxH, sxU, encs, sxN, sevalprocAttr, ne_eq, decide_true, decide_false] <;> (try simp) <;> (try rfl)) ?_
    simp only [↓sxD, ↓sxP0, ↓sxP3, ↓sxGd, sxP1, sxF, sxA, sxS, sxK, sxG, sxZ, sxH, sxU, encs, tys, sxN, sevalprocAttr, ne_eq, decide_true, decide_false]
    have e : max x (-x) = (Int.gcd a b : Int) := by rw [← hg, gcd_zero_max]
    rw [e]
    exact EndW.fn (by simp only [sxL, sxG, sxH, sxU, encs, kpLL_map, sxN, sevalprocAttr, ne_eq, decide_true, decide_false] <;> (try simp) <;> (try omega)) (by simp only [sxL, sxG, sxH, sxU, encs, kpLL_map, sxN, sevalprocAttr, ne_eq, decide_true, decide_false] <;> (try simp) <;> (try omega))
theorem ipow_succ (x k : Nat) : ((x ^ (k + 1) : Nat) : Int) = ((x ^ k : Nat) : Int) * (x : Int) := by rw [Nat.pow_succ]; simp
theorem power_s (x n : Nat) (hn : n ≤ 1000) (h : x ^ n ≤ 1000000000000000000) (hx : 1 ≤ x) : Ctr Try.prog 122 [(.v (.int .i64 ((x : Int)))), (.v (.int .i64 ((n : Int))))] (fun rr => rr = ⟨(.v (.int .i64 (((x ^ n : Nat) : Int)))), []⟩) := by
  have mono : ∀ k, k ≤ n → x ^ k ≤ 1000000000000000000 := fun k hk => Nat.le_trans (Nat.pow_le_pow_right hx hk) h
  refine Ctr.of (rs := [.tmp 4]) Tok true Try.func122 rfl rfl rfl rfl (by simp [ofDL]) (fun w0 kp => ?_)
  simp only [↓sxD, ↓sxP0, ↓sxP3, ↓sxGd, sxP1, sxF, sxA, sxS, sxK, sxG, sxZ, sxH, sxU, encs, tys, sxN, sevalprocAttr, ne_eq, decide_true, decide_false]
  refine LoopW.comp [0, 5, 6, 7] (by simp only [sxS, sxL, sxF, sxG, sxH, sxU, encs, sxN, sevalprocAttr, ne_eq, decide_true, decide_false] <;> (try simp) <;> (try omega)) ?_
  simp only [sxS, sxF, sxG, sxH, sxU, sxN, sevalprocAttr, ne_eq, decide_true, decide_false]
  refine LoopW.up Tok (fun k : Nat => [(7, (.v (.int .i64 k))), (5, (.v (.int .i64 (((x ^ k : Nat) : Int)))))]) (fun k => []) (fun k => []) (fun k => []) (fun k => k ≤ n) (fun k => n - k) (0) (by simp only [sxS, sxL, sxF, sxG, sxH, sxU, encs, sxN, sevalprocAttr, ne_eq, decide_true, decide_false] <;> (try simp) <;> (try omega)) ?_ ?_
  · omega
  rintro k hk
  simp only [↓sxD, ↓sxP0, ↓sxP3, ↓sxGd, sxP1, sxF, sxA, sxS, sxK, sxG, sxZ, sxH, sxU, encs, tys, sxN, sevalprocAttr, ne_eq, decide_true, decide_false]
  refine BrW.dec (fun hlt => ?_) (fun hlt => ?_)
  · simp only [↓sxD, ↓sxP0, ↓sxP3, ↓sxGd, sxP1, sxF, sxA, sxS, sxK, sxG, sxZ, sxH, sxU, encs, tys, sxN, sevalprocAttr, ne_eq, decide_true, decide_false]
    have h1 := mono (k + 1) (by omega)
    have e := ipow_succ x k
    have h2 : (0 : Int) ≤ ((x ^ (k + 1) : Nat) : Int) := Int.natCast_nonneg _
    refine Vc.go (by rw [← e]; simp only [InK]; omega) fun _ => ?_
    rw [← e]
    simp only [↓sxD, ↓sxP0, ↓sxP3, ↓sxGd, sxP1, sxF, sxA, sxS, sxK, sxG, sxZ, sxH, sxU, encs, tys, sxN, sevalprocAttr, ne_eq, decide_true, decide_false]
    repeat ((with_reducible refine Vc.go ?_ fun _ => ?_); (focus (first | omega | (simp only [InK]; omega) | (simp [InK]; done) | (simp [InK]; omega))); simp only [↓sxD, ↓sxP0, ↓sxP3, ↓sxGd, sxP1, sxF, sxA, sxS, sxK, sxG, sxZ, sxH, sxU, encs, tys, sxN, sevalprocAttr, ne_eq, decide_true, decide_false])
    refine ⟨k + 1, StLe.auto (by simp only [sxS, sxL, sxF, sxG, sxH, sxU, encs, sxN, sevalprocAttr, ne_eq, decide_true, decide_false] <;> (try simp) <;> (try omega)), ?_, ?_⟩
    · omega
    · omega
  · simp only [↓sxD, ↓sxP0, ↓sxP3, ↓sxGd, sxP1, sxF, sxA, sxS, sxK, sxG, sxZ, sxH, sxU, encs, tys, sxN, sevalprocAttr, ne_eq, decide_true, decide_false]
    have hke : k = n := by omega
    subst hke
    exact EndW.fn (by simp only [sxL, sxG, sxH, sxU, encs, kpLL_map, sxN, sevalprocAttr, ne_eq, decide_true, decide_false] <;> (try simp) <;> (try omega)) (by simp only [sxL, sxG, sxH, sxU, encs, kpLL_map, sxN, sevalprocAttr, ne_eq, decide_true, decide_false] <;> (try simp) <;> (try omega))
theorem power0_s (n : Nat) (hn : n ≤ 1000) : Ctr Try.prog 122 [(.v (.int .i64 0)), (.v (.int .i64 ((n : Int))))] (fun rr => rr = ⟨(.v (.int .i64 (((0 ^ n : Nat) : Int)))), []⟩) := by
  refine Ctr.of (rs := [.tmp 4]) Tok true Try.func122 rfl rfl rfl rfl (by simp [ofDL]) (fun w0 kp => ?_)
  simp only [↓sxD, ↓sxP0, ↓sxP3, ↓sxGd, sxP1, sxF, sxA, sxS, sxK, sxG, sxZ, sxH, sxU, encs, tys, sxN, sevalprocAttr, ne_eq, decide_true, decide_false]
  refine LoopW.comp [0, 5, 6, 7] (by simp only [sxS, sxL, sxF, sxG, sxH, sxU, encs, sxN, sevalprocAttr, ne_eq, decide_true, decide_false] <;> (try simp) <;> (try omega)) ?_
  simp only [sxS, sxF, sxG, sxH, sxU, sxN, sevalprocAttr, ne_eq, decide_true, decide_false]
  refine LoopW.up Tok (fun k : Nat => [(7, (.v (.int .i64 k))), (5, (.v (.int .i64 (((0 ^ k : Nat) : Int)))))]) (fun k => []) (fun k => []) (fun k => []) (fun k => k ≤ n) (fun k => n - k) (0) (by simp only [sxS, sxL, sxF, sxG, sxH, sxU, encs, sxN, sevalprocAttr, ne_eq, decide_true, decide_false] <;> (try simp) <;> (try omega)) ?_ ?_
  · omega
  rintro k hk
  simp only [↓sxD, ↓sxP0, ↓sxP3, ↓sxGd, sxP1, sxF, sxA, sxS, sxK, sxG, sxZ, sxH, sxU, encs, tys, sxN, sevalprocAttr, ne_eq, decide_true, decide_false]
  refine BrW.dec (fun hlt => ?_) (fun hlt => ?_)
  · simp only [↓sxD, ↓sxP0, ↓sxP3, ↓sxGd, sxP1, sxF, sxA, sxS, sxK, sxG, sxZ, sxH, sxU, encs, tys, sxN, sevalprocAttr, ne_eq, decide_true, decide_false]
    have e := ipow_succ 0 k
    have e0 : ((0 ^ (k + 1) : Nat) : Int) = 0 := by simp
    refine Vc.go (by simp only [InK]; simp) fun _ => ?_
    have e1 : ((0 ^ k : Nat) : Int) * 0 = ((0 ^ (k + 1) : Nat) : Int) := by simp
    rw [e1]
    simp only [↓sxD, ↓sxP0, ↓sxP3, ↓sxGd, sxP1, sxF, sxA, sxS, sxK, sxG, sxZ, sxH, sxU, encs, tys, sxN, sevalprocAttr, ne_eq, decide_true, decide_false]
    repeat ((with_reducible refine Vc.go ?_ fun _ => ?_); (focus (first | omega | (simp only [InK]; omega) | (simp [InK]; done) | (simp [InK]; omega))); simp only [↓sxD, ↓sxP0, ↓sxP3, ↓sxGd, sxP1, sxF, sxA, sxS, sxK, sxG, sxZ, sxH, sxU, encs, tys, sxN, sevalprocAttr, ne_eq, decide_true, decide_false])
    refine ⟨k + 1, StLe.auto (by simp only [sxS, sxL, sxF, sxG, sxH, sxU, encs, sxN, sevalprocAttr, ne_eq, decide_true, decide_false] <;> (try simp) <;> (try omega)), ?_, ?_⟩
    · omega
    · omega
  · simp only [↓sxD, ↓sxP0, ↓sxP3, ↓sxGd, sxP1, sxF, sxA, sxS, sxK, sxG, sxZ, sxH, sxU, encs, tys, sxN, sevalprocAttr, ne_eq, decide_true, decide_false]
    have hke : k = n := by omega
    subst hke
    exact EndW.fn (by simp only [sxL, sxG, sxH, sxU, encs, kpLL_map, sxN, sevalprocAttr, ne_eq, decide_true, decide_false] <;> (try simp) <;> (try omega)) (by simp only [sxL, sxG, sxH, sxU, encs, kpLL_map, sxN, sevalprocAttr, ne_eq, decide_true, decide_false] <;> (try simp) <;> (try omega))
theorem powerA_s (x n : Nat) (hn : n ≤ 1000) (h : x ^ n ≤ 1000000000000000000) : Ctr Try.prog 122 [(.v (.int .i64 ((x : Int)))), (.v (.int .i64 ((n : Int))))] (fun rr => rr = ⟨(.v (.int .i64 (((x ^ n : Nat) : Int)))), []⟩) := by
  by_cases hx : 1 ≤ x
  · exact power_s x n hn h hx
  · have : x = 0 := by omega
    subst this
    exact power0_s n hn
theorem powerR_s (x n : Nat) (hn : n ≤ 1000) (h : x ^ n ≤ 1000000000000000000) (hx : 1 ≤ x) : Ctr Try.prog 93 [(.v (.int .i64 ((x : Int)))), (.v (.int .i64 ((n : Int))))] (fun rr => rr = ⟨(.v (.int .i64 (((x ^ n : Nat) : Int)))), []⟩) := by
  have mono : ∀ k, k ≤ n → x ^ k ≤ 1000000000000000000 := fun k hk => Nat.le_trans (Nat.pow_le_pow_right hx hk) h
  refine Ctr.of (rs := [.tmp 4]) Tok true Try.func93 rfl rfl rfl rfl (by simp [ofDL]) (fun w0 kp => ?_)
  simp only [↓sxD, ↓sxP0, ↓sxP3, ↓sxGd, sxP1, sxF, sxA, sxS, sxK, sxG, sxZ, sxH, sxU, encs, tys, sxN, sevalprocAttr, ne_eq, decide_true, decide_false]
  refine LoopW.comp [0, 1, 5, 6] (by simp only [sxS, sxL, sxF, sxG, sxH, sxU, encs, sxN, sevalprocAttr, ne_eq, decide_true, decide_false] <;> (try simp) <;> (try omega)) ?_
  simp only [sxS, sxF, sxG, sxH, sxU, sxN, sevalprocAttr, ne_eq, decide_true, decide_false]
  refine LoopW.up Tok (fun k : Nat => [(6, (.v (.int .i64 k))), (5, (.v (.int .i64 (((x ^ k : Nat) : Int)))))]) (fun k => []) (fun k => []) (fun k => []) (fun k => k ≤ n) (fun k => n - k) (0) (by simp only [sxS, sxL, sxF, sxG, sxH, sxU, encs, sxN, sevalprocAttr, ne_eq, decide_true, decide_false] <;> (try simp) <;> (try omega)) ?_ ?_
  · omega
  rintro k hk
  simp only [↓sxD, ↓sxP0, ↓sxP3, ↓sxGd, sxP1, sxF, sxA, sxS, sxK, sxG, sxZ, sxH, sxU, encs, tys, sxN, sevalprocAttr, ne_eq, decide_true, decide_false]
  refine BrW.dec (fun hlt => ?_) (fun hlt => ?_)
  · simp only [↓sxD, ↓sxP0, ↓sxP3, ↓sxGd, sxP1, sxF, sxA, sxS, sxK, sxG, sxZ, sxH, sxU, encs, tys, sxN, sevalprocAttr, ne_eq, decide_true, decide_false]
    have h1 := mono (k + 1) (by omega)
    have e := ipow_succ x k
    have h2 : (0 : Int) ≤ ((x ^ (k + 1) : Nat) : Int) := Int.natCast_nonneg _
    refine Vc.go (by rw [← e]; simp only [InK]; omega) fun _ => ?_
    rw [← e]
    simp only [↓sxD, ↓sxP0, ↓sxP3, ↓sxGd, sxP1, sxF, sxA, sxS, sxK, sxG, sxZ, sxH, sxU, encs, tys, sxN, sevalprocAttr, ne_eq, decide_true, decide_false]
    repeat ((with_reducible refine Vc.go ?_ fun _ => ?_); (focus (first | omega | (simp only [InK]; omega) | (simp [InK]; done) | (simp [InK]; omega))); simp only [↓sxD, ↓sxP0, ↓sxP3, ↓sxGd, sxP1, sxF, sxA, sxS, sxK, sxG, sxZ, sxH, sxU, encs, tys, sxN, sevalprocAttr, ne_eq, decide_true, decide_false])
    refine ⟨k + 1, StLe.auto (by simp only [sxS, sxL, sxF, sxG, sxH, sxU, encs, sxN, sevalprocAttr, ne_eq, decide_true, decide_false] <;> (try simp) <;> (try omega)), ?_, ?_⟩
    · omega
    · omega
  · simp only [↓sxD, ↓sxP0, ↓sxP3, ↓sxGd, sxP1, sxF, sxA, sxS, sxK, sxG, sxZ, sxH, sxU, encs, tys, sxN, sevalprocAttr, ne_eq, decide_true, decide_false]
    have hke : k = n := by omega
    subst hke
    exact EndW.fn (by simp only [sxL, sxG, sxH, sxU, encs, kpLL_map, sxN, sevalprocAttr, ne_eq, decide_true, decide_false] <;> (try simp) <;> (try omega)) (by simp only [sxL, sxG, sxH, sxU, encs, kpLL_map, sxN, sevalprocAttr, ne_eq, decide_true, decide_false] <;> (try simp) <;> (try omega))
theorem powerR0_s (n : Nat) (hn : n ≤ 1000) : Ctr Try.prog 93 [(.v (.int .i64 0)), (.v (.int .i64 ((n : Int))))] (fun rr => rr = ⟨(.v (.int .i64 (((0 ^ n : Nat) : Int)))), []⟩) := by
  refine Ctr.of (rs := [.tmp 4]) Tok true Try.func93 rfl rfl rfl rfl (by simp [ofDL]) (fun w0 kp => ?_)
  simp only [↓sxD, ↓sxP0, ↓sxP3, ↓sxGd, sxP1, sxF, sxA, sxS, sxK, sxG, sxZ, sxH, sxU, encs, tys, sxN, sevalprocAttr, ne_eq, decide_true, decide_false]
  refine LoopW.comp [0, 1, 5, 6] (by simp only [sxS, sxL, sxF, sxG, sxH, sxU, encs, sxN, sevalprocAttr, ne_eq, decide_true, decide_false] <;> (try simp) <;> (try omega)) ?_
  simp only [sxS, sxF, sxG, sxH, sxU, sxN, sevalprocAttr, ne_eq, decide_true, decide_false]
  refine LoopW.up Tok (fun k : Nat => [(6, (.v (.int .i64 k))), (5, (.v (.int .i64 (((0 ^ k : Nat) : Int)))))]) (fun k => []) (fun k => []) (fun k => []) (fun k => k ≤ n) (fun k => n - k) (0) (by simp only [sxS, sxL, sxF, sxG, sxH, sxU, encs, sxN, sevalprocAttr, ne_eq, decide_true, decide_false] <;> (try simp) <;> (try omega)) ?_ ?_
  · omega
  rintro k hk
  simp only [↓sxD, ↓sxP0, ↓sxP3, ↓sxGd, sxP1, sxF, sxA, sxS, sxK, sxG, sxZ, sxH, sxU, encs, tys, sxN, sevalprocAttr, ne_eq, decide_true, decide_false]
  refine BrW.dec (fun hlt => ?_) (fun hlt => ?_)
  · simp only [↓sxD, ↓sxP0, ↓sxP3, ↓sxGd, sxP1, sxF, sxA, sxS, sxK, sxG, sxZ, sxH, sxU, encs, tys, sxN, sevalprocAttr, ne_eq, decide_true, decide_false]
    refine Vc.go (by simp only [InK]; simp) fun _ => ?_
    have e1 : ((0 ^ k : Nat) : Int) * 0 = ((0 ^ (k + 1) : Nat) : Int) := by simp
    rw [e1]
    simp only [↓sxD, ↓sxP0, ↓sxP3, ↓sxGd, sxP1, sxF, sxA, sxS, sxK, sxG, sxZ, sxH, sxU, encs, tys, sxN, sevalprocAttr, ne_eq, decide_true, decide_false]
    repeat ((with_reducible refine Vc.go ?_ fun _ => ?_); (focus (first | omega | (simp only [InK]; omega) | (simp [InK]; done) | (simp [InK]; omega))); simp only [↓sxD, ↓sxP0, ↓sxP3, ↓sxGd, sxP1, sxF, sxA, sxS, sxK, sxG, sxZ, sxH, sxU, encs, tys, sxN, sevalprocAttr, ne_eq, decide_true, decide_false])
    refine ⟨k + 1, StLe.auto (by simp only [sxS, sxL, sxF, sxG, sxH, sxU, encs, sxN, sevalprocAttr, ne_eq, decide_true, decide_false] <;> (try simp) <;> (try omega)), ?_, ?_⟩
    · omega
    · omega
  · simp only [↓sxD, ↓sxP0, ↓sxP3, ↓sxGd, sxP1, sxF, sxA, sxS, sxK, sxG, sxZ, sxH, sxU, encs, tys, sxN, sevalprocAttr, ne_eq, decide_true, decide_false]
    have hke : k = n := by omega
    subst hke
    exact EndW.fn (by simp only [sxL, sxG, sxH, sxU, encs, kpLL_map, sxN, sevalprocAttr, ne_eq, decide_true, decide_false] <;> (try simp) <;> (try omega)) (by simp only [sxL, sxG, sxH, sxU, encs, kpLL_map, sxN, sevalprocAttr, ne_eq, decide_true, decide_false] <;> (try simp) <;> (try omega))
theorem powerRA_s (x n : Nat) (hn : n ≤ 1000) (h : x ^ n ≤ 1000000000000000000) : Ctr Try.prog 93 [(.v (.int .i64 ((x : Int)))), (.v (.int .i64 ((n : Int))))] (fun rr => rr = ⟨(.v (.int .i64 (((x ^ n : Nat) : Int)))), []⟩) := by
  by_cases hx : 1 ≤ x
  · exact powerR_s x n hn h hx
  · have : x = 0 := by omega
    subst this
    exact powerR0_s n hn
def cmpF (n d m k : Int) : Int := if n * k < m * d then -1 else if n * k = m * d then 0 else 1
theorem compare_s (n d m k : Int) (hn0 : 0 ≤ n) (hn : n ≤ 1000000000000000000) (hd0 : 1 ≤ d) (hd : d ≤ 1000000000000000000) (hm0 : 0 ≤ m) (hm : m ≤ 1000000000000000000) (hk0 : 1 ≤ k) (hk : k ≤ 1000000000000000000) : Ctr Try.prog 33 [(.v (.int .i64 n)), (.v (.int .i64 d)), (.v (.int .i64 m)), (.v (.int .i64 k))] (fun rr => rr = ⟨(.v (.int .i64 (cmpF n d m k))), []⟩) := by
  refine Ctr.of (rs := [.tmp 8]) Tok true Try.func33 rfl rfl rfl rfl (by simp [ofDL]) (fun w0 kp => ?_)
  simp only [↓sxD, ↓sxP0, ↓sxP3, ↓sxGd, sxP1, sxF, sxA, sxS, sxK, sxG, sxZ, sxH, sxU, encs, tys, sxN, sevalprocAttr, ne_eq, decide_true, decide_false]
  refine LoopW.comp [0, 1, 2, 3] (by simp only [sxS, sxL, sxF, sxG, sxH, sxU, encs, sxN, sevalprocAttr, ne_eq, decide_true, decide_false] <;> (try simp) <;> (try omega)) ?_
  simp only [sxS, sxF, sxG, sxH, sxU, sxN, sevalprocAttr, ne_eq, decide_true, decide_false]
  refine LoopW.up Tok (fun p : Int × Int × Int × Int => [(0, (.v (.int .i64 p.1))), (1, (.v (.int .i64 p.2.1))), (2, (.v (.int .i64 p.2.2.1))), (3, (.v (.int .i64 p.2.2.2)))]) (fun p => []) (fun p => []) (fun p => []) (fun p => cmpF p.1 p.2.1 p.2.2.1 p.2.2.2 = cmpF n d m k ∧ (0 ≤ p.1 ∧ p.1 ≤ 1000000000000000000) ∧ (1 ≤ p.2.1 ∧ p.2.1 ≤ 1000000000000000000) ∧ (0 ≤ p.2.2.1 ∧ p.2.2.1 ≤ 1000000000000000000) ∧ (1 ≤ p.2.2.2 ∧ p.2.2.2 ≤ 1000000000000000000)) (fun p => (p.2.1 + p.2.2.2).toNat) ((n, d, m, k)) (by simp only [sxS, sxL, sxF, sxG, sxH, sxU, encs, sxN, sevalprocAttr, ne_eq, decide_true, decide_false] <;> (try simp) <;> (try omega)) ?_ ?_
  · exact ⟨rfl, ⟨hn0, hn⟩, ⟨hd0, hd⟩, ⟨hm0, hm⟩, ⟨hk0, hk⟩⟩
  rintro ⟨n1, d1, m1, k1⟩ ⟨hc, h1, h2, h3, h4⟩
  simp only at hc h1 h2 h3 h4
  rw [← hc]
  clear hc
  simp only [↓sxD, ↓sxP0, ↓sxP3, ↓sxGd, sxP1, sxF, sxA, sxS, sxK, sxG, sxZ, sxH, sxU, encs, tys, sxN, sevalprocAttr, ne_eq, decide_true, decide_false]
  refine CallI.fn (floor_s n1 d1 (by omega) (by omega) (by omega) (by omega)) (by simp only [sxA, sxL, sxF, sxG, sxH, sxU, encs, sxN, sevalprocAttr, ne_eq, decide_true, decide_false] <;> (try simp) <;> (try rfl)) ?_
  simp only [↓sxD, ↓sxP0, ↓sxP3, ↓sxGd, sxP1, sxF, sxA, sxS, sxK, sxG, sxZ, sxH, sxU, encs, tys, sxN, sevalprocAttr, ne_eq, decide_true, decide_false]
  refine CallI.fn (floor_s m1 k1 (by omega) (by omega) (by omega) (by omega)) (by simp only [sxA, sxL, sxF, sxG, sxH, sxU, encs, sxN, sevalprocAttr, ne_eq, decide_true, decide_false] <;> (try simp) <;> (try rfl)) ?_
  simp only [↓sxD, ↓sxP0, ↓sxP3, ↓sxGd, sxP1, sxF, sxA, sxS, sxK, sxG, sxZ, sxH, sxU, encs, tys, sxN, sevalprocAttr, ne_eq, decide_true, decide_false]
  have a1 := Int.ediv_mul_le n1 (show d1 ≠ 0 by omega)
  have a2 := Int.lt_ediv_add_one_mul_self n1 (show (0 : Int) < d1 by omega)
  have a3 := Int.ediv_mul_le m1 (show k1 ≠ 0 by omega)
  have a4 := Int.lt_ediv_add_one_mul_self m1 (show (0 : Int) < k1 by omega)
  have a5 : 0 ≤ n1 / d1 := Int.ediv_nonneg (by omega) (by omega)
  have a6 : 0 ≤ m1 / k1 := Int.ediv_nonneg (by omega) (by omega)
  generalize n1 / d1 = p at *
  generalize m1 / k1 = q at *
  have lt_of : ∀ (n1 d1 m1 k1 p q : Int), 1 ≤ d1 → 1 ≤ k1 → n1 < (p + 1) * d1 → q * k1 ≤ m1 → p < q → n1 * k1 < m1 * d1 := fun n1 d1 m1 k1 p q h2 h4 a2 a3 h => by
    have b1 : n1 * k1 < (p + 1) * d1 * k1 := Int.mul_lt_mul_of_pos_right a2 (by omega)
    have b2 : q * k1 * d1 ≤ m1 * d1 := Int.mul_le_mul_of_nonneg_right a3 (by omega)
    have b3 : (p + 1) * (d1 * k1) ≤ q * (d1 * k1) := Int.mul_le_mul_of_nonneg_right (by omega) (Int.mul_nonneg (by omega) (by omega))
    have b4 : (p + 1) * d1 * k1 = (p + 1) * (d1 * k1) := Int.mul_assoc _ _ _
    have b5 : q * k1 * d1 = q * (d1 * k1) := by rw [Int.mul_assoc, Int.mul_comm k1]
    omega
  refine BrW.dec (fun hpq => ?_) (fun hpq => ?_)
  · simp only [↓sxD, ↓sxP0, ↓sxP3, ↓sxGd, sxP1, sxF, sxA, sxS, sxK, sxG, sxZ, sxH, sxU, encs, tys, sxN, sevalprocAttr, ne_eq, decide_true, decide_false]
    have := lt_of n1 d1 m1 k1 p q h2.1 h4.1 a2 a3 hpq
    exact EndW.fn (by simp only [sxL, sxG, sxH, sxU, encs, kpLL_map, sxN, sevalprocAttr, ne_eq, decide_true, decide_false] <;> (try simp [cmpF, this]) <;> (try omega)) (by simp only [sxL, sxG, sxH, sxU, encs, kpLL_map, sxN, sevalprocAttr, ne_eq, decide_true, decide_false] <;> (try simp) <;> (try omega))
  · simp only [↓sxD, ↓sxP0, ↓sxP3, ↓sxGd, sxP1, sxF, sxA, sxS, sxK, sxG, sxZ, sxH, sxU, encs, tys, sxN, sevalprocAttr, ne_eq, decide_true, decide_false]
    refine BrW.dec (fun hqp => ?_) (fun hqp => ?_)
    · simp only [↓sxD, ↓sxP0, ↓sxP3, ↓sxGd, sxP1, sxF, sxA, sxS, sxK, sxG, sxZ, sxH, sxU, encs, tys, sxN, sevalprocAttr, ne_eq, decide_true, decide_false]
      have h5 := lt_of m1 k1 n1 d1 q p h4.1 h2.1 a4 a1 hqp
      have h6 : ¬ n1 * k1 < m1 * d1 := by omega
      have h7 : ¬ n1 * k1 = m1 * d1 := by omega
      exact EndW.fn (by simp only [sxL, sxG, sxH, sxU, encs, kpLL_map, sxN, sevalprocAttr, ne_eq, decide_true, decide_false] <;> (try simp [cmpF, h6, h7]) <;> (try omega)) (by simp only [sxL, sxG, sxH, sxU, encs, kpLL_map, sxN, sevalprocAttr, ne_eq, decide_true, decide_false] <;> (try simp) <;> (try omega))
    · simp only [↓sxD, ↓sxP0, ↓sxP3, ↓sxGd, sxP1, sxF, sxA, sxS, sxK, sxG, sxZ, sxH, sxU, encs, tys, sxN, sevalprocAttr, ne_eq, decide_true, decide_false]
      have hpe : p = q := by omega
      subst hpe
      have hp0 : 0 ≤ p * d1 := Int.mul_nonneg a5 (by omega)
      have hq0 : 0 ≤ p * k1 := Int.mul_nonneg a5 (by omega)
      have b1 : (p + 1) * d1 = p * d1 + d1 := by rw [Int.add_mul, Int.one_mul]
      have b2 : (p + 1) * k1 = p * k1 + k1 := by rw [Int.add_mul, Int.one_mul]
      repeat ((with_reducible refine Vc.go ?_ fun _ => ?_); (focus (first | omega | (simp only [InK]; omega) | (simp [InK]; done) | (simp [InK]; omega))); simp only [↓sxD, ↓sxP0, ↓sxP3, ↓sxGd, sxP1, sxF, sxA, sxS, sxK, sxG, sxZ, sxH, sxU, encs, tys, sxN, sevalprocAttr, ne_eq, decide_true, decide_false])
      have hcm : cmpF n1 d1 m1 k1 = cmpF (n1 - p * d1) d1 (m1 - p * k1) k1 := by
        have e1 : (n1 - p * d1) * k1 = n1 * k1 - p * (d1 * k1) := by rw [Int.sub_mul, Int.mul_assoc]
        have e2 : (m1 - p * k1) * d1 = m1 * d1 - p * (d1 * k1) := by rw [Int.sub_mul, Int.mul_assoc, Int.mul_comm k1]
        unfold cmpF
        rw [e1, e2]
        have c1 : (n1 * k1 - p * (d1 * k1) < m1 * d1 - p * (d1 * k1)) ↔ n1 * k1 < m1 * d1 := by omega
        have c2 : (n1 * k1 - p * (d1 * k1) = m1 * d1 - p * (d1 * k1)) ↔ n1 * k1 = m1 * d1 := by omega
        simp only [c1, c2]
      rw [hcm]
      have hn2 : 0 ≤ n1 - p * d1 ∧ n1 - p * d1 < d1 := by omega
      have hm2 : 0 ≤ m1 - p * k1 ∧ m1 - p * k1 < k1 := by omega
      generalize n1 - p * d1 = n2 at *
      generalize m1 - p * k1 = m2 at *
      clear hcm a1 a2 a3 a4 b1 b2 hp0 hq0
      refine BrW.dec (fun hz => ?_) (fun hz => ?_)
      · simp only [↓sxD, ↓sxP0, ↓sxP3, ↓sxGd, sxP1, sxF, sxA, sxS, sxK, sxG, sxZ, sxH, sxU, encs, tys, sxN, sevalprocAttr, ne_eq, decide_true, decide_false]
        refine BrW.dec (fun hz2 => ?_) (fun hz2 => ?_)
        · simp only [↓sxD, ↓sxP0, ↓sxP3, ↓sxGd, sxP1, sxF, sxA, sxS, sxK, sxG, sxZ, sxH, sxU, encs, tys, sxN, sevalprocAttr, ne_eq, decide_true, decide_false]
          subst hz hz2
          exact EndW.fn (by simp only [sxL, sxG, sxH, sxU, encs, kpLL_map, sxN, sevalprocAttr, ne_eq, decide_true, decide_false] <;> (try simp [cmpF]) <;> (try omega)) (by simp only [sxL, sxG, sxH, sxU, encs, kpLL_map, sxN, sevalprocAttr, ne_eq, decide_true, decide_false] <;> (try simp) <;> (try omega))
        · simp only [↓sxD, ↓sxP0, ↓sxP3, ↓sxGd, sxP1, sxF, sxA, sxS, sxK, sxG, sxZ, sxH, sxU, encs, tys, sxN, sevalprocAttr, ne_eq, decide_true, decide_false]
          subst hz
          have : 0 < m2 * d1 := Int.mul_pos (by omega) (by omega)
          refine BrW.yes rfl ?_
          simp only [↓sxD, ↓sxP0, ↓sxP3, ↓sxGd, sxP1, sxF, sxA, sxS, sxK, sxG, sxZ, sxH, sxU, encs, tys, sxN, sevalprocAttr, ne_eq, decide_true, decide_false]
          exact EndW.fn (by simp only [sxL, sxG, sxH, sxU, encs, kpLL_map, sxN, sevalprocAttr, ne_eq, decide_true, decide_false] <;> (try simp [cmpF, this]) <;> (try omega)) (by simp only [sxL, sxG, sxH, sxU, encs, kpLL_map, sxN, sevalprocAttr, ne_eq, decide_true, decide_false] <;> (try simp) <;> (try omega))
      · simp only [↓sxD, ↓sxP0, ↓sxP3, ↓sxGd, sxP1, sxF, sxA, sxS, sxK, sxG, sxZ, sxH, sxU, encs, tys, sxN, sevalprocAttr, ne_eq, decide_true, decide_false]
        refine BrW.no hz ?_
        simp only [↓sxD, ↓sxP0, ↓sxP3, ↓sxGd, sxP1, sxF, sxA, sxS, sxK, sxG, sxZ, sxH, sxU, encs, tys, sxN, sevalprocAttr, ne_eq, decide_true, decide_false]
        refine BrW.dec (fun hz2 => ?_) (fun hz2 => ?_)
        · simp only [↓sxD, ↓sxP0, ↓sxP3, ↓sxGd, sxP1, sxF, sxA, sxS, sxK, sxG, sxZ, sxH, sxU, encs, tys, sxN, sevalprocAttr, ne_eq, decide_true, decide_false]
          subst hz2
          have h5 : 0 < n2 * k1 := Int.mul_pos (by omega) (by omega)
          have h6 : ¬ n2 * k1 < 0 := by omega
          have h7 : ¬ n2 * k1 = 0 := by omega
          have : cmpF n2 d1 0 k1 = 1 := by unfold cmpF; rw [Int.zero_mul, if_neg h6, if_neg h7]
          exact EndW.fn (by simp only [sxL, sxG, sxH, sxU, encs, kpLL_map, sxN, sevalprocAttr, ne_eq, decide_true, decide_false] <;> (try simp [this]) <;> (try omega)) (by simp only [sxL, sxG, sxH, sxU, encs, kpLL_map, sxN, sevalprocAttr, ne_eq, decide_true, decide_false] <;> (try simp) <;> (try omega))
        · simp only [↓sxD, ↓sxP0, ↓sxP3, ↓sxGd, sxP1, sxF, sxA, sxS, sxK, sxG, sxZ, sxH, sxU, encs, tys, sxN, sevalprocAttr, ne_eq, decide_true, decide_false]
          refine ⟨(k1, m2, d1, n2), StLe.auto (by simp only [sxS, sxL, sxF, sxG, sxH, sxU, encs, sxN, sevalprocAttr, ne_eq, decide_true, decide_false] <;> (try simp) <;> (try omega)), ?_, ?_⟩
          · refine ⟨?_, by simp only; omega, by simp only; omega, by simp only; omega, by simp only; omega⟩
            simp only [cmpF]
            rw [Int.mul_comm k1, Int.mul_comm d1]
          · simp only; omega
end Go.Proofs.Ytaagelngbbkllaa
