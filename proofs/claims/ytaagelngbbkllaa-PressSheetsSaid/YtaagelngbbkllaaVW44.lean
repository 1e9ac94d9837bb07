/-
  Chapter 9: the law of sheets.
-/
import Derived.Test.YtaagelngbbkllaaVW43
import Derived.Test.YtaagelngbbkllaaVW28
import Derived.Test.YtaagelngbbkllaaVW22
namespace Go.Proofs.Ytaagelngbbkllaa
open Go Go.Vx
set_option linter.unusedSimpArgs false
set_option linter.unusedVariables false
set_option maxRecDepth 20000
def fxN (n p q g : Nat) : Int := lowN (psC n p q g (n + 1)) ((p + q) ^ n)
def fxD (n p q g : Nat) : Int := lowD (psC n p q g (n + 1)) ((p + q) ^ n)
theorem chanceX_s (n p q g : Nat) (hn : n ≤ 17) (hg : g ≤ n) (h : SpOk p q) : Ctr Try.prog 25 [shV n g q ((p + q : Nat) : Int)] (fun rr => rr = ⟨.tup [.agg [(.v (.int .i64 (fxN n p q g))), (.v (.int .i64 (fxD n p q g)))], (.v (.int .i64 0))], []⟩) := by
  have h1 := h.lo
  have h2 := h.hi
  have h3 : Int.gcd (q : Int) ((p + q : Nat) : Int) = 1 := by rw [gcd_nat]; exact h.gcd
  have h4 : chErr q ((p + q : Nat) : Int) 10 = 0 := by rw [chErr, if_pos ⟨by omega, h3⟩, if_pos (by omega)]
  have hs : shErr n g q ((p + q : Nat) : Int) = 0 := by rw [shErr, if_pos (by omega)]; exact h4
  have c := chanceOf_s n g q ((p + q : Nat) : Int) (by omega)
  have e1 : chN n g q ((p + q : Nat) : Int) = fxN n p q g := by
    unfold chN fxN; simp only [natCast_sub2, Int.toNat_natCast]
  have e2 : chD n g q ((p + q : Nat) : Int) = fxD n p q g := by
    unfold chD fxD; simp only [natCast_sub2, Int.toNat_natCast]
  rw [if_pos hs, if_pos hs, hs, e1, e2] at c
  exact c
theorem fx_b {n p q : Nat} (g : Nat) (hn : n ≤ 17) (h : SpOk p q) : 0 ≤ fxN n p q g ∧ fxN n p q g ≤ fxD n p q g ∧ 1 ≤ fxD n p q g ∧ fxD n p q g ≤ 100000000000000000 := by
  have hf := chk_facts hn h
  have hpos : 1 ≤ (p + q) ^ n := Nat.one_le_pow _ _ (by have := h.lo; omega)
  have hps := psC_b (g := g) (k := n + 1) hn h (Nat.le_refl _)
  have hb := low_b (psC n p q g (n + 1)) ((p + q) ^ n)
  have h1 := low_pos (a := psC n p q g (n + 1)) hpos
  have h2 := low_nd hps
  unfold fxN fxD
  omega
theorem fx_ok {n p q g a b : Nat} (hn : n ≤ 17) (h : SpOk p q) : cmpF (fxD n p q g - fxN n p q g) (fxD n p q g) (a : Int) (b : Int) ≤ 0 ↔ okN p q g a b n := by
  have hpos : 1 ≤ (p + q) ^ n := Nat.one_le_pow _ _ (by have := h.lo; omega)
  have hps := psC_b (g := g) (k := n + 1) hn h (Nat.le_refl _)
  rw [cmpF_iff, okN]
  unfold fxN fxD lowN lowD
  generalize psC n p q g (n + 1) = N at *
  generalize (p + q) ^ n = D at *
  have g1 : 0 < Nat.gcd N D := Nat.gcd_pos_of_pos_right _ (by omega)
  obtain ⟨x, hx⟩ := Nat.gcd_dvd_left N D
  obtain ⟨y, hy⟩ := Nat.gcd_dvd_right N D
  have ex : N / Nat.gcd N D = x := Nat.div_eq_of_eq_mul_right g1 hx
  have ey : D / Nat.gcd N D = y := Nat.div_eq_of_eq_mul_right g1 hy
  rw [ex, ey]
  generalize Nat.gcd N D = k at *
  subst hx hy
  have hxy : x ≤ y := Nat.le_of_mul_le_mul_left hps g1
  have e1 : (k * y - k * x) * b = k * ((y - x) * b) := by rw [← Nat.mul_sub, Nat.mul_assoc]
  have e2 : a * (k * y) = k * (a * y) := by ac_rfl
  rw [e1, e2, Nat.mul_le_mul_left_iff g1, ← Int.ofNat_sub hxy, ← Int.natCast_mul, ← Int.natCast_mul]
  exact Int.ofNat_le
theorem sheetsB_s (g p q a b : Nat) (hg1 : 1 ≤ g) (hg : g ≤ 17) (hsp : SpOk p q) (hrk : RkOk a b) (h2 : chErr q ((p + q : Nat) : Int) 10 = 0) (h3 : chErr a b 1000000000 = 0) : Ctr Try.prog 8 [(.v (.int .i64 ((g : Int)))), .agg [(.v (.int .i64 ((q : Int)))), (.v (.int .i64 (((p + q : Nat) : Int))))], .agg [(.v (.int .i64 ((a : Int)))), (.v (.int .i64 ((b : Int))))]] (fun rr => rr = ⟨(.v (.bool (true))), []⟩) := by
  have b1 := hrk.lo
  have b2 := hrk.hi
  have b3 := hrk.le
  have hlo := hsp.lo
  have hhi := hsp.hi
  have encs := And.intro encs shV_eq
  have c1 := leastSheets_s g q ((p + q : Nat) : Int) a b (by omega) (by omega)
  have c2 := leastSheetsR_s g q ((p + q : Nat) : Int) a b (by omega) (by omega)
  have hV : leastV g q ((p + q : Nat) : Int) a b = lsF p q g a b (18 - g) g := by
    rw [leastV, if_pos (by omega), if_pos h2, if_pos h3, natCast_sub2]
    simp only [Int.toNat_natCast]
  rw [hV] at c1 c2
  clear hV
  rcases lsF_err (p := p) (q := q) (g := g) (a := a) (b := b) (18 - g) g with hz | he
  · obtain ⟨n, n1, n2, n3, n4, n5⟩ := lsF_ok _ _ hz
    have hn : n ≤ 17 := by omega
    rw [n3] at c1 c2
    have hb := fx_b g hn hsp
    have hcm := (fx_ok (g := g) (a := a) (b := b) hn hsp).2 n4
    have hdec : (decide (1 ≤ fxD n p q g ∧ fxD n p q g ≤ 100000000000000000) && decide (0 ≤ fxN n p q g ∧ fxN n p q g ≤ fxD n p q g)) = true := by simp; omega
    have c5 := lawChance_s (fxN n p q g) (fxD n p q g)
    rw [hdec] at c5
    refine Ctr.of (rs := [.tmp 6]) Tok true Try.func8 rfl rfl rfl rfl (by simp [ofDL]) (fun w0 kp => ?_)
    simp only [↓sxD, ↓sxP0, ↓sxGd, sxP1, sxF, sxA, sxS, sxK, sxG, sxH, sxU, encs, tys, sxN, sevalprocAttr, ne_eq, decide_true, decide_false]
    refine CallI.fn (awake_s) (by simp only [sxA, sxL, sxF, sxG, sxH, sxU, encs, sxN, sevalprocAttr, ne_eq, decide_true, decide_false] <;> (try simp) <;> (try rfl)) ?_
    simp only [↓sxD, ↓sxP0, ↓sxGd, sxP1, sxF, sxA, sxS, sxK, sxG, sxH, sxU, encs, tys, sxN, sevalprocAttr, ne_eq, decide_true, decide_false]
    refine CallI.fn (c1) (by simp only [sxA, sxL, sxF, sxG, sxH, sxU, encs, sxN, sevalprocAttr, ne_eq, decide_true, decide_false] <;> (try simp) <;> (try rfl)) ?_
    simp only [↓sxD, ↓sxP0, ↓sxGd, sxP1, sxF, sxA, sxS, sxK, sxG, sxH, sxU, encs, tys, sxN, sevalprocAttr, ne_eq, decide_true, decide_false]
    refine CallI.fn (c2) (by simp only [sxA, sxL, sxF, sxG, sxH, sxU, encs, sxN, sevalprocAttr, ne_eq, decide_true, decide_false] <;> (try simp) <;> (try rfl)) ?_
    simp only [↓sxD, ↓sxP0, ↓sxGd, sxP1, sxF, sxA, sxS, sxK, sxG, sxH, sxU, encs, tys, sxN, sevalprocAttr, ne_eq, decide_true, decide_false]
    refine BrW.no (by simp) ?_
    simp only [↓sxD, ↓sxP0, ↓sxGd, sxP1, sxF, sxA, sxS, sxK, sxG, sxH, sxU, encs, tys, sxN, sevalprocAttr, ne_eq, decide_true, decide_false]
    refine BrW.no (by simp) ?_
    simp only [↓sxD, ↓sxP0, ↓sxGd, sxP1, sxF, sxA, sxS, sxK, sxG, sxH, sxU, encs, tys, sxN, sevalprocAttr, ne_eq, decide_true, decide_false]
    refine BrW.no (by simp) ?_
    simp only [↓sxD, ↓sxP0, ↓sxGd, sxP1, sxF, sxA, sxS, sxK, sxG, sxH, sxU, encs, tys, sxN, sevalprocAttr, ne_eq, decide_true, decide_false]
    refine CallI.fn (chanceX_s n p q g hn n1 hsp) (by simp only [sxA, sxL, sxF, sxG, sxH, sxU, encs, sxN, sevalprocAttr, ne_eq, decide_true, decide_false] <;> (try simp) <;> (try rfl)) ?_
    simp only [↓sxD, ↓sxP0, ↓sxGd, sxP1, sxF, sxA, sxS, sxK, sxG, sxH, sxU, encs, tys, sxN, sevalprocAttr, ne_eq, decide_true, decide_false]
    refine BrW.no (by simp) ?_
    simp only [↓sxD, ↓sxP0, ↓sxGd, sxP1, sxF, sxA, sxS, sxK, sxG, sxH, sxU, encs, tys, sxN, sevalprocAttr, ne_eq, decide_true, decide_false]
    refine CallI.fn (c5) (by simp only [sxA, sxL, sxF, sxG, sxH, sxU, encs, sxN, sevalprocAttr, ne_eq, decide_true, decide_false] <;> (try simp) <;> (try rfl)) ?_
    simp only [↓sxD, ↓sxP0, ↓sxGd, sxP1, sxF, sxA, sxS, sxK, sxG, sxH, sxU, encs, tys, sxN, sevalprocAttr, ne_eq, decide_true, decide_false]
    repeat ((with_reducible refine Vc.go ?_ fun _ => ?_); (focus (first | omega | (simp only [InK]; omega) | (simp [InK]; done) | (simp [InK]; omega))); simp only [↓sxD, ↓sxP0, ↓sxGd, sxP1, sxF, sxA, sxS, sxK, sxG, sxH, sxU, encs, tys, sxN, sevalprocAttr, ne_eq, decide_true, decide_false])
    refine CallI.fn (compare_s (fxD n p q g - fxN n p q g) (fxD n p q g) (a : Int) (b : Int) (by omega) (by omega) (by omega) (by omega) (by omega) (by omega) (by omega) (by omega)) (by simp only [sxA, sxL, sxF, sxG, sxH, sxU, encs, sxN, sevalprocAttr, ne_eq, decide_true, decide_false] <;> (try simp) <;> (try rfl)) ?_
    simp only [↓sxD, ↓sxP0, ↓sxGd, sxP1, sxF, sxA, sxS, sxK, sxG, sxH, sxU, encs, tys, sxN, sevalprocAttr, ne_eq, decide_true, decide_false]
    refine BrW.no (by omega) ?_
    simp only [↓sxD, ↓sxP0, ↓sxGd, sxP1, sxF, sxA, sxS, sxK, sxG, sxH, sxU, encs, tys, sxN, sevalprocAttr, ne_eq, decide_true, decide_false]
    by_cases hng : n = g
    · refine BrW.yes (by omega) ?_
      simp only [↓sxD, ↓sxP0, ↓sxGd, sxP1, sxF, sxA, sxS, sxK, sxG, sxH, sxU, encs, tys, sxN, sevalprocAttr, ne_eq, decide_true, decide_false]
      exact EndW.fn (by simp only [sxL, sxG, sxH, sxU, encs, kpLL_map, sxN, sevalprocAttr, ne_eq, decide_true, decide_false] <;> (try simp) <;> (try omega)) (by simp only [sxL, sxG, sxH, sxU, encs, kpLL_map, sxN, sevalprocAttr, ne_eq, decide_true, decide_false] <;> (try simp) <;> (try omega))
    · rcases n5 with e | ⟨k1, k2⟩
      · exact absurd e hng
      refine BrW.no (by omega) ?_
      simp only [↓sxD, ↓sxP0, ↓sxGd, sxP1, sxF, sxA, sxS, sxK, sxG, sxH, sxU, encs, tys, sxN, sevalprocAttr, ne_eq, decide_true, decide_false]
      repeat ((with_reducible refine Vc.go ?_ fun _ => ?_); (focus (first | omega | (simp only [InK]; omega) | (simp [InK]; done) | (simp [InK]; omega))); simp only [↓sxD, ↓sxP0, ↓sxGd, sxP1, sxF, sxA, sxS, sxK, sxG, sxH, sxU, encs, tys, sxN, sevalprocAttr, ne_eq, decide_true, decide_false])
      have en : (n : Int) - 1 = ((n - 1 : Nat) : Int) := by omega
      rw [en]
      have hb' := fx_b g (show n - 1 ≤ 17 by omega) hsp
      have hcm' : ¬ cmpF (fxD (n - 1) p q g - fxN (n - 1) p q g) (fxD (n - 1) p q g) (a : Int) (b : Int) ≤ 0 := fun h => k2 ((fx_ok (by omega) hsp).1 h)
      have hdec' : (decide (1 ≤ fxD (n - 1) p q g ∧ fxD (n - 1) p q g ≤ 100000000000000000) && decide (0 ≤ fxN (n - 1) p q g ∧ fxN (n - 1) p q g ≤ fxD (n - 1) p q g)) = true := by simp; omega
      have c6 := lawChance_s (fxN (n - 1) p q g) (fxD (n - 1) p q g)
      rw [hdec'] at c6
      refine CallI.fn (chanceX_s (n - 1) p q g (by omega) k1 hsp) (by simp only [sxA, sxL, sxF, sxG, sxH, sxU, encs, sxN, sevalprocAttr, ne_eq, decide_true, decide_false] <;> (try simp) <;> (try rfl)) ?_
      simp only [↓sxD, ↓sxP0, ↓sxGd, sxP1, sxF, sxA, sxS, sxK, sxG, sxH, sxU, encs, tys, sxN, sevalprocAttr, ne_eq, decide_true, decide_false]
      refine CallI.fn (c6) (by simp only [sxA, sxL, sxF, sxG, sxH, sxU, encs, sxN, sevalprocAttr, ne_eq, decide_true, decide_false] <;> (try simp) <;> (try rfl)) ?_
      simp only [↓sxD, ↓sxP0, ↓sxGd, sxP1, sxF, sxA, sxS, sxK, sxG, sxH, sxU, encs, tys, sxN, sevalprocAttr, ne_eq, decide_true, decide_false]
      repeat ((with_reducible refine Vc.go ?_ fun _ => ?_); (focus (first | omega | (simp only [InK]; omega) | (simp [InK]; done) | (simp [InK]; omega))); simp only [↓sxD, ↓sxP0, ↓sxGd, sxP1, sxF, sxA, sxS, sxK, sxG, sxH, sxU, encs, tys, sxN, sevalprocAttr, ne_eq, decide_true, decide_false])
      refine CallI.fn (compare_s (fxD (n - 1) p q g - fxN (n - 1) p q g) (fxD (n - 1) p q g) (a : Int) (b : Int) (by omega) (by omega) (by omega) (by omega) (by omega) (by omega) (by omega) (by omega)) (by simp only [sxA, sxL, sxF, sxG, sxH, sxU, encs, sxN, sevalprocAttr, ne_eq, decide_true, decide_false] <;> (try simp) <;> (try rfl)) ?_
      simp only [↓sxD, ↓sxP0, ↓sxGd, sxP1, sxF, sxA, sxS, sxK, sxG, sxH, sxU, encs, tys, sxN, sevalprocAttr, ne_eq, decide_true, decide_false]
      have hpos : 0 < cmpF (fxD (n - 1) p q g - fxN (n - 1) p q g) (fxD (n - 1) p q g) (a : Int) (b : Int) := by omega
      exact EndW.fn (by simp only [sxL, sxG, sxH, sxU, encs, kpLL_map, sxN, sevalprocAttr, ne_eq, decide_true, decide_false] <;> (try simp [hpos]) <;> (try omega)) (by simp only [sxL, sxG, sxH, sxU, encs, kpLL_map, sxN, sevalprocAttr, ne_eq, decide_true, decide_false] <;> (try simp) <;> (try omega))
  · rw [he] at c1 c2
    refine Ctr.of (rs := [.tmp 6]) Tok true Try.func8 rfl rfl rfl rfl (by simp [ofDL]) (fun w0 kp => ?_)
    simp only [↓sxD, ↓sxP0, ↓sxGd, sxP1, sxF, sxA, sxS, sxK, sxG, sxH, sxU, encs, tys, sxN, sevalprocAttr, ne_eq, decide_true, decide_false]
    refine CallI.fn (awake_s) (by simp only [sxA, sxL, sxF, sxG, sxH, sxU, encs, sxN, sevalprocAttr, ne_eq, decide_true, decide_false] <;> (try simp) <;> (try rfl)) ?_
    simp only [↓sxD, ↓sxP0, ↓sxGd, sxP1, sxF, sxA, sxS, sxK, sxG, sxH, sxU, encs, tys, sxN, sevalprocAttr, ne_eq, decide_true, decide_false]
    refine CallI.fn (c1) (by simp only [sxA, sxL, sxF, sxG, sxH, sxU, encs, sxN, sevalprocAttr, ne_eq, decide_true, decide_false] <;> (try simp) <;> (try rfl)) ?_
    simp only [↓sxD, ↓sxP0, ↓sxGd, sxP1, sxF, sxA, sxS, sxK, sxG, sxH, sxU, encs, tys, sxN, sevalprocAttr, ne_eq, decide_true, decide_false]
    refine CallI.fn (c2) (by simp only [sxA, sxL, sxF, sxG, sxH, sxU, encs, sxN, sevalprocAttr, ne_eq, decide_true, decide_false] <;> (try simp) <;> (try rfl)) ?_
    simp only [↓sxD, ↓sxP0, ↓sxGd, sxP1, sxF, sxA, sxS, sxK, sxG, sxH, sxU, encs, tys, sxN, sevalprocAttr, ne_eq, decide_true, decide_false]
    refine BrW.no (by simp) ?_
    simp only [↓sxD, ↓sxP0, ↓sxGd, sxP1, sxF, sxA, sxS, sxK, sxG, sxH, sxU, encs, tys, sxN, sevalprocAttr, ne_eq, decide_true, decide_false]
    refine BrW.no (by simp) ?_
    simp only [↓sxD, ↓sxP0, ↓sxGd, sxP1, sxF, sxA, sxS, sxK, sxG, sxH, sxU, encs, tys, sxN, sevalprocAttr, ne_eq, decide_true, decide_false]
    exact EndW.fn (by simp only [sxL, sxG, sxH, sxU, encs, kpLL_map, sxN, sevalprocAttr, ne_eq, decide_true, decide_false] <;> (try simp) <;> (try omega)) (by simp only [sxL, sxG, sxH, sxU, encs, kpLL_map, sxN, sevalprocAttr, ne_eq, decide_true, decide_false] <;> (try simp) <;> (try omega))
theorem sheetsLaw_s (good num den rn rd : Int) (hd : den ≤ 9223372036854775807) (hr : rd ≤ 9223372036854775807) : Ctr Try.prog 8 [(.v (.int .i64 good)), .agg [(.v (.int .i64 num)), (.v (.int .i64 den))], .agg [(.v (.int .i64 rn)), (.v (.int .i64 rd))]] (fun rr => rr = ⟨(.v (.bool (true))), []⟩) := by
  by_cases h0 : (leastV good num den rn rd).2 = 0
  · have h1 : (1 ≤ good ∧ good ≤ 17) ∧ chErr num den 10 = 0 ∧ chErr rn rd 1000000000 = 0 := by
      unfold leastV at h0
      split at h0
      · rename_i h1
        split at h0
        · rename_i h2
          split at h0
          · rename_i h3; exact ⟨h1, h2, h3⟩
          · rename_i h3; exact absurd h0 h3
        · rename_i h2; exact absurd h0 h2
      · simp at h0
    obtain ⟨h1, h2, h3⟩ := h1
    have h2' := h2
    have h3' := h3
    obtain ⟨p, q, rfl, rfl, hsp⟩ := chErr_ok h2 (by omega)
    obtain ⟨a, b, rfl, rfl, hrk⟩ := chErr_rk h3
    obtain ⟨g, rfl⟩ : ∃ m : Nat, good = m := ⟨good.toNat, by omega⟩
    exact sheetsB_s g p q a b (by omega) (by omega) hsp hrk h2 h3
  · have c1 := leastSheets_s good num den rn rd hd hr
    have c2 := leastSheetsR_s good num den rn rd hd hr
    generalize leastV good num den rn rd = V at *
    refine Ctr.of (rs := [.tmp 6]) Tok true Try.func8 rfl rfl rfl rfl (by simp [ofDL]) (fun w0 kp => ?_)
    simp only [↓sxD, ↓sxP0, ↓sxGd, sxP1, sxF, sxA, sxS, sxK, sxG, sxH, sxU, encs, tys, sxN, sevalprocAttr, ne_eq, decide_true, decide_false]
    refine CallI.fn (awake_s) (by simp only [sxA, sxL, sxF, sxG, sxH, sxU, encs, sxN, sevalprocAttr, ne_eq, decide_true, decide_false] <;> (try simp) <;> (try rfl)) ?_
    simp only [↓sxD, ↓sxP0, ↓sxGd, sxP1, sxF, sxA, sxS, sxK, sxG, sxH, sxU, encs, tys, sxN, sevalprocAttr, ne_eq, decide_true, decide_false]
    refine CallI.fn (c1) (by simp only [sxA, sxL, sxF, sxG, sxH, sxU, encs, sxN, sevalprocAttr, ne_eq, decide_true, decide_false] <;> (try simp) <;> (try rfl)) ?_
    simp only [↓sxD, ↓sxP0, ↓sxGd, sxP1, sxF, sxA, sxS, sxK, sxG, sxH, sxU, encs, tys, sxN, sevalprocAttr, ne_eq, decide_true, decide_false]
    refine CallI.fn (c2) (by simp only [sxA, sxL, sxF, sxG, sxH, sxU, encs, sxN, sevalprocAttr, ne_eq, decide_true, decide_false] <;> (try simp) <;> (try rfl)) ?_
    simp only [↓sxD, ↓sxP0, ↓sxGd, sxP1, sxF, sxA, sxS, sxK, sxG, sxH, sxU, encs, tys, sxN, sevalprocAttr, ne_eq, decide_true, decide_false]
    refine BrW.no (by simp) ?_
    simp only [↓sxD, ↓sxP0, ↓sxGd, sxP1, sxF, sxA, sxS, sxK, sxG, sxH, sxU, encs, tys, sxN, sevalprocAttr, ne_eq, decide_true, decide_false]
    refine BrW.no (by simp) ?_
    simp only [↓sxD, ↓sxP0, ↓sxGd, sxP1, sxF, sxA, sxS, sxK, sxG, sxH, sxU, encs, tys, sxN, sevalprocAttr, ne_eq, decide_true, decide_false]
    refine BrW.yes h0 ?_
    simp only [↓sxD, ↓sxP0, ↓sxGd, sxP1, sxF, sxA, sxS, sxK, sxG, sxH, sxU, encs, tys, sxN, sevalprocAttr, ne_eq, decide_true, decide_false]
    exact EndW.fn (by simp only [sxL, sxG, sxH, sxU, encs, kpLL_map, sxN, sevalprocAttr, ne_eq, decide_true, decide_false] <;> (try simp) <;> (try omega)) (by simp only [sxL, sxG, sxH, sxU, encs, kpLL_map, sxN, sevalprocAttr, ne_eq, decide_true, decide_false] <;> (try simp) <;> (try omega))
end Go.Proofs.Ytaagelngbbkllaa
