/-
  Chapter 9, walks: chances, lowest terms.
-/
import Derived.Test.YtaagelngbbkllaaVW8
namespace Go.Proofs.Ytaagelngbbkllaa
open Go Go.Vx
set_option linter.unusedSimpArgs false
set_option linter.unusedVariables false
set_option maxRecDepth 20000
theorem chErr_ok {num den most : Int} (h : chErr num den most = 0) (hm : most ≤ 10) : ∃ p q : Nat, num = (q : Int) ∧ den = ((p + q : Nat) : Int) ∧ SpOk p q := by
  unfold chErr at h
  split at h
  · rename_i h1
    split at h
    · rename_i h2
      refine ⟨(den - num).toNat, num.toNat, by omega, by omega, by omega, by omega, ?_⟩
      have h3 := h1.2
      unfold Int.gcd at h3
      have e1 : num.natAbs = num.toNat := by omega
      have e2 : den.natAbs = (den - num).toNat + num.toNat := by omega
      rw [e1, e2] at h3
      exact h3
    · omega
  · omega
/-- in lowest terms. -/
def lowN (n d : Nat) : Int := ((n / Nat.gcd n d : Nat) : Int)
def lowD (n d : Nat) : Int := ((d / Nat.gcd n d : Nat) : Int)
theorem gcd_nat (n d : Nat) : Int.gcd (n : Int) (d : Int) = Nat.gcd n d := rfl
theorem low_n {n d : Nat} (hd : 1 ≤ d) : (n : Int).tdiv ((Nat.gcd n d : Nat) : Int) = lowN n d := by
  rw [Int.tdiv_eq_ediv_of_nonneg (Int.natCast_nonneg _)]; unfold lowN; simp
theorem low_d {n d : Nat} (hd : 1 ≤ d) : (d : Int).tdiv ((Nat.gcd n d : Nat) : Int) = lowD n d := by
  rw [Int.tdiv_eq_ediv_of_nonneg (Int.natCast_nonneg _)]; unfold lowD; simp
theorem low_b (n d : Nat) : 0 ≤ lowN n d ∧ lowN n d ≤ (n : Int) ∧ 0 ≤ lowD n d ∧ lowD n d ≤ (d : Int) := by
  have h1 := Nat.div_le_self n (Nat.gcd n d)
  have h2 := Nat.div_le_self d (Nat.gcd n d)
  exact ⟨Int.natCast_nonneg _, Int.ofNat_le.2 h1, Int.natCast_nonneg _, Int.ofNat_le.2 h2⟩
def shErr (n g num den : Int) : Int := if (0 ≤ n ∧ n ≤ 17) ∧ (0 ≤ g ∧ g ≤ n) then chErr num den 10 else 2
def shV (n g num den : Int) : SV := .agg [(.v (.int .i64 n)), (.v (.int .i64 g)), (.v (.int .i64 num)), (.v (.int .i64 den))]
theorem shV_eq (n g num den : Int) : shV n g num den = .agg [(.v (.int .i64 n)), (.v (.int .i64 g)), (.v (.int .i64 num)), (.v (.int .i64 den))] := rfl
/-- the chance of right sheets. -/
def chN (n g num den : Int) : Int := lowN (psC n.toNat (den - num).toNat num.toNat g.toNat (n.toNat + 1)) (((den - num).toNat + num.toNat) ^ n.toNat)
def chD (n g num den : Int) : Int := lowD (psC n.toNat (den - num).toNat num.toNat g.toNat (n.toNat + 1)) (((den - num).toNat + num.toNat) ^ n.toNat)
theorem chanceOf_s (n g num den : Int) (hd : den ≤ 9223372036854775807) : Ctr Try.prog 25 [shV n g num den] (fun rr => rr = ⟨.tup [.agg [(.v (.int .i64 (if shErr n g num den = 0 then chN n g num den else 0))), (.v (.int .i64 (if shErr n g num den = 0 then chD n g num den else 0)))], (.v (.int .i64 (shErr n g num den)))], []⟩) := by
  have encs := And.intro encs shV_eq
  refine Ctr.of (rs := [.cell 2 43, .tmp 3]) Tok true Try.func25 rfl rfl rfl rfl (by simp [ofDL]) (fun w0 kp => ?_)
  simp only [↓sxD, ↓sxP0, ↓sxP3, ↓sxGd, sxP1, sxF, sxA, sxS, sxK, sxG, sxZ, sxH, sxU, encs, tys, sxN, sevalprocAttr, ne_eq, decide_true, decide_false]
  refine CallI.fn (within_s n 0 17) (by simp only [sxA, sxL, sxF, sxG, sxH, sxU, encs, sxN, sevalprocAttr, ne_eq, decide_true, decide_false] <;> (try simp) <;> (try rfl)) ?_
  simp only [↓sxD, ↓sxP0, ↓sxP3, ↓sxGd, sxP1, sxF, sxA, sxS, sxK, sxG, sxZ, sxH, sxU, encs, tys, sxN, sevalprocAttr, ne_eq, decide_true, decide_false]
  refine BrW.dec (fun h1 => ?_) (fun h1 => ?_)
  · simp only [↓sxD, ↓sxP0, ↓sxP3, ↓sxGd, sxP1, sxF, sxA, sxS, sxK, sxG, sxZ, sxH, sxU, encs, tys, sxN, sevalprocAttr, ne_eq, decide_true, decide_false]
    refine CallI.fn (within_s g 0 n) (by simp only [sxA, sxL, sxF, sxG, sxH, sxU, encs, sxN, sevalprocAttr, ne_eq, decide_true, decide_false] <;> (try simp) <;> (try rfl)) ?_
    simp only [↓sxD, ↓sxP0, ↓sxP3, ↓sxGd, sxP1, sxF, sxA, sxS, sxK, sxG, sxZ, sxH, sxU, encs, tys, sxN, sevalprocAttr, ne_eq, decide_true, decide_false]
    refine BrW.dec (fun h2 => ?_) (fun h2 => ?_)
    · simp only [↓sxD, ↓sxP0, ↓sxP3, ↓sxGd, sxP1, sxF, sxA, sxS, sxK, sxG, sxZ, sxH, sxU, encs, tys, sxN, sevalprocAttr, ne_eq, decide_true, decide_false]
      refine CallI.fn (checkChance_s num den 10 hd) (by simp only [sxA, sxL, sxF, sxG, sxH, sxU, encs, sxN, sevalprocAttr, ne_eq, decide_true, decide_false] <;> (try simp) <;> (try rfl)) ?_
      simp only [↓sxD, ↓sxP0, ↓sxP3, ↓sxGd, sxP1, sxF, sxA, sxS, sxK, sxG, sxZ, sxH, sxU, encs, tys, sxN, sevalprocAttr, ne_eq, decide_true, decide_false]
      have e0 : shErr n g num den = chErr num den 10 := by simp [shErr, h1, h2]
      refine BrW.dec (fun h3 => ?_) (fun h3 => ?_)
      · simp only [↓sxD, ↓sxP0, ↓sxP3, ↓sxGd, sxP1, sxF, sxA, sxS, sxK, sxG, sxZ, sxH, sxU, encs, tys, sxN, sevalprocAttr, ne_eq, decide_true, decide_false]
        exact EndW.fn (by simp only [sxL, sxG, sxH, sxU, encs, kpLL_map, sxN, sevalprocAttr, ne_eq, decide_true, decide_false] <;> (try simp [e0, h3]) <;> (try omega)) (by simp only [sxL, sxG, sxH, sxU, encs, kpLL_map, sxN, sevalprocAttr, ne_eq, decide_true, decide_false] <;> (try simp) <;> (try omega))
      · simp only [↓sxD, ↓sxP0, ↓sxP3, ↓sxGd, sxP1, sxF, sxA, sxS, sxK, sxG, sxZ, sxH, sxU, encs, tys, sxN, sevalprocAttr, ne_eq, decide_true, decide_false]
        have h3 : chErr num den 10 = 0 := Decidable.not_not.1 h3
        obtain ⟨p, q, rfl, rfl, hsp⟩ := chErr_ok h3 (by omega)
        obtain ⟨n, rfl⟩ : ∃ m : Nat, n = m := ⟨n.toNat, by omega⟩
        obtain ⟨g, rfl⟩ : ∃ m : Nat, g = m := ⟨g.toNat, by omega⟩
        have hn : n ≤ 17 := by omega
        have hf := chk_facts hn hsp
        have hpos : 1 ≤ (p + q) ^ n := Nat.one_le_pow _ _ (by have := hsp.lo; omega)
        have hps := psC_b (g := g) (k := n + 1) hn hsp (Nat.le_refl _)
        refine CallI.fn (chance_s n p q g hn (by omega) hsp) (by simp only [sxA, sxL, sxF, sxG, sxH, sxU, encs, sxN, sevalprocAttr, ne_eq, decide_true, decide_false] <;> (try simp) <;> (try rfl)) ?_
        simp only [↓sxD, ↓sxP0, ↓sxP3, ↓sxGd, sxP1, sxF, sxA, sxS, sxK, sxG, sxZ, sxH, sxU, encs, tys, sxN, sevalprocAttr, ne_eq, decide_true, decide_false]
        refine CallI.fn (divisor_s ((psC n p q g (n + 1) : Nat) : Int) (((p + q) ^ n : Nat) : Int) (by omega) (by omega)) (by simp only [sxA, sxL, sxF, sxG, sxH, sxU, encs, sxN, sevalprocAttr, ne_eq, decide_true, decide_false] <;> (try simp) <;> (try rfl)) ?_
        simp only [↓sxD, ↓sxP0, ↓sxP3, ↓sxGd, sxP1, sxF, sxA, sxS, sxK, sxG, sxZ, sxH, sxU, encs, tys, sxN, sevalprocAttr, ne_eq, decide_true, decide_false]
        rw [gcd_nat]
        refine DrawW.plan Tok mixed (.q 0 <| .q 1 <| .q 2 <| .q 3 <| .q 4 <| .q 5 <| .q 6 <| .e 7 [] <| .q 8 <| .done) (by kernel_rfl) (by kernel_rfl) ?_
        simp only [↓sxD, ↓sxP0, ↓sxP3, ↓sxGd, sxP1, sxF, sxA, sxS, sxK, sxG, sxZ, sxH, sxU, encs, tys, sxN, sevalprocAttr, ne_eq, decide_true, decide_false]
        have hb := low_b (psC n p q g (n + 1)) ((p + q) ^ n)
        have hg : Nat.gcd (psC n p q g (n + 1)) ((p + q) ^ n) ≠ 0 := fun e => by have := Nat.gcd_eq_zero_iff.1 e; omega
        rw [low_n hpos]
        refine Vc.go ⟨by omega, by simp only [InK]; omega⟩ fun _ => ?_
        simp only [↓sxD, ↓sxP0, ↓sxP3, ↓sxGd, sxP1, sxF, sxA, sxS, sxK, sxG, sxZ, sxH, sxU, encs, tys, sxN, sevalprocAttr, ne_eq, decide_true, decide_false]
        rw [low_d hpos]
        refine Vc.go ⟨by omega, by simp only [InK]; omega⟩ fun _ => ?_
        simp only [↓sxD, ↓sxP0, ↓sxP3, ↓sxGd, sxP1, sxF, sxA, sxS, sxK, sxG, sxZ, sxH, sxU, encs, tys, sxN, sevalprocAttr, ne_eq, decide_true, decide_false]
        have e1 : chN n g q ((p + q : Nat) : Int) = lowN (psC n p q g (n + 1)) ((p + q) ^ n) := by
          unfold chN; simp only [natCast_sub2, Int.toNat_natCast]
        have e2 : chD n g q ((p + q : Nat) : Int) = lowD (psC n p q g (n + 1)) ((p + q) ^ n) := by
          unfold chD; simp only [natCast_sub2, Int.toNat_natCast]
        rw [← e1, ← e2]
        have e3 : shErr (n : Int) (g : Int) (q : Int) ((p + q : Nat) : Int) = 0 := e0.trans h3
        exact EndW.fn (by simp only [sxL, sxG, sxH, sxU, encs, kpLL_map, sxN, sevalprocAttr, ne_eq, decide_true, decide_false] <;> (try simp [e3, -Int.natCast_add]) <;> (try omega)) (by simp only [sxL, sxG, sxH, sxU, encs, kpLL_map, sxN, sevalprocAttr, ne_eq, decide_true, decide_false] <;> (try simp) <;> (try omega))
    · simp only [↓sxD, ↓sxP0, ↓sxP3, ↓sxGd, sxP1, sxF, sxA, sxS, sxK, sxG, sxZ, sxH, sxU, encs, tys, sxN, sevalprocAttr, ne_eq, decide_true, decide_false]
      have e0 : shErr n g num den = 2 := by simp [shErr, h2]
      exact EndW.fn (by simp only [sxL, sxG, sxH, sxU, encs, kpLL_map, sxN, sevalprocAttr, ne_eq, decide_true, decide_false] <;> (try simp [e0]) <;> (try omega)) (by simp only [sxL, sxG, sxH, sxU, encs, kpLL_map, sxN, sevalprocAttr, ne_eq, decide_true, decide_false] <;> (try simp) <;> (try omega))
  · simp only [↓sxD, ↓sxP0, ↓sxP3, ↓sxGd, sxP1, sxF, sxA, sxS, sxK, sxG, sxZ, sxH, sxU, encs, tys, sxN, sevalprocAttr, ne_eq, decide_true, decide_false]
    have e0 : shErr n g num den = 2 := by simp [shErr, h1]
    exact EndW.fn (by simp only [sxL, sxG, sxH, sxU, encs, kpLL_map, sxN, sevalprocAttr, ne_eq, decide_true, decide_false] <;> (try simp [e0]) <;> (try omega)) (by simp only [sxL, sxG, sxH, sxU, encs, kpLL_map, sxN, sevalprocAttr, ne_eq, decide_true, decide_false] <;> (try simp) <;> (try omega))
end Go.Proofs.Ytaagelngbbkllaa
