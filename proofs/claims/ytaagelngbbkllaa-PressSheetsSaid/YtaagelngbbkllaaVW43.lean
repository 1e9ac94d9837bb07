/-
  Chapter 9, walks: the least number of sheets.
-/
import Derived.Test.YtaagelngbbkllaaVW9
import Derived.Test.YtaagelngbbkllaaVMul
namespace Go.Proofs.Ytaagelngbbkllaa
open Go Go.Vx
set_option linter.unusedSimpArgs false
set_option linter.unusedVariables false
set_option maxRecDepth 20000
theorem notMore_s (a b c d : Nat) (ha : a ≤ 1000000000000000000) (hb : b ≤ 1000000000000000000) (hc : c ≤ 1000000000000000000) (hd : d ≤ 1000000000000000000) : Ctr Try.prog 113 [(.v (.int .i64 ((a : Int)))), (.v (.int .i64 ((b : Int)))), (.v (.int .i64 ((c : Int)))), (.v (.int .i64 ((d : Int))))] (fun rr => rr = ⟨(.v (.bool (decide (a * b ≤ c * d)))), []⟩) := by
  have m1 := mul64_s a b (by omega) (by omega)
  have m2 := mul64_s c d (by omega) (by omega)
  generalize a * b = x at *
  generalize c * d = y at *
  refine Ctr.of (rs := [.tmp 8]) Tok true Try.func113 rfl rfl rfl rfl (by simp [ofDL]) (fun w0 kp => ?_)
  simp only [↓sxD, ↓sxP0, ↓sxGd, sxP1, sxF, sxA, sxS, sxK, sxG, sxH, sxU, encs, tys, sxN, sevalprocAttr, ne_eq, decide_true, decide_false]
  repeat ((with_reducible refine Vc.go ?_ fun _ => ?_); (focus (first | omega | (simp only [InK]; omega) | (simp [InK]; done) | (simp [InK]; omega))); simp only [↓sxD, ↓sxP0, ↓sxGd, sxP1, sxF, sxA, sxS, sxK, sxG, sxH, sxU, encs, tys, sxN, sevalprocAttr, ne_eq, decide_true, decide_false])
  refine CallI.fn (m1) (by simp only [sxA, sxL, sxF, sxG, sxH, sxU, encs, sxN, sevalprocAttr, ne_eq, decide_true, decide_false] <;> (try simp) <;> (try rfl)) ?_
  simp only [↓sxD, ↓sxP0, ↓sxGd, sxP1, sxF, sxA, sxS, sxK, sxG, sxH, sxU, encs, tys, sxN, sevalprocAttr, ne_eq, decide_true, decide_false]
  repeat ((with_reducible refine Vc.go ?_ fun _ => ?_); (focus (first | omega | (simp only [InK]; omega) | (simp [InK]; done) | (simp [InK]; omega))); simp only [↓sxD, ↓sxP0, ↓sxGd, sxP1, sxF, sxA, sxS, sxK, sxG, sxH, sxU, encs, tys, sxN, sevalprocAttr, ne_eq, decide_true, decide_false])
  refine CallI.fn (m2) (by simp only [sxA, sxL, sxF, sxG, sxH, sxU, encs, sxN, sevalprocAttr, ne_eq, decide_true, decide_false] <;> (try simp) <;> (try rfl)) ?_
  simp only [↓sxD, ↓sxP0, ↓sxGd, sxP1, sxF, sxA, sxS, sxK, sxG, sxH, sxU, encs, tys, sxN, sevalprocAttr, ne_eq, decide_true, decide_false]
  refine BrW.dec (fun h1 => ?_) (fun h1 => ?_)
  · simp only [↓sxD, ↓sxP0, ↓sxGd, sxP1, sxF, sxA, sxS, sxK, sxG, sxH, sxU, encs, tys, sxN, sevalprocAttr, ne_eq, decide_true, decide_false]
    rw [decide_eq_true (show x ≤ y by omega)]
    exact EndW.fn (by simp only [sxL, sxG, sxH, sxU, encs, kpLL_map, sxN, sevalprocAttr, ne_eq, decide_true, decide_false] <;> (try simp) <;> (try omega)) (by simp only [sxL, sxG, sxH, sxU, encs, kpLL_map, sxN, sevalprocAttr, ne_eq, decide_true, decide_false] <;> (try simp) <;> (try omega))
  · simp only [↓sxD, ↓sxP0, ↓sxGd, sxP1, sxF, sxA, sxS, sxK, sxG, sxH, sxU, encs, tys, sxN, sevalprocAttr, ne_eq, decide_true, decide_false]
    refine BrW.dec (fun h2 => ?_) (fun h2 => ?_)
    · simp only [↓sxD, ↓sxP0, ↓sxGd, sxP1, sxF, sxA, sxS, sxK, sxG, sxH, sxU, encs, tys, sxN, sevalprocAttr, ne_eq, decide_true, decide_false]
      have e : decide (x ≤ y) = decide (((x % 18446744073709551616 : Nat) : Int) ≤ ((y % 18446744073709551616 : Nat) : Int)) := by
        rw [decide_eq_decide]; omega
      rw [e]
      exact EndW.fn (by simp only [sxL, sxG, sxH, sxU, encs, kpLL_map, sxN, sevalprocAttr, ne_eq, decide_true, decide_false] <;> (try simp) <;> (try omega)) (by simp only [sxL, sxG, sxH, sxU, encs, kpLL_map, sxN, sevalprocAttr, ne_eq, decide_true, decide_false] <;> (try simp) <;> (try omega))
    · simp only [↓sxD, ↓sxP0, ↓sxGd, sxP1, sxF, sxA, sxS, sxK, sxG, sxH, sxU, encs, tys, sxN, sevalprocAttr, ne_eq, decide_true, decide_false]
      rw [decide_eq_false (show ¬ x ≤ y by omega)]
      exact EndW.fn (by simp only [sxL, sxG, sxH, sxU, encs, kpLL_map, sxN, sevalprocAttr, ne_eq, decide_true, decide_false] <;> (try simp) <;> (try omega)) (by simp only [sxL, sxG, sxH, sxU, encs, kpLL_map, sxN, sevalprocAttr, ne_eq, decide_true, decide_false] <;> (try simp) <;> (try omega))
/-- so many sheets keep a risk. -/
def okN (p q g a b n : Nat) : Prop := ((p + q) ^ n - psC n p q g (n + 1)) * b ≤ a * (p + q) ^ n
instance (p q g a b n : Nat) : Decidable (okN p q g a b n) := Nat.decLe _ _
def lsF (p q g a b : Nat) : Nat → Nat → Int × Int
  | 0, _ => (0, 12)
  | f + 1, n => if okN p q g a b n then ((n : Int), 0) else lsF p q g a b f (n + 1)
theorem lsF_ok {p q g a b : Nat} : ∀ f n, (lsF p q g a b f n).2 = 0 → ∃ m : Nat, n ≤ m ∧ m < n + f ∧ lsF p q g a b f n = ((m : Int), 0) ∧ okN p q g a b m ∧ (m = n ∨ (n ≤ m - 1 ∧ ¬ okN p q g a b (m - 1)))
  | 0, n, h => by simp [lsF] at h
  | f + 1, n, h => by
    simp only [lsF] at h ⊢
    by_cases hk : okN p q g a b n
    · rw [if_pos hk]
      exact ⟨n, Nat.le_refl _, by omega, rfl, hk, .inl rfl⟩
    · rw [if_neg hk] at h ⊢
      obtain ⟨m, m1, m2, m3, m4, m5⟩ := lsF_ok f (n + 1) h
      refine ⟨m, by omega, by omega, m3, m4, .inr ⟨by omega, ?_⟩⟩
      rcases m5 with e | ⟨_, e⟩
      · subst e; exact hk
      · exact e
theorem lsF_err {p q g a b : Nat} : ∀ f n, (lsF p q g a b f n).2 = 0 ∨ lsF p q g a b f n = (0, 12)
  | 0, n => .inr rfl
  | f + 1, n => by
    simp only [lsF]
    split
    · exact .inl rfl
    · exact lsF_err f (n + 1)
structure RkOk (a b : Nat) : Prop where
  lo : 1 ≤ b
  hi : b ≤ 1000000000
  le : a ≤ b
theorem chErr_rk {num den : Int} (h : chErr num den 1000000000 = 0) : ∃ a b : Nat, num = (a : Int) ∧ den = (b : Int) ∧ RkOk a b := by
  unfold chErr at h
  split at h
  · split at h
    · exact ⟨num.toNat, den.toNat, by omega, by omega, by omega, by omega, by omega⟩
    · omega
  · omega
def leastV (good num den rn rd : Int) : Int × Int :=
  if 1 ≤ good ∧ good ≤ 17 then (if chErr num den 10 = 0 then (if chErr rn rd 1000000000 = 0 then lsF (den - num).toNat num.toNat good.toNat rn.toNat rd.toNat (18 - good.toNat) good.toNat else (0, chErr rn rd 1000000000)) else (0, chErr num den 10)) else (0, 2)
theorem leastSheets_s (good num den rn rd : Int) (hd : den ≤ 9223372036854775807) (hr : rd ≤ 9223372036854775807) : Ctr Try.prog 55 [(.v (.int .i64 good)), .agg [(.v (.int .i64 num)), (.v (.int .i64 den))], .agg [(.v (.int .i64 rn)), (.v (.int .i64 rd))]] (fun rr => rr = ⟨.tup [(.v (.int .i64 ((leastV good num den rn rd).1))), (.v (.int .i64 ((leastV good num den rn rd).2)))], []⟩) := by
  refine Ctr.of (rs := [.tmp 6, .tmp 7]) Tok true Try.func55 rfl rfl rfl rfl (by simp [ofDL]) (fun w0 kp => ?_)
  simp only [↓sxD, ↓sxP0, ↓sxGd, sxP1, sxF, sxA, sxS, sxK, sxG, sxH, sxU, encs, tys, sxN, sevalprocAttr, ne_eq, decide_true, decide_false]
  refine CallI.fn (within_s good 1 17) (by simp only [sxA, sxL, sxF, sxG, sxH, sxU, encs, sxN, sevalprocAttr, ne_eq, decide_true, decide_false] <;> (try simp) <;> (try rfl)) ?_
  simp only [↓sxD, ↓sxP0, ↓sxGd, sxP1, sxF, sxA, sxS, sxK, sxG, sxH, sxU, encs, tys, sxN, sevalprocAttr, ne_eq, decide_true, decide_false]
  refine BrW.dec (fun h1 => ?_) (fun h1 => ?_)
  · simp only [↓sxD, ↓sxP0, ↓sxGd, sxP1, sxF, sxA, sxS, sxK, sxG, sxH, sxU, encs, tys, sxN, sevalprocAttr, ne_eq, decide_true, decide_false]
    refine CallI.fn (checkChance_s num den 10 hd) (by simp only [sxA, sxL, sxF, sxG, sxH, sxU, encs, sxN, sevalprocAttr, ne_eq, decide_true, decide_false] <;> (try simp) <;> (try rfl)) ?_
    simp only [↓sxD, ↓sxP0, ↓sxGd, sxP1, sxF, sxA, sxS, sxK, sxG, sxH, sxU, encs, tys, sxN, sevalprocAttr, ne_eq, decide_true, decide_false]
    refine BrW.dec (fun h2 => ?_) (fun h2 => ?_)
    · have h2 : ¬ chErr num den 10 = 0 := h2
      rw [show leastV good num den rn rd = (0, chErr num den 10) by rw [leastV, if_pos h1, if_neg h2]]
      simp only [↓sxD, ↓sxP0, ↓sxGd, sxP1, sxF, sxA, sxS, sxK, sxG, sxH, sxU, encs, tys, sxN, sevalprocAttr, ne_eq, decide_true, decide_false]
      exact EndW.fn (by simp only [sxL, sxG, sxH, sxU, encs, kpLL_map, sxN, sevalprocAttr, ne_eq, decide_true, decide_false] <;> (try simp) <;> (try omega)) (by simp only [sxL, sxG, sxH, sxU, encs, kpLL_map, sxN, sevalprocAttr, ne_eq, decide_true, decide_false] <;> (try simp) <;> (try omega))
    · have h2 : chErr num den 10 = 0 := Decidable.not_not.1 h2
      simp only [↓sxD, ↓sxP0, ↓sxGd, sxP1, sxF, sxA, sxS, sxK, sxG, sxH, sxU, encs, tys, sxN, sevalprocAttr, ne_eq, decide_true, decide_false]
      refine CallI.fn (checkChance_s rn rd 1000000000 hr) (by simp only [sxA, sxL, sxF, sxG, sxH, sxU, encs, sxN, sevalprocAttr, ne_eq, decide_true, decide_false] <;> (try simp) <;> (try rfl)) ?_
      simp only [↓sxD, ↓sxP0, ↓sxGd, sxP1, sxF, sxA, sxS, sxK, sxG, sxH, sxU, encs, tys, sxN, sevalprocAttr, ne_eq, decide_true, decide_false]
      refine BrW.dec (fun h3 => ?_) (fun h3 => ?_)
      · have h3 : ¬ chErr rn rd 1000000000 = 0 := h3
        rw [show leastV good num den rn rd = (0, chErr rn rd 1000000000) by rw [leastV, if_pos h1, if_pos h2, if_neg h3]]
        simp only [↓sxD, ↓sxP0, ↓sxGd, sxP1, sxF, sxA, sxS, sxK, sxG, sxH, sxU, encs, tys, sxN, sevalprocAttr, ne_eq, decide_true, decide_false]
        exact EndW.fn (by simp only [sxL, sxG, sxH, sxU, encs, kpLL_map, sxN, sevalprocAttr, ne_eq, decide_true, decide_false] <;> (try simp) <;> (try omega)) (by simp only [sxL, sxG, sxH, sxU, encs, kpLL_map, sxN, sevalprocAttr, ne_eq, decide_true, decide_false] <;> (try simp) <;> (try omega))
      · have h3 : chErr rn rd 1000000000 = 0 := Decidable.not_not.1 h3
        have hV : leastV good num den rn rd = lsF (den - num).toNat num.toNat good.toNat rn.toNat rd.toNat (18 - good.toNat) good.toNat := by rw [leastV, if_pos h1, if_pos h2, if_pos h3]
        rw [hV]
        clear hV
        obtain ⟨p, q, rfl, rfl, hsp⟩ := chErr_ok h2 (by omega)
        obtain ⟨a, b, rfl, rfl, hrk⟩ := chErr_rk h3
        obtain ⟨g, rfl⟩ : ∃ m : Nat, good = m := ⟨good.toNat, by omega⟩
        rw [natCast_sub2]
        simp only [Int.toNat_natCast]
        have b1 := hrk.lo
        have b2 := hrk.hi
        have b3 := hrk.le
        simp only [↓sxD, ↓sxP0, ↓sxGd, sxP1, sxF, sxA, sxS, sxK, sxG, sxH, sxU, encs, tys, sxN, sevalprocAttr, ne_eq, decide_true, decide_false]
        refine LoopW.comp [0, 4, 5, 10] (by simp only [sxS, sxL, sxF, sxG, sxH, sxU, encs, sxN, sevalprocAttr, ne_eq, decide_true, decide_false] <;> (try simp) <;> (try omega)) ?_
        simp only [sxS, sxF, sxG, sxH, sxU, sxN, sevalprocAttr, ne_eq, decide_true, decide_false]
        refine LoopW.up Tok (fun n : Nat => [(10, (.v (.int .i64 n)))]) (fun n => []) (fun n => []) (fun n => []) (fun n => (g ≤ n ∧ n ≤ 18) ∧ lsF p q g a b (18 - n) n = lsF p q g a b (18 - g) g) (fun n => 18 - n) (g) (by simp only [sxS, sxL, sxF, sxG, sxH, sxU, encs, sxN, sevalprocAttr, ne_eq, decide_true, decide_false] <;> (try simp) <;> (try omega)) ?_ ?_
        · exact ⟨by omega, rfl⟩
        rintro n ⟨⟨hn1, hn2⟩, hJ⟩
        simp only [↓sxD, ↓sxP0, ↓sxGd, sxP1, sxF, sxA, sxS, sxK, sxG, sxH, sxU, encs, tys, sxN, sevalprocAttr, ne_eq, decide_true, decide_false]
        refine BrW.dec (fun hlt => ?_) (fun hlt => ?_)
        · simp only [↓sxD, ↓sxP0, ↓sxGd, sxP1, sxF, sxA, sxS, sxK, sxG, sxH, sxU, encs, tys, sxN, sevalprocAttr, ne_eq, decide_true, decide_false]
          have hn : n ≤ 17 := by omega
          have hps := psC_b (g := g) (k := n + 1) hn hsp (Nat.le_refl _)
          have hpw := (chk_facts hn hsp).2.2
          refine CallI.fn (chance_s n p q g hn (by omega) hsp) (by simp only [sxA, sxL, sxF, sxG, sxH, sxU, encs, sxN, sevalprocAttr, ne_eq, decide_true, decide_false] <;> (try simp) <;> (try rfl)) ?_
          simp only [↓sxD, ↓sxP0, ↓sxGd, sxP1, sxF, sxA, sxS, sxK, sxG, sxH, sxU, encs, tys, sxN, sevalprocAttr, ne_eq, decide_true, decide_false]
          have es : (((p + q) ^ n : Nat) : Int) - ((psC n p q g (n + 1) : Nat) : Int) = (((p + q) ^ n - psC n p q g (n + 1) : Nat) : Int) := by omega
          rw [es]
          repeat ((with_reducible refine Vc.go ?_ fun _ => ?_); (focus (first | omega | (simp only [InK]; omega) | (simp [InK]; done) | (simp [InK]; omega))); simp only [↓sxD, ↓sxP0, ↓sxGd, sxP1, sxF, sxA, sxS, sxK, sxG, sxH, sxU, encs, tys, sxN, sevalprocAttr, ne_eq, decide_true, decide_false])
          refine CallI.fn (notMore_s ((p + q) ^ n - psC n p q g (n + 1)) b a ((p + q) ^ n) (by omega) (by omega) (by omega) (by omega)) (by simp only [sxA, sxL, sxF, sxG, sxH, sxU, encs, sxN, sevalprocAttr, ne_eq, decide_true, decide_false] <;> (try simp) <;> (try rfl)) ?_
          simp only [↓sxD, ↓sxP0, ↓sxGd, sxP1, sxF, sxA, sxS, sxK, sxG, sxH, sxU, encs, tys, sxN, sevalprocAttr, ne_eq, decide_true, decide_false]
          rw [show 18 - n = (17 - n) + 1 by omega, lsF] at hJ
          refine BrW.of (fun hk => ?_) (fun hk => ?_)
          · rw [if_pos (show okN p q g a b n from of_decide_eq_true hk)] at hJ
            rw [← hJ]
            simp only [↓sxD, ↓sxP0, ↓sxGd, sxP1, sxF, sxA, sxS, sxK, sxG, sxH, sxU, encs, tys, sxN, sevalprocAttr, ne_eq, decide_true, decide_false]
            exact EndW.fn (by simp only [sxL, sxG, sxH, sxU, encs, kpLL_map, sxN, sevalprocAttr, ne_eq, decide_true, decide_false] <;> (try simp) <;> (try omega)) (by simp only [sxL, sxG, sxH, sxU, encs, kpLL_map, sxN, sevalprocAttr, ne_eq, decide_true, decide_false] <;> (try simp) <;> (try omega))
          · rw [if_neg (show ¬ okN p q g a b n from of_decide_eq_false hk)] at hJ
            simp only [↓sxD, ↓sxP0, ↓sxGd, sxP1, sxF, sxA, sxS, sxK, sxG, sxH, sxU, encs, tys, sxN, sevalprocAttr, ne_eq, decide_true, decide_false]
            repeat ((with_reducible refine Vc.go ?_ fun _ => ?_); (focus (first | omega | (simp only [InK]; omega) | (simp [InK]; done) | (simp [InK]; omega))); simp only [↓sxD, ↓sxP0, ↓sxGd, sxP1, sxF, sxA, sxS, sxK, sxG, sxH, sxU, encs, tys, sxN, sevalprocAttr, ne_eq, decide_true, decide_false])
            refine ⟨n + 1, StLe.auto (by simp only [sxS, sxL, sxF, sxG, sxH, sxU, encs, sxN, sevalprocAttr, ne_eq, decide_true, decide_false] <;> (try simp) <;> (try omega)), ?_, ?_⟩
            · exact ⟨by omega, by rw [show 18 - (n + 1) = 17 - n by omega]; exact hJ⟩
            · omega
        · simp only [↓sxD, ↓sxP0, ↓sxGd, sxP1, sxF, sxA, sxS, sxK, sxG, sxH, sxU, encs, tys, sxN, sevalprocAttr, ne_eq, decide_true, decide_false]
          have hne : n = 18 := by omega
          subst hne
          rw [← hJ]
          exact EndW.fn (by simp only [sxL, sxG, sxH, sxU, encs, kpLL_map, sxN, sevalprocAttr, ne_eq, decide_true, decide_false] <;> (try simp [lsF]) <;> (try omega)) (by simp only [sxL, sxG, sxH, sxU, encs, kpLL_map, sxN, sevalprocAttr, ne_eq, decide_true, decide_false] <;> (try simp) <;> (try omega))
  · rw [show leastV good num den rn rd = (0, 2) by rw [leastV, if_neg h1]]
    simp only [↓sxD, ↓sxP0, ↓sxGd, sxP1, sxF, sxA, sxS, sxK, sxG, sxH, sxU, encs, tys, sxN, sevalprocAttr, ne_eq, decide_true, decide_false]
    exact EndW.fn (by simp only [sxL, sxG, sxH, sxU, encs, kpLL_map, sxN, sevalprocAttr, ne_eq, decide_true, decide_false] <;> (try simp) <;> (try omega)) (by simp only [sxL, sxG, sxH, sxU, encs, kpLL_map, sxN, sevalprocAttr, ne_eq, decide_true, decide_false] <;> (try simp) <;> (try omega))
theorem cmpF_iff {n d m k : Int} : cmpF n d m k ≤ 0 ↔ n * k ≤ m * d := by
  unfold cmpF
  split
  · constructor <;> intro <;> omega
  · split
    · constructor <;> intro <;> omega
    · constructor <;> intro <;> omega
theorem cmp_ok {p q g a b n : Nat} (hps : psC n p q g (n + 1) ≤ (p + q) ^ n) : cmpF (((p + q) ^ n - psC n p q g (n + 1) : Nat) : Int) (((p + q) ^ n : Nat) : Int) (a : Int) (b : Int) ≤ 0 ↔ okN p q g a b n := by
  rw [cmpF_iff, okN, ← Int.natCast_mul, ← Int.natCast_mul]
  exact Int.ofNat_le
theorem leastSheetsR_s (good num den rn rd : Int) (hd : den ≤ 9223372036854775807) (hr : rd ≤ 9223372036854775807) : Ctr Try.prog 56 [(.v (.int .i64 good)), .agg [(.v (.int .i64 num)), (.v (.int .i64 den))], .agg [(.v (.int .i64 rn)), (.v (.int .i64 rd))]] (fun rr => rr = ⟨.tup [(.v (.int .i64 ((leastV good num den rn rd).1))), (.v (.int .i64 ((leastV good num den rn rd).2)))], []⟩) := by
  have encs := And.intro encs (show ∀ n g q p, srV n g q p = .agg [(.v (.int .i64 ((n : Int)))), (.v (.int .i64 ((g : Int)))), (.v (.int .i64 ((q : Int)))), (.v (.int .i64 (((p + q : Nat) : Int))))] from fun _ _ _ _ => rfl)
  refine Ctr.of (rs := [.tmp 6, .tmp 7]) Tok true Try.func56 rfl rfl rfl rfl (by simp [ofDL]) (fun w0 kp => ?_)
  simp only [↓sxD, ↓sxP0, ↓sxGd, sxP1, sxF, sxA, sxS, sxK, sxG, sxH, sxU, encs, tys, sxN, sevalprocAttr, ne_eq, decide_true, decide_false]
  refine CallI.fn (withinB_s good 1 17) (by simp only [sxA, sxL, sxF, sxG, sxH, sxU, encs, sxN, sevalprocAttr, ne_eq, decide_true, decide_false] <;> (try simp) <;> (try rfl)) ?_
  simp only [↓sxD, ↓sxP0, ↓sxGd, sxP1, sxF, sxA, sxS, sxK, sxG, sxH, sxU, encs, tys, sxN, sevalprocAttr, ne_eq, decide_true, decide_false]
  refine BrW.of (fun h1 => ?_) (fun h1 => ?_)
  · have h1 : 1 ≤ good ∧ good ≤ 17 := by simpa using h1
    simp only [↓sxD, ↓sxP0, ↓sxGd, sxP1, sxF, sxA, sxS, sxK, sxG, sxH, sxU, encs, tys, sxN, sevalprocAttr, ne_eq, decide_true, decide_false]
    refine CallI.fn (checkChanceR_s num den 10 hd) (by simp only [sxA, sxL, sxF, sxG, sxH, sxU, encs, sxN, sevalprocAttr, ne_eq, decide_true, decide_false] <;> (try simp) <;> (try rfl)) ?_
    simp only [↓sxD, ↓sxP0, ↓sxGd, sxP1, sxF, sxA, sxS, sxK, sxG, sxH, sxU, encs, tys, sxN, sevalprocAttr, ne_eq, decide_true, decide_false]
    refine BrW.dec (fun h2 => ?_) (fun h2 => ?_)
    · have h2 : ¬ chErr num den 10 = 0 := h2
      rw [show leastV good num den rn rd = (0, chErr num den 10) by rw [leastV, if_pos h1, if_neg h2]]
      simp only [↓sxD, ↓sxP0, ↓sxGd, sxP1, sxF, sxA, sxS, sxK, sxG, sxH, sxU, encs, tys, sxN, sevalprocAttr, ne_eq, decide_true, decide_false]
      exact EndW.fn (by simp only [sxL, sxG, sxH, sxU, encs, kpLL_map, sxN, sevalprocAttr, ne_eq, decide_true, decide_false] <;> (try simp) <;> (try omega)) (by simp only [sxL, sxG, sxH, sxU, encs, kpLL_map, sxN, sevalprocAttr, ne_eq, decide_true, decide_false] <;> (try simp) <;> (try omega))
    · have h2 : chErr num den 10 = 0 := Decidable.not_not.1 h2
      simp only [↓sxD, ↓sxP0, ↓sxGd, sxP1, sxF, sxA, sxS, sxK, sxG, sxH, sxU, encs, tys, sxN, sevalprocAttr, ne_eq, decide_true, decide_false]
      refine CallI.fn (checkChanceR_s rn rd 1000000000 hr) (by simp only [sxA, sxL, sxF, sxG, sxH, sxU, encs, sxN, sevalprocAttr, ne_eq, decide_true, decide_false] <;> (try simp) <;> (try rfl)) ?_
      simp only [↓sxD, ↓sxP0, ↓sxGd, sxP1, sxF, sxA, sxS, sxK, sxG, sxH, sxU, encs, tys, sxN, sevalprocAttr, ne_eq, decide_true, decide_false]
      refine BrW.dec (fun h3 => ?_) (fun h3 => ?_)
      · have h3 : ¬ chErr rn rd 1000000000 = 0 := h3
        rw [show leastV good num den rn rd = (0, chErr rn rd 1000000000) by rw [leastV, if_pos h1, if_pos h2, if_neg h3]]
        simp only [↓sxD, ↓sxP0, ↓sxGd, sxP1, sxF, sxA, sxS, sxK, sxG, sxH, sxU, encs, tys, sxN, sevalprocAttr, ne_eq, decide_true, decide_false]
        exact EndW.fn (by simp only [sxL, sxG, sxH, sxU, encs, kpLL_map, sxN, sevalprocAttr, ne_eq, decide_true, decide_false] <;> (try simp) <;> (try omega)) (by simp only [sxL, sxG, sxH, sxU, encs, kpLL_map, sxN, sevalprocAttr, ne_eq, decide_true, decide_false] <;> (try simp) <;> (try omega))
      · have h3 : chErr rn rd 1000000000 = 0 := Decidable.not_not.1 h3
        have hV : leastV good num den rn rd = lsF (den - num).toNat num.toNat good.toNat rn.toNat rd.toNat (18 - good.toNat) good.toNat := by rw [leastV, if_pos h1, if_pos h2, if_pos h3]
        rw [hV]
        clear hV
        obtain ⟨p, q, rfl, rfl, hsp⟩ := chErr_ok h2 (by omega)
        obtain ⟨a, b, rfl, rfl, hrk⟩ := chErr_rk h3
        obtain ⟨g, rfl⟩ : ∃ m : Nat, good = m := ⟨good.toNat, by omega⟩
        rw [natCast_sub2]
        simp only [Int.toNat_natCast]
        have b1 := hrk.lo
        have b2 := hrk.hi
        have b3 := hrk.le
        have hlo := hsp.lo
        simp only [↓sxD, ↓sxP0, ↓sxGd, sxP1, sxF, sxA, sxS, sxK, sxG, sxH, sxU, encs, tys, sxN, sevalprocAttr, ne_eq, decide_true, decide_false]
        refine LoopW.comp [0, 4, 5, 10] (by simp only [sxS, sxL, sxF, sxG, sxH, sxU, encs, sxN, sevalprocAttr, ne_eq, decide_true, decide_false] <;> (try simp) <;> (try omega)) ?_
        simp only [sxS, sxF, sxG, sxH, sxU, sxN, sevalprocAttr, ne_eq, decide_true, decide_false]
        refine LoopW.up Tok (fun n : Nat => [(10, (.v (.int .i64 n)))]) (fun n => []) (fun n => []) (fun n => []) (fun n => (g ≤ n ∧ n ≤ 18) ∧ lsF p q g a b (18 - n) n = lsF p q g a b (18 - g) g) (fun n => 18 - n) (g) (by simp only [sxS, sxL, sxF, sxG, sxH, sxU, encs, sxN, sevalprocAttr, ne_eq, decide_true, decide_false] <;> (try simp) <;> (try omega)) ?_ ?_
        · exact ⟨by omega, rfl⟩
        rintro n ⟨⟨hn1, hn2⟩, hJ⟩
        simp only [↓sxD, ↓sxP0, ↓sxGd, sxP1, sxF, sxA, sxS, sxK, sxG, sxH, sxU, encs, tys, sxN, sevalprocAttr, ne_eq, decide_true, decide_false]
        refine BrW.dec (fun hlt => ?_) (fun hlt => ?_)
        · simp only [↓sxD, ↓sxP0, ↓sxGd, sxP1, sxF, sxA, sxS, sxK, sxG, sxH, sxU, encs, tys, sxN, sevalprocAttr, ne_eq, decide_true, decide_false]
          have hn : n ≤ 17 := by omega
          have hps := psC_b (g := g) (k := n + 1) hn hsp (Nat.le_refl _)
          have hpw := (chk_facts hn hsp).2.2
          have hpos : 1 ≤ (p + q) ^ n := Nat.one_le_pow _ _ (by omega)
          refine CallI.fn (powerRA_s (p + q) n (by omega) (by omega)) (by simp only [sxA, sxL, sxF, sxG, sxH, sxU, encs, sxN, sevalprocAttr, ne_eq, decide_true, decide_false] <;> (try simp) <;> (try rfl)) ?_
          simp only [↓sxD, ↓sxP0, ↓sxGd, sxP1, sxF, sxA, sxS, sxK, sxG, sxH, sxU, encs, tys, sxN, sevalprocAttr, ne_eq, decide_true, decide_false]
          refine CallI.fn (goodR_s n p q g hn (by omega) hsp) (by simp only [sxA, sxL, sxF, sxG, sxH, sxU, encs, sxN, sevalprocAttr, ne_eq, decide_true, decide_false] <;> (try simp) <;> (try rfl)) ?_
          simp only [↓sxD, ↓sxP0, ↓sxGd, sxP1, sxF, sxA, sxS, sxK, sxG, sxH, sxU, encs, tys, sxN, sevalprocAttr, ne_eq, decide_true, decide_false]
          have es : (((p + q) ^ n : Nat) : Int) - ((psC n p q g (n + 1) : Nat) : Int) = (((p + q) ^ n - psC n p q g (n + 1) : Nat) : Int) := by omega
          rw [es]
          repeat ((with_reducible refine Vc.go ?_ fun _ => ?_); (focus (first | omega | (simp only [InK]; omega) | (simp [InK]; done) | (simp [InK]; omega))); simp only [↓sxD, ↓sxP0, ↓sxGd, sxP1, sxF, sxA, sxS, sxK, sxG, sxH, sxU, encs, tys, sxN, sevalprocAttr, ne_eq, decide_true, decide_false])
          refine CallI.fn (compare_s (((p + q) ^ n - psC n p q g (n + 1) : Nat) : Int) (((p + q) ^ n : Nat) : Int) (a : Int) (b : Int) (by omega) (by omega) (by omega) (by omega) (by omega) (by omega) (by omega) (by omega)) (by simp only [sxA, sxL, sxF, sxG, sxH, sxU, encs, sxN, sevalprocAttr, ne_eq, decide_true, decide_false] <;> (try simp) <;> (try rfl)) ?_
          simp only [↓sxD, ↓sxP0, ↓sxGd, sxP1, sxF, sxA, sxS, sxK, sxG, sxH, sxU, encs, tys, sxN, sevalprocAttr, ne_eq, decide_true, decide_false]
          rw [show 18 - n = (17 - n) + 1 by omega, lsF] at hJ
          refine BrW.dec (fun hk => ?_) (fun hk => ?_)
          · rw [if_pos ((cmp_ok hps).1 hk)] at hJ
            rw [← hJ]
            simp only [↓sxD, ↓sxP0, ↓sxGd, sxP1, sxF, sxA, sxS, sxK, sxG, sxH, sxU, encs, tys, sxN, sevalprocAttr, ne_eq, decide_true, decide_false]
            exact EndW.fn (by simp only [sxL, sxG, sxH, sxU, encs, kpLL_map, sxN, sevalprocAttr, ne_eq, decide_true, decide_false] <;> (try simp) <;> (try omega)) (by simp only [sxL, sxG, sxH, sxU, encs, kpLL_map, sxN, sevalprocAttr, ne_eq, decide_true, decide_false] <;> (try simp) <;> (try omega))
          · rw [if_neg (fun h => hk ((cmp_ok hps).2 h))] at hJ
            simp only [↓sxD, ↓sxP0, ↓sxGd, sxP1, sxF, sxA, sxS, sxK, sxG, sxH, sxU, encs, tys, sxN, sevalprocAttr, ne_eq, decide_true, decide_false]
            repeat ((with_reducible refine Vc.go ?_ fun _ => ?_); (focus (first | omega | (simp only [InK]; omega) | (simp [InK]; done) | (simp [InK]; omega))); simp only [↓sxD, ↓sxP0, ↓sxGd, sxP1, sxF, sxA, sxS, sxK, sxG, sxH, sxU, encs, tys, sxN, sevalprocAttr, ne_eq, decide_true, decide_false])
            refine ⟨n + 1, StLe.auto (by simp only [sxS, sxL, sxF, sxG, sxH, sxU, encs, sxN, sevalprocAttr, ne_eq, decide_true, decide_false] <;> (try simp) <;> (try omega)), ?_, ?_⟩
            · exact ⟨by omega, by rw [show 18 - (n + 1) = 17 - n by omega]; exact hJ⟩
            · omega
        · simp only [↓sxD, ↓sxP0, ↓sxGd, sxP1, sxF, sxA, sxS, sxK, sxG, sxH, sxU, encs, tys, sxN, sevalprocAttr, ne_eq, decide_true, decide_false]
          have hne : n = 18 := by omega
          subst hne
          rw [← hJ]
          exact EndW.fn (by simp only [sxL, sxG, sxH, sxU, encs, kpLL_map, sxN, sevalprocAttr, ne_eq, decide_true, decide_false] <;> (try simp [lsF]) <;> (try omega)) (by simp only [sxL, sxG, sxH, sxU, encs, kpLL_map, sxN, sevalprocAttr, ne_eq, decide_true, decide_false] <;> (try simp) <;> (try omega))
  · have h1 : ¬ (1 ≤ good ∧ good ≤ 17) := by simpa using h1
    rw [show leastV good num den rn rd = (0, 2) by rw [leastV, if_neg h1]]
    simp only [↓sxD, ↓sxP0, ↓sxGd, sxP1, sxF, sxA, sxS, sxK, sxG, sxH, sxU, encs, tys, sxN, sevalprocAttr, ne_eq, decide_true, decide_false]
    exact EndW.fn (by simp only [sxL, sxG, sxH, sxU, encs, kpLL_map, sxN, sevalprocAttr, ne_eq, decide_true, decide_false] <;> (try simp) <;> (try omega)) (by simp only [sxL, sxG, sxH, sxU, encs, kpLL_map, sxN, sevalprocAttr, ne_eq, decide_true, decide_false] <;> (try simp) <;> (try omega))
end Go.Proofs.Ytaagelngbbkllaa
