/-
  Chapter 9: the law of runs.
-/
import Derived.Test.YtaagelngbbkllaaVW22
namespace Go.Proofs.Ytaagelngbbkllaa
open Go Go.Vx
set_option linter.unusedSimpArgs false
set_option linter.unusedVariables false
set_option maxRecDepth 20000
def more (x : Run) : Run := { x with given := min (x.given + 1) 2000 }
theorem runErr_w {x : Run} (h : runErr x = 0) : x.wanted ≤ x.given := by
  unfold runErr at h
  split at h
  · split at h
    · omega
    · omega
  · omega
theorem runErr_more {x : Run} (h : runErr x = 0) : runErr (more x) = 0 := by
  have ho := runErr_ok h
  have g0 := ho.g0
  have g1 := ho.g1
  unfold runErr at h ⊢
  split at h
  · rename_i h1
    rw [if_pos (show isNm (more x).job = true from h1)]
    split at h
    · rename_i h2
      rw [if_pos (by simp only [more]; omega)]
      exact h
    · omega
  · omega
theorem estim_more {x : Run} {p : Prices} (h : RunOk x) (hp : PrOk p) : estim x p ≤ estim (more x) p := by
  have hg : x.given ≤ (more x).given := by have := h.g1; simp only [more]; omega
  have h0 := h.h0
  have hn := h.n0
  unfold estim
  have a1 : x.given * p.sheet ≤ (more x).given * p.sheet := Int.mul_le_mul_of_nonneg_right hg hp.1.1
  have a2 : runMin x ≤ runMin (more x) := by
    unfold runMin
    have b1 : 60 * x.given * (x.cols.length : Int) ≤ 60 * (more x).given * ((more x).cols.length : Int) := Int.mul_le_mul_of_nonneg_right (by omega) (by omega)
    have b2 : (60 * x.given * (x.cols.length : Int) + x.hour - 1) / x.hour ≤ (60 * (more x).given * ((more x).cols.length : Int) + (more x).hour - 1) / (more x).hour := Int.ediv_le_ediv (by omega) (by show _ ≤ _ + x.hour - 1; omega)
    exact Int.add_le_add (Int.le_refl _) b2
  have a3 : runMin x * p.hour ≤ runMin (more x) * p.hour := Int.mul_le_mul_of_nonneg_right a2 hp.2.2.1
  have a4 : (runMin x * p.hour + 60 - 1) / 60 ≤ (runMin (more x) * p.hour + 60 - 1) / 60 := Int.ediv_le_ediv (by omega) (by omega)
  have a5 : ((more x).cols.length : Int) = x.cols.length := rfl
  rw [a5]
  omega
theorem runsLaw_s (x : Run) (p : Prices) : Ctr Try.prog 3 [rV true x, prV p] (fun rr => rr = ⟨(.v (.bool (true))), []⟩) := by
  have encs := And.intro encs prV_eq
  refine Ctr.of (rs := [.tmp 4]) Tok true Try.func3 rfl rfl rfl rfl (by simp [ofDL]) (fun w0 kp => ?_)
  simp only [↓sxD, ↓sxP0, ↓sxGd, sxP1, sxF, sxA, sxS, sxK, sxG, sxH, sxU, encs, tys, sxN, sevalprocAttr, ne_eq, decide_true, decide_false]
  refine CallI.fn (awake_s) (by simp only [sxA, sxL, sxF, sxG, sxH, sxU, encs, sxN, sevalprocAttr, ne_eq, decide_true, decide_false] <;> (try simp) <;> (try rfl)) ?_
  simp only [↓sxD, ↓sxP0, ↓sxGd, sxP1, sxF, sxA, sxS, sxK, sxG, sxH, sxU, encs, tys, sxN, sevalprocAttr, ne_eq, decide_true, decide_false]
  refine CallI.fn (short_s true x) (by simp only [sxA, sxL, sxF, sxG, sxH, sxU, encs, sxN, sevalprocAttr, ne_eq, decide_true, decide_false] <;> (try simp) <;> (try rfl)) ?_
  simp only [↓sxD, ↓sxP0, ↓sxGd, sxP1, sxF, sxA, sxS, sxK, sxG, sxH, sxU, encs, tys, sxN, sevalprocAttr, ne_eq, decide_true, decide_false]
  refine BrW.of (fun hs => ?_) (fun hs => ?_)
  · have hcl : x.cols.length ≤ 1000000 := by
      simp only [shortR, Bool.and_eq_true, decide_eq_true_eq] at hs
      omega
    simp only [↓sxD, ↓sxP0, ↓sxGd, sxP1, sxF, sxA, sxS, sxK, sxG, sxH, sxU, encs, tys, sxN, sevalprocAttr, ne_eq, decide_true, decide_false]
    refine CallI.fn (copyRun_s true x hcl) (by simp only [sxA, sxL, sxF, sxG, sxH, sxU, encs, sxN, sevalprocAttr, ne_eq, decide_true, decide_false] <;> (try simp) <;> (try rfl)) ?_
    simp only [↓sxD, ↓sxP0, ↓sxGd, sxP1, sxF, sxA, sxS, sxK, sxG, sxH, sxU, encs, tys, sxN, sevalprocAttr, ne_eq, decide_true, decide_false]
    by_cases h0 : runErr x = 0
    · have ho := runErr_ok h0
      have g0 := ho.g0
      have g1 := ho.g1
      have c1 := runMinutes_s true x
      rw [if_pos h0, h0] at c1
      have c3 := checkRunR_s true x
      have c4 := checkRun_s true x
      rw [h0] at c3 c4
      refine CallI.fn (c1) (by simp only [sxA, sxL, sxF, sxG, sxH, sxU, encs, sxN, sevalprocAttr, ne_eq, decide_true, decide_false] <;> (try simp) <;> (try rfl)) ?_
      simp only [↓sxD, ↓sxP0, ↓sxGd, sxP1, sxF, sxA, sxS, sxK, sxG, sxH, sxU, encs, tys, sxN, sevalprocAttr, ne_eq, decide_true, decide_false]
      refine DrawW.plan Tok mixed (.q 0 <| .q 2 <| .e 1 [2] <| .e 3 [] <| .q 4 <| .q 5 <| .q 6 <| .q 7 <| .q 8 <| .done) (by kernel_rfl) (by kernel_rfl) ?_
      simp only [↓sxD, ↓sxP0, ↓sxGd, sxP1, sxF, sxA, sxS, sxK, sxG, sxH, sxU, encs, tys, sxN, sevalprocAttr, ne_eq, decide_true, decide_false]
      refine CallI.fn (copyRun_s true x hcl) (by simp only [sxA, sxL, sxF, sxG, sxH, sxU, encs, sxN, sevalprocAttr, ne_eq, decide_true, decide_false] <;> (try simp) <;> (try rfl)) ?_
      simp only [↓sxD, ↓sxP0, ↓sxGd, sxP1, sxF, sxA, sxS, sxK, sxG, sxH, sxU, encs, tys, sxN, sevalprocAttr, ne_eq, decide_true, decide_false]
      by_cases hp : PrOk p
      · have c2 := estimate_s true x p
        rw [if_pos ⟨h0, hp⟩, if_pos h0, if_pos hp] at c2
        obtain ⟨p1, p2, p3⟩ := hp
        refine CallI.fn (c2) (by simp only [sxA, sxL, sxF, sxG, sxH, sxU, encs, sxN, sevalprocAttr, ne_eq, decide_true, decide_false] <;> (try simp) <;> (try rfl)) ?_
        simp only [↓sxD, ↓sxP0, ↓sxGd, sxP1, sxF, sxA, sxS, sxK, sxG, sxH, sxU, encs, tys, sxN, sevalprocAttr, ne_eq, decide_true, decide_false]
        refine CallI.fn (c3) (by simp only [sxA, sxL, sxF, sxG, sxH, sxU, encs, sxN, sevalprocAttr, ne_eq, decide_true, decide_false] <;> (try simp) <;> (try rfl)) ?_
        simp only [↓sxD, ↓sxP0, ↓sxGd, sxP1, sxF, sxA, sxS, sxK, sxG, sxH, sxU, encs, tys, sxN, sevalprocAttr, ne_eq, decide_true, decide_false]
        refine CallI.fn (copyRun_s true x hcl) (by simp only [sxA, sxL, sxF, sxG, sxH, sxU, encs, sxN, sevalprocAttr, ne_eq, decide_true, decide_false] <;> (try simp) <;> (try rfl)) ?_
        simp only [↓sxD, ↓sxP0, ↓sxGd, sxP1, sxF, sxA, sxS, sxK, sxG, sxH, sxU, encs, tys, sxN, sevalprocAttr, ne_eq, decide_true, decide_false]
        refine CallI.fn (c4) (by simp only [sxA, sxL, sxF, sxG, sxH, sxU, encs, sxN, sevalprocAttr, ne_eq, decide_true, decide_false] <;> (try simp) <;> (try rfl)) ?_
        simp only [↓sxD, ↓sxP0, ↓sxGd, sxP1, sxF, sxA, sxS, sxK, sxG, sxH, sxU, encs, tys, sxN, sevalprocAttr, ne_eq, decide_true, decide_false]
        refine BrW.no (by simp) ?_
        simp only [↓sxD, ↓sxP0, ↓sxGd, sxP1, sxF, sxA, sxS, sxK, sxG, sxH, sxU, encs, tys, sxN, sevalprocAttr, ne_eq, decide_true, decide_false]
        refine BrW.no (by simp) ?_
        simp only [↓sxD, ↓sxP0, ↓sxGd, sxP1, sxF, sxA, sxS, sxK, sxG, sxH, sxU, encs, tys, sxN, sevalprocAttr, ne_eq, decide_true, decide_false]
        refine BrW.no (by simp) ?_
        simp only [↓sxD, ↓sxP0, ↓sxGd, sxP1, sxF, sxA, sxS, sxK, sxG, sxH, sxU, encs, tys, sxN, sevalprocAttr, ne_eq, decide_true, decide_false]
        refine CallI.fn (runMinutesR_s true x ho) (by simp only [sxA, sxL, sxF, sxG, sxH, sxU, encs, sxN, sevalprocAttr, ne_eq, decide_true, decide_false] <;> (try simp) <;> (try rfl)) ?_
        simp only [↓sxD, ↓sxP0, ↓sxGd, sxP1, sxF, sxA, sxS, sxK, sxG, sxH, sxU, encs, tys, sxN, sevalprocAttr, ne_eq, decide_true, decide_false]
        refine BrW.no (by simp) ?_
        simp only [↓sxD, ↓sxP0, ↓sxGd, sxP1, sxF, sxA, sxS, sxK, sxG, sxH, sxU, encs, tys, sxN, sevalprocAttr, ne_eq, decide_true, decide_false]
        refine CallI.fn (isPrice_s p.sheet) (by simp only [sxA, sxL, sxF, sxG, sxH, sxU, encs, sxN, sevalprocAttr, ne_eq, decide_true, decide_false] <;> (try simp) <;> (try rfl)) ?_
        simp only [↓sxD, ↓sxP0, ↓sxGd, sxP1, sxF, sxA, sxS, sxK, sxG, sxH, sxU, encs, tys, sxN, sevalprocAttr, ne_eq, decide_true, decide_false]
        refine BrW.tt (decide_eq_true p1) ?_
        simp only [↓sxD, ↓sxP0, ↓sxGd, sxP1, sxF, sxA, sxS, sxK, sxG, sxH, sxU, encs, tys, sxN, sevalprocAttr, ne_eq, decide_true, decide_false]
        refine CallI.fn (isPrice_s p.colour) (by simp only [sxA, sxL, sxF, sxG, sxH, sxU, encs, sxN, sevalprocAttr, ne_eq, decide_true, decide_false] <;> (try simp) <;> (try rfl)) ?_
        simp only [↓sxD, ↓sxP0, ↓sxGd, sxP1, sxF, sxA, sxS, sxK, sxG, sxH, sxU, encs, tys, sxN, sevalprocAttr, ne_eq, decide_true, decide_false]
        refine BrW.tt (decide_eq_true p2) ?_
        simp only [↓sxD, ↓sxP0, ↓sxGd, sxP1, sxF, sxA, sxS, sxK, sxG, sxH, sxU, encs, tys, sxN, sevalprocAttr, ne_eq, decide_true, decide_false]
        refine CallI.fn (isPrice_s p.hour) (by simp only [sxA, sxL, sxF, sxG, sxH, sxU, encs, sxN, sevalprocAttr, ne_eq, decide_true, decide_false] <;> (try simp) <;> (try rfl)) ?_
        simp only [↓sxD, ↓sxP0, ↓sxGd, sxP1, sxF, sxA, sxS, sxK, sxG, sxH, sxU, encs, tys, sxN, sevalprocAttr, ne_eq, decide_true, decide_false]
        refine BrW.tt (decide_eq_true p3) ?_
        simp only [↓sxD, ↓sxP0, ↓sxGd, sxP1, sxF, sxA, sxS, sxK, sxG, sxH, sxU, encs, tys, sxN, sevalprocAttr, ne_eq, decide_true, decide_false]
        refine CallI.fn (copyRun_s true x hcl) (by simp only [sxA, sxL, sxF, sxG, sxH, sxU, encs, sxN, sevalprocAttr, ne_eq, decide_true, decide_false] <;> (try simp) <;> (try rfl)) ?_
        simp only [↓sxD, ↓sxP0, ↓sxGd, sxP1, sxF, sxA, sxS, sxK, sxG, sxH, sxU, encs, tys, sxN, sevalprocAttr, ne_eq, decide_true, decide_false]
        repeat ((with_reducible refine Vc.go ?_ fun _ => ?_); (focus (first | omega | (simp only [InK]; omega) | (simp [InK]; done) | (simp [InK]; omega))); simp only [↓sxD, ↓sxP0, ↓sxGd, sxP1, sxF, sxA, sxS, sxK, sxG, sxH, sxU, encs, tys, sxN, sevalprocAttr, ne_eq, decide_true, decide_false])
        have c5 := estimate_s true (more x) p
        have hm := runErr_more h0
        rw [if_pos ⟨hm, ⟨p1, p2, p3⟩⟩, if_pos hm, if_pos ⟨p1, p2, p3⟩] at c5
        have em := estim_more ho ⟨p1, p2, p3⟩
        rw [show rV true (more x) = .agg [.v (.string x.job), .v (.int .i64 x.day), .v (.int .i64 x.wanted), .v (.int .i64 (min (x.given + 1) 2000)), .sl true 1 (x.cols.map eS), .v (.int .i64 x.ready), .v (.int .i64 x.hour)] from rfl] at c5
        refine CallI.fn (c5) (by simp only [sxA, sxL, sxF, sxG, sxH, sxU, encs, sxN, sevalprocAttr, ne_eq, decide_true, decide_false] <;> (try simp) <;> (try rfl)) ?_
        simp only [↓sxD, ↓sxP0, ↓sxGd, sxP1, sxF, sxA, sxS, sxK, sxG, sxH, sxU, encs, tys, sxN, sevalprocAttr, ne_eq, decide_true, decide_false]
        refine CallI.fn (estimateR_s true x p ho ⟨p1, p2, p3⟩) (by simp only [sxA, sxL, sxF, sxG, sxH, sxU, encs, sxN, sevalprocAttr, ne_eq, decide_true, decide_false] <;> (try simp) <;> (try rfl)) ?_
        simp only [↓sxD, ↓sxP0, ↓sxGd, sxP1, sxF, sxA, sxS, sxK, sxG, sxH, sxU, encs, tys, sxN, sevalprocAttr, ne_eq, decide_true, decide_false]
        rw [decide_eq_true em]
        exact EndW.fn (by simp only [sxL, sxG, sxH, sxU, encs, kpLL_map, sxN, sevalprocAttr, ne_eq, decide_true, decide_false] <;> (try simp) <;> (try omega)) (by simp only [sxL, sxG, sxH, sxU, encs, kpLL_map, sxN, sevalprocAttr, ne_eq, decide_true, decide_false] <;> (try simp) <;> (try omega))
      · have c2 := estimate_s true x p
        rw [if_neg (fun h => hp h.2), if_pos h0, if_neg hp] at c2
        refine CallI.fn (c2) (by simp only [sxA, sxL, sxF, sxG, sxH, sxU, encs, sxN, sevalprocAttr, ne_eq, decide_true, decide_false] <;> (try simp) <;> (try rfl)) ?_
        simp only [↓sxD, ↓sxP0, ↓sxGd, sxP1, sxF, sxA, sxS, sxK, sxG, sxH, sxU, encs, tys, sxN, sevalprocAttr, ne_eq, decide_true, decide_false]
        refine CallI.fn (c3) (by simp only [sxA, sxL, sxF, sxG, sxH, sxU, encs, sxN, sevalprocAttr, ne_eq, decide_true, decide_false] <;> (try simp) <;> (try rfl)) ?_
        simp only [↓sxD, ↓sxP0, ↓sxGd, sxP1, sxF, sxA, sxS, sxK, sxG, sxH, sxU, encs, tys, sxN, sevalprocAttr, ne_eq, decide_true, decide_false]
        refine CallI.fn (copyRun_s true x hcl) (by simp only [sxA, sxL, sxF, sxG, sxH, sxU, encs, sxN, sevalprocAttr, ne_eq, decide_true, decide_false] <;> (try simp) <;> (try rfl)) ?_
        simp only [↓sxD, ↓sxP0, ↓sxGd, sxP1, sxF, sxA, sxS, sxK, sxG, sxH, sxU, encs, tys, sxN, sevalprocAttr, ne_eq, decide_true, decide_false]
        refine CallI.fn (c4) (by simp only [sxA, sxL, sxF, sxG, sxH, sxU, encs, sxN, sevalprocAttr, ne_eq, decide_true, decide_false] <;> (try simp) <;> (try rfl)) ?_
        simp only [↓sxD, ↓sxP0, ↓sxGd, sxP1, sxF, sxA, sxS, sxK, sxG, sxH, sxU, encs, tys, sxN, sevalprocAttr, ne_eq, decide_true, decide_false]
        refine BrW.no (by simp) ?_
        simp only [↓sxD, ↓sxP0, ↓sxGd, sxP1, sxF, sxA, sxS, sxK, sxG, sxH, sxU, encs, tys, sxN, sevalprocAttr, ne_eq, decide_true, decide_false]
        refine BrW.no (by simp) ?_
        simp only [↓sxD, ↓sxP0, ↓sxGd, sxP1, sxF, sxA, sxS, sxK, sxG, sxH, sxU, encs, tys, sxN, sevalprocAttr, ne_eq, decide_true, decide_false]
        refine BrW.no (by simp) ?_
        simp only [↓sxD, ↓sxP0, ↓sxGd, sxP1, sxF, sxA, sxS, sxK, sxG, sxH, sxU, encs, tys, sxN, sevalprocAttr, ne_eq, decide_true, decide_false]
        refine CallI.fn (runMinutesR_s true x ho) (by simp only [sxA, sxL, sxF, sxG, sxH, sxU, encs, sxN, sevalprocAttr, ne_eq, decide_true, decide_false] <;> (try simp) <;> (try rfl)) ?_
        simp only [↓sxD, ↓sxP0, ↓sxGd, sxP1, sxF, sxA, sxS, sxK, sxG, sxH, sxU, encs, tys, sxN, sevalprocAttr, ne_eq, decide_true, decide_false]
        refine BrW.no (by simp) ?_
        simp only [↓sxD, ↓sxP0, ↓sxGd, sxP1, sxF, sxA, sxS, sxK, sxG, sxH, sxU, encs, tys, sxN, sevalprocAttr, ne_eq, decide_true, decide_false]
        refine CallI.fn (isPrice_s p.sheet) (by simp only [sxA, sxL, sxF, sxG, sxH, sxU, encs, sxN, sevalprocAttr, ne_eq, decide_true, decide_false] <;> (try simp) <;> (try rfl)) ?_
        simp only [↓sxD, ↓sxP0, ↓sxGd, sxP1, sxF, sxA, sxS, sxK, sxG, sxH, sxU, encs, tys, sxN, sevalprocAttr, ne_eq, decide_true, decide_false]
        refine BrW.of (fun q1 => ?_) (fun q1 => ?_)
        · simp only [↓sxD, ↓sxP0, ↓sxGd, sxP1, sxF, sxA, sxS, sxK, sxG, sxH, sxU, encs, tys, sxN, sevalprocAttr, ne_eq, decide_true, decide_false]
          refine CallI.fn (isPrice_s p.colour) (by simp only [sxA, sxL, sxF, sxG, sxH, sxU, encs, sxN, sevalprocAttr, ne_eq, decide_true, decide_false] <;> (try simp) <;> (try rfl)) ?_
          simp only [↓sxD, ↓sxP0, ↓sxGd, sxP1, sxF, sxA, sxS, sxK, sxG, sxH, sxU, encs, tys, sxN, sevalprocAttr, ne_eq, decide_true, decide_false]
          refine BrW.of (fun q2 => ?_) (fun q2 => ?_)
          · simp only [↓sxD, ↓sxP0, ↓sxGd, sxP1, sxF, sxA, sxS, sxK, sxG, sxH, sxU, encs, tys, sxN, sevalprocAttr, ne_eq, decide_true, decide_false]
            refine CallI.fn (isPrice_s p.hour) (by simp only [sxA, sxL, sxF, sxG, sxH, sxU, encs, sxN, sevalprocAttr, ne_eq, decide_true, decide_false] <;> (try simp) <;> (try rfl)) ?_
            simp only [↓sxD, ↓sxP0, ↓sxGd, sxP1, sxF, sxA, sxS, sxK, sxG, sxH, sxU, encs, tys, sxN, sevalprocAttr, ne_eq, decide_true, decide_false]
            refine BrW.of (fun q3 => ?_) (fun q3 => ?_)
            · exact (hp ⟨by simpa using q1, by simpa using q2, by simpa using q3⟩).elim
            · simp only [↓sxD, ↓sxP0, ↓sxGd, sxP1, sxF, sxA, sxS, sxK, sxG, sxH, sxU, encs, tys, sxN, sevalprocAttr, ne_eq, decide_true, decide_false]
              exact EndW.fn (by simp only [sxL, sxG, sxH, sxU, encs, kpLL_map, sxN, sevalprocAttr, ne_eq, decide_true, decide_false] <;> (try simp) <;> (try omega)) (by simp only [sxL, sxG, sxH, sxU, encs, kpLL_map, sxN, sevalprocAttr, ne_eq, decide_true, decide_false] <;> (try simp) <;> (try omega))
          · simp only [↓sxD, ↓sxP0, ↓sxGd, sxP1, sxF, sxA, sxS, sxK, sxG, sxH, sxU, encs, tys, sxN, sevalprocAttr, ne_eq, decide_true, decide_false]
            exact EndW.fn (by simp only [sxL, sxG, sxH, sxU, encs, kpLL_map, sxN, sevalprocAttr, ne_eq, decide_true, decide_false] <;> (try simp) <;> (try omega)) (by simp only [sxL, sxG, sxH, sxU, encs, kpLL_map, sxN, sevalprocAttr, ne_eq, decide_true, decide_false] <;> (try simp) <;> (try omega))
        · simp only [↓sxD, ↓sxP0, ↓sxGd, sxP1, sxF, sxA, sxS, sxK, sxG, sxH, sxU, encs, tys, sxN, sevalprocAttr, ne_eq, decide_true, decide_false]
          exact EndW.fn (by simp only [sxL, sxG, sxH, sxU, encs, kpLL_map, sxN, sevalprocAttr, ne_eq, decide_true, decide_false] <;> (try simp) <;> (try omega)) (by simp only [sxL, sxG, sxH, sxU, encs, kpLL_map, sxN, sevalprocAttr, ne_eq, decide_true, decide_false] <;> (try simp) <;> (try omega))
    · have c1 := runMinutes_s true x
      rw [if_neg h0] at c1
      have c2 := estimate_s true x p
      rw [if_neg (fun h => h0 h.1), if_neg h0] at c2
      refine CallI.fn (c1) (by simp only [sxA, sxL, sxF, sxG, sxH, sxU, encs, sxN, sevalprocAttr, ne_eq, decide_true, decide_false] <;> (try simp) <;> (try rfl)) ?_
      simp only [↓sxD, ↓sxP0, ↓sxGd, sxP1, sxF, sxA, sxS, sxK, sxG, sxH, sxU, encs, tys, sxN, sevalprocAttr, ne_eq, decide_true, decide_false]
      refine DrawW.plan Tok mixed (.q 0 <| .q 2 <| .e 1 [2] <| .e 3 [] <| .q 4 <| .q 5 <| .q 6 <| .q 7 <| .q 8 <| .done) (by kernel_rfl) (by kernel_rfl) ?_
      simp only [↓sxD, ↓sxP0, ↓sxGd, sxP1, sxF, sxA, sxS, sxK, sxG, sxH, sxU, encs, tys, sxN, sevalprocAttr, ne_eq, decide_true, decide_false]
      refine CallI.fn (copyRun_s true x hcl) (by simp only [sxA, sxL, sxF, sxG, sxH, sxU, encs, sxN, sevalprocAttr, ne_eq, decide_true, decide_false] <;> (try simp) <;> (try rfl)) ?_
      simp only [↓sxD, ↓sxP0, ↓sxGd, sxP1, sxF, sxA, sxS, sxK, sxG, sxH, sxU, encs, tys, sxN, sevalprocAttr, ne_eq, decide_true, decide_false]
      refine CallI.fn (c2) (by simp only [sxA, sxL, sxF, sxG, sxH, sxU, encs, sxN, sevalprocAttr, ne_eq, decide_true, decide_false] <;> (try simp) <;> (try rfl)) ?_
      simp only [↓sxD, ↓sxP0, ↓sxGd, sxP1, sxF, sxA, sxS, sxK, sxG, sxH, sxU, encs, tys, sxN, sevalprocAttr, ne_eq, decide_true, decide_false]
      refine CallI.fn (checkRunR_s true x) (by simp only [sxA, sxL, sxF, sxG, sxH, sxU, encs, sxN, sevalprocAttr, ne_eq, decide_true, decide_false] <;> (try simp) <;> (try rfl)) ?_
      simp only [↓sxD, ↓sxP0, ↓sxGd, sxP1, sxF, sxA, sxS, sxK, sxG, sxH, sxU, encs, tys, sxN, sevalprocAttr, ne_eq, decide_true, decide_false]
      refine CallI.fn (copyRun_s true x hcl) (by simp only [sxA, sxL, sxF, sxG, sxH, sxU, encs, sxN, sevalprocAttr, ne_eq, decide_true, decide_false] <;> (try simp) <;> (try rfl)) ?_
      simp only [↓sxD, ↓sxP0, ↓sxGd, sxP1, sxF, sxA, sxS, sxK, sxG, sxH, sxU, encs, tys, sxN, sevalprocAttr, ne_eq, decide_true, decide_false]
      refine CallI.fn (checkRun_s true x) (by simp only [sxA, sxL, sxF, sxG, sxH, sxU, encs, sxN, sevalprocAttr, ne_eq, decide_true, decide_false] <;> (try simp) <;> (try rfl)) ?_
      simp only [↓sxD, ↓sxP0, ↓sxGd, sxP1, sxF, sxA, sxS, sxK, sxG, sxH, sxU, encs, tys, sxN, sevalprocAttr, ne_eq, decide_true, decide_false]
      refine BrW.dec (fun he => ?_) (fun he => ?_)
      · exact absurd trivial he
      · simp only [↓sxD, ↓sxP0, ↓sxGd, sxP1, sxF, sxA, sxS, sxK, sxG, sxH, sxU, encs, tys, sxN, sevalprocAttr, ne_eq, decide_true, decide_false]
        refine BrW.dec (fun h1 => ?_) (fun h1 => ?_)
        · simp only [↓sxD, ↓sxP0, ↓sxGd, sxP1, sxF, sxA, sxS, sxK, sxG, sxH, sxU, encs, tys, sxN, sevalprocAttr, ne_eq, decide_true, decide_false]
          exact EndW.fn (by simp only [sxL, sxG, sxH, sxU, encs, kpLL_map, sxN, sevalprocAttr, ne_eq, decide_true, decide_false] <;> (try simp) <;> (try omega)) (by simp only [sxL, sxG, sxH, sxU, encs, kpLL_map, sxN, sevalprocAttr, ne_eq, decide_true, decide_false] <;> (try simp) <;> (try omega))
        · exact absurd h1 (by omega)
  · simp only [↓sxD, ↓sxP0, ↓sxGd, sxP1, sxF, sxA, sxS, sxK, sxG, sxH, sxU, encs, tys, sxN, sevalprocAttr, ne_eq, decide_true, decide_false]
    exact EndW.fn (by simp only [sxL, sxG, sxH, sxU, encs, kpLL_map, sxN, sevalprocAttr, ne_eq, decide_true, decide_false] <;> (try simp) <;> (try omega)) (by simp only [sxL, sxG, sxH, sxU, encs, kpLL_map, sxN, sevalprocAttr, ne_eq, decide_true, decide_false] <;> (try simp) <;> (try omega))
end Go.Proofs.Ytaagelngbbkllaa
