/-
  Chapter 6, walks: the law of creep and marks.
-/
import Derived.Test.YtfpkpokkgbobmaaVW14
namespace Go.Proofs.Ytfpkpokkgbobmaa
open Go Go.Vx
set_option linter.unusedSimpArgs false
set_option maxRecDepth 20000
theorem creep_other (leaves th page : Int) (h : (creepS leaves th page).2 = 0) : 1 ≤ leaves ∧ leaves ≤ 64 ∧ 1 ≤ page ∧ page ≤ 2 * leaves ∧ creepS leaves th (if page % 2 = 0 then page - 1 else page + 1) = ((creepS leaves th page).1, 0) := by
  unfold creepS at h ⊢
  by_cases h1 : 1 ≤ leaves ∧ leaves ≤ 64
  · by_cases h2 : 0 ≤ th ∧ th ≤ 10000
    · by_cases h3 : 1 ≤ page ∧ page ≤ 2 * leaves
      · refine ⟨h1.1, h1.2, h3.1, h3.2, ?_⟩
        rw [if_pos h1, if_pos h2, if_pos h1, if_pos h2, if_pos h3]
        have e : ∀ p : Int, 1 ≤ p → (p - 1).tdiv 2 = (p - 1) / 2 := fun p hp => Int.tdiv_eq_ediv_of_nonneg (by omega)
        have e0 : 1 ≤ (if page % 2 = 0 then page - 1 else page + 1) ∧ (if page % 2 = 0 then page - 1 else page + 1) ≤ 2 * leaves ∧ ((if page % 2 = 0 then page - 1 else page + 1) - 1) / 2 = (page - 1) / 2 := by
          split <;> omega
        rw [if_pos ⟨e0.1, e0.2.1⟩, e _ e0.1, e _ h3.1, e0.2.2]
      · simp [h1, h2, h3] at h
    · simp [h1, h2] at h
  · simp [h1] at h
theorem mark_on (s sp m : Int) (h : (markS s sp m).2 = 0) : 0 ≤ (markS s sp m).1 ∧ (markS s sp m).1 ≤ sp - m := by
  unfold markS at h ⊢
  by_cases h1 : 0 ≤ s ∧ s ≤ 4000
  · by_cases h2 : 1 ≤ sp ∧ sp ≤ 4000
    · by_cases h3 : 1 ≤ m ∧ m ≤ sp
      · rw [if_pos h1, if_pos h2, if_pos h3]
        have hq : sp.tdiv m = sp / m := Int.tdiv_eq_ediv_of_nonneg (by omega)
        have hq1 : 1 ≤ sp / m := by rw [Int.le_ediv_iff_mul_le (by omega)]; omega
        have hm : sp / m * m ≤ sp := Int.ediv_mul_le _ (by omega)
        simp only
        rw [hq, Int.tmod_eq_emod_of_nonneg h1.1]
        have a0 := Int.emod_nonneg s (b := sp / m) (by omega)
        have a1 := Int.emod_lt_of_pos s (b := sp / m) (by omega)
        refine ⟨Int.mul_nonneg a0 (by omega), ?_⟩
        have : (s % (sp / m) + 1) * m ≤ sp / m * m := Int.mul_le_mul_of_nonneg_right (by omega) (by omega)
        rw [Int.add_mul] at this
        omega
      · simp [h1, h2, h3] at h
    · simp [h1, h2] at h
  · simp [h1] at h
theorem markS_sp (s sp m : Int) (h : (markS s sp m).2 = 0) : 1 ≤ m ∧ m ≤ sp ∧ sp ≤ 4000 := by
  unfold markS at h
  by_cases h1 : 0 ≤ s ∧ s ≤ 4000
  · by_cases h2 : 1 ≤ sp ∧ sp ≤ 4000
    · by_cases h3 : 1 ≤ m ∧ m ≤ sp
      · exact ⟨h3.1, h3.2, h2.2⟩
      · simp [h1, h2, h3] at h
    · simp [h1, h2] at h
  · simp [h1] at h
theorem marksLaw_s (lv th pg sg sp mk : Int) (b : Bool) (l : List Int) : Ctr Try.prog 5 [.agg [(.v (.int .i64 lv)), (.v (.int .i64 th)), (.v (.int .i64 pg)), (.v (.int .i64 sg)), (.v (.int .i64 sp)), (.v (.int .i64 mk)), .sl b 1 (l.map eI)]] (fun rr => rr = ⟨(.v (.bool (true))), []⟩) := by
  refine Ctr.of (rs := [.tmp 2]) Tok true Try.func5 rfl rfl rfl rfl (by simp [ofDL]) (fun w0 kp => ?_)
  simp only [↓sxD, ↓sxP0, sxP1, sxF, sxA, sxS, sxK, encs, tys, sxN, Nat.reduceAdd, Nat.reduceMul, Nat.reduceEqDiff, Nat.reduceLeDiff, ↓reduceIte, reduceCtorEq, Nat.reduceSub, Nat.reduceBEq, ne_eq, decide_true, decide_false, Int.reduceToNat, Int.reduceEq, Int.reduceLT, Int.reduceLE, Int.reduceNe]
  refine CallI.fn (awake_s) (by simp only [sxA, sxL, sxF, encs, sxN, Nat.reduceAdd, Nat.reduceMul, Nat.reduceEqDiff, Nat.reduceLeDiff, ↓reduceIte, reduceCtorEq, Nat.reduceSub, Nat.reduceBEq, ne_eq, decide_true, decide_false, Int.reduceToNat, Int.reduceEq, Int.reduceLT, Int.reduceLE, Int.reduceNe] <;> (try simp)) ?_
  simp only [↓sxD, ↓sxP0, sxP1, sxF, sxA, sxS, sxK, encs, tys, sxN, Nat.reduceAdd, Nat.reduceMul, Nat.reduceEqDiff, Nat.reduceLeDiff, ↓reduceIte, reduceCtorEq, Nat.reduceSub, Nat.reduceBEq, ne_eq, decide_true, decide_false, Int.reduceToNat, Int.reduceEq, Int.reduceLT, Int.reduceLE, Int.reduceNe]
  refine BrW.dec (fun hn => ?_) (fun hn => ?_)
  · simp only [↓sxD, ↓sxP0, sxP1, sxF, sxA, sxS, sxK, encs, tys, sxN, Nat.reduceAdd, Nat.reduceMul, Nat.reduceEqDiff, Nat.reduceLeDiff, ↓reduceIte, reduceCtorEq, Nat.reduceSub, Nat.reduceBEq, ne_eq, decide_true, decide_false, Int.reduceToNat, Int.reduceEq, Int.reduceLT, Int.reduceLE, Int.reduceNe]
    exact EndW.fn (by simp only [sxL, encs, kpLL_map, sxN, Nat.reduceAdd, Nat.reduceMul, Nat.reduceEqDiff, Nat.reduceLeDiff, ↓reduceIte, reduceCtorEq, Nat.reduceSub, Nat.reduceBEq, ne_eq, decide_true, decide_false, Int.reduceToNat, Int.reduceEq, Int.reduceLT, Int.reduceLE, Int.reduceNe] <;> (try simp) <;> (try omega)) (by simp only [sxL, encs, kpLL_map, sxN, Nat.reduceAdd, Nat.reduceMul, Nat.reduceEqDiff, Nat.reduceLeDiff, ↓reduceIte, reduceCtorEq, Nat.reduceSub, Nat.reduceBEq, ne_eq, decide_true, decide_false, Int.reduceToNat, Int.reduceEq, Int.reduceLT, Int.reduceLE, Int.reduceNe] <;> (try simp) <;> (try omega))
  · simp only [↓sxD, ↓sxP0, sxP1, sxF, sxA, sxS, sxK, encs, tys, sxN, Nat.reduceAdd, Nat.reduceMul, Nat.reduceEqDiff, Nat.reduceLeDiff, ↓reduceIte, reduceCtorEq, Nat.reduceSub, Nat.reduceBEq, ne_eq, decide_true, decide_false, Int.reduceToNat, Int.reduceEq, Int.reduceLT, Int.reduceLE, Int.reduceNe]
    refine CallI.fn (creep_s lv th pg) (by simp only [sxA, sxL, sxF, encs, sxN, Nat.reduceAdd, Nat.reduceMul, Nat.reduceEqDiff, Nat.reduceLeDiff, ↓reduceIte, reduceCtorEq, Nat.reduceSub, Nat.reduceBEq, ne_eq, decide_true, decide_false, Int.reduceToNat, Int.reduceEq, Int.reduceLT, Int.reduceLE, Int.reduceNe] <;> (try simp)) ?_
    simp only [↓sxD, ↓sxP0, sxP1, sxF, sxA, sxS, sxK, encs, tys, sxN, Nat.reduceAdd, Nat.reduceMul, Nat.reduceEqDiff, Nat.reduceLeDiff, ↓reduceIte, reduceCtorEq, Nat.reduceSub, Nat.reduceBEq, ne_eq, decide_true, decide_false, Int.reduceToNat, Int.reduceEq, Int.reduceLT, Int.reduceLE, Int.reduceNe]
    refine CallI.fn (mark_s sg sp mk) (by simp only [sxA, sxL, sxF, encs, sxN, Nat.reduceAdd, Nat.reduceMul, Nat.reduceEqDiff, Nat.reduceLeDiff, ↓reduceIte, reduceCtorEq, Nat.reduceSub, Nat.reduceBEq, ne_eq, decide_true, decide_false, Int.reduceToNat, Int.reduceEq, Int.reduceLT, Int.reduceLE, Int.reduceNe] <;> (try simp)) ?_
    simp only [↓sxD, ↓sxP0, sxP1, sxF, sxA, sxS, sxK, encs, tys, sxN, Nat.reduceAdd, Nat.reduceMul, Nat.reduceEqDiff, Nat.reduceLeDiff, ↓reduceIte, reduceCtorEq, Nat.reduceSub, Nat.reduceBEq, ne_eq, decide_true, decide_false, Int.reduceToNat, Int.reduceEq, Int.reduceLT, Int.reduceLE, Int.reduceNe]
    refine CallI.ctr (copyInts_s b l (by omega)) (by simp only [sxA, sxL, sxF, encs, sxN, Nat.reduceAdd, Nat.reduceMul, Nat.reduceEqDiff, Nat.reduceLeDiff, ↓reduceIte, reduceCtorEq, Nat.reduceSub, Nat.reduceBEq, ne_eq, decide_true, decide_false, Int.reduceToNat, Int.reduceEq, Int.reduceLT, Int.reduceLE, Int.reduceNe] <;> (try simp)) ?_
    rintro _ rfl
    simp only [↓sxD, ↓sxP0, sxP1, sxF, sxA, sxS, sxK, encs, tys, sxN, Nat.reduceAdd, Nat.reduceMul, Nat.reduceEqDiff, Nat.reduceLeDiff, ↓reduceIte, reduceCtorEq, Nat.reduceSub, Nat.reduceBEq, ne_eq, decide_true, decide_false, Int.reduceToNat, Int.reduceEq, Int.reduceLT, Int.reduceLE, Int.reduceNe]
    refine CallI.fn (mis_s false l) (by simp only [sxA, sxL, sxF, encs, sxN, Nat.reduceAdd, Nat.reduceMul, Nat.reduceEqDiff, Nat.reduceLeDiff, ↓reduceIte, reduceCtorEq, Nat.reduceSub, Nat.reduceBEq, ne_eq, decide_true, decide_false, Int.reduceToNat, Int.reduceEq, Int.reduceLT, Int.reduceLE, Int.reduceNe] <;> (try simp)) ?_
    simp only [↓sxD, ↓sxP0, sxP1, sxF, sxA, sxS, sxK, encs, tys, sxN, Nat.reduceAdd, Nat.reduceMul, Nat.reduceEqDiff, Nat.reduceLeDiff, ↓reduceIte, reduceCtorEq, Nat.reduceSub, Nat.reduceBEq, ne_eq, decide_true, decide_false, Int.reduceToNat, Int.reduceEq, Int.reduceLT, Int.reduceLE, Int.reduceNe]
    refine CallI.fn (creepR_s lv th pg) (by simp only [sxA, sxL, sxF, encs, sxN, Nat.reduceAdd, Nat.reduceMul, Nat.reduceEqDiff, Nat.reduceLeDiff, ↓reduceIte, reduceCtorEq, Nat.reduceSub, Nat.reduceBEq, ne_eq, decide_true, decide_false, Int.reduceToNat, Int.reduceEq, Int.reduceLT, Int.reduceLE, Int.reduceNe] <;> (try simp)) ?_
    simp only [↓sxD, ↓sxP0, sxP1, sxF, sxA, sxS, sxK, encs, tys, sxN, Nat.reduceAdd, Nat.reduceMul, Nat.reduceEqDiff, Nat.reduceLeDiff, ↓reduceIte, reduceCtorEq, Nat.reduceSub, Nat.reduceBEq, ne_eq, decide_true, decide_false, Int.reduceToNat, Int.reduceEq, Int.reduceLT, Int.reduceLE, Int.reduceNe]
    refine CallI.fn (markR_s sg sp mk) (by simp only [sxA, sxL, sxF, encs, sxN, Nat.reduceAdd, Nat.reduceMul, Nat.reduceEqDiff, Nat.reduceLeDiff, ↓reduceIte, reduceCtorEq, Nat.reduceSub, Nat.reduceBEq, ne_eq, decide_true, decide_false, Int.reduceToNat, Int.reduceEq, Int.reduceLT, Int.reduceLE, Int.reduceNe] <;> (try simp)) ?_
    simp only [↓sxD, ↓sxP0, sxP1, sxF, sxA, sxS, sxK, encs, tys, sxN, Nat.reduceAdd, Nat.reduceMul, Nat.reduceEqDiff, Nat.reduceLeDiff, ↓reduceIte, reduceCtorEq, Nat.reduceSub, Nat.reduceBEq, ne_eq, decide_true, decide_false, Int.reduceToNat, Int.reduceEq, Int.reduceLT, Int.reduceLE, Int.reduceNe]
    refine CallI.fn (misR_s b l) (by simp only [sxA, sxL, sxF, encs, sxN, Nat.reduceAdd, Nat.reduceMul, Nat.reduceEqDiff, Nat.reduceLeDiff, ↓reduceIte, reduceCtorEq, Nat.reduceSub, Nat.reduceBEq, ne_eq, decide_true, decide_false, Int.reduceToNat, Int.reduceEq, Int.reduceLT, Int.reduceLE, Int.reduceNe] <;> (try simp)) ?_
    simp only [↓sxD, ↓sxP0, sxP1, sxF, sxA, sxS, sxK, encs, tys, sxN, Nat.reduceAdd, Nat.reduceMul, Nat.reduceEqDiff, Nat.reduceLeDiff, ↓reduceIte, reduceCtorEq, Nat.reduceSub, Nat.reduceBEq, ne_eq, decide_true, decide_false, Int.reduceToNat, Int.reduceEq, Int.reduceLT, Int.reduceLE, Int.reduceNe]
    refine BrW.ff (by simp) ?_
    simp only [↓sxD, ↓sxP0, sxP1, sxF, sxA, sxS, sxK, encs, tys, sxN, Nat.reduceAdd, Nat.reduceMul, Nat.reduceEqDiff, Nat.reduceLeDiff, ↓reduceIte, reduceCtorEq, Nat.reduceSub, Nat.reduceBEq, ne_eq, decide_true, decide_false, Int.reduceToNat, Int.reduceEq, Int.reduceLT, Int.reduceLE, Int.reduceNe]
    refine BrW.ff (by simp) ?_
    simp only [↓sxD, ↓sxP0, sxP1, sxF, sxA, sxS, sxK, encs, tys, sxN, Nat.reduceAdd, Nat.reduceMul, Nat.reduceEqDiff, Nat.reduceLeDiff, ↓reduceIte, reduceCtorEq, Nat.reduceSub, Nat.reduceBEq, ne_eq, decide_true, decide_false, Int.reduceToNat, Int.reduceEq, Int.reduceLT, Int.reduceLE, Int.reduceNe]
    refine BrW.ff (by simp) ?_
    simp only [↓sxD, ↓sxP0, sxP1, sxF, sxA, sxS, sxK, encs, tys, sxN, Nat.reduceAdd, Nat.reduceMul, Nat.reduceEqDiff, Nat.reduceLeDiff, ↓reduceIte, reduceCtorEq, Nat.reduceSub, Nat.reduceBEq, ne_eq, decide_true, decide_false, Int.reduceToNat, Int.reduceEq, Int.reduceLT, Int.reduceLE, Int.reduceNe]
    refine BrW.ff (by simp) ?_
    simp only [↓sxD, ↓sxP0, sxP1, sxF, sxA, sxS, sxK, encs, tys, sxN, Nat.reduceAdd, Nat.reduceMul, Nat.reduceEqDiff, Nat.reduceLeDiff, ↓reduceIte, reduceCtorEq, Nat.reduceSub, Nat.reduceBEq, ne_eq, decide_true, decide_false, Int.reduceToNat, Int.reduceEq, Int.reduceLT, Int.reduceLE, Int.reduceNe]
    refine BrW.ff (by simp) ?_
    simp only [↓sxD, ↓sxP0, sxP1, sxF, sxA, sxS, sxK, encs, tys, sxN, Nat.reduceAdd, Nat.reduceMul, Nat.reduceEqDiff, Nat.reduceLeDiff, ↓reduceIte, reduceCtorEq, Nat.reduceSub, Nat.reduceBEq, ne_eq, decide_true, decide_false, Int.reduceToNat, Int.reduceEq, Int.reduceLT, Int.reduceLE, Int.reduceNe]
    refine BrW.ff (by simp) ?_
    simp only [↓sxD, ↓sxP0, sxP1, sxF, sxA, sxS, sxK, encs, tys, sxN, Nat.reduceAdd, Nat.reduceMul, Nat.reduceEqDiff, Nat.reduceLeDiff, ↓reduceIte, reduceCtorEq, Nat.reduceSub, Nat.reduceBEq, ne_eq, decide_true, decide_false, Int.reduceToNat, Int.reduceEq, Int.reduceLT, Int.reduceLE, Int.reduceNe]
    refine BrW.dec (fun hm => ?_) (fun hm => ?_)
    · have hm2 := mark_on sg sp mk hm
      have hm3 := markS_sp sg sp mk hm
      simp only [↓sxD, ↓sxP0, sxP1, sxF, sxA, sxS, sxK, encs, tys, sxN, Nat.reduceAdd, Nat.reduceMul, Nat.reduceEqDiff, Nat.reduceLeDiff, ↓reduceIte, reduceCtorEq, Nat.reduceSub, Nat.reduceBEq, ne_eq, decide_true, decide_false, Int.reduceToNat, Int.reduceEq, Int.reduceLT, Int.reduceLE, Int.reduceNe]
      (with_reducible refine Vc.go ?_ fun _ => ?_); focus (first | omega | (simp only [InK]; omega) | (simp [InK]; done) | (simp [InK]; omega))
      simp only [↓sxD, ↓sxP0, sxP1, sxF, sxA, sxS, sxK, encs, tys, sxN, Nat.reduceAdd, Nat.reduceMul, Nat.reduceEqDiff, Nat.reduceLeDiff, ↓reduceIte, reduceCtorEq, Nat.reduceSub, Nat.reduceBEq, ne_eq, decide_true, decide_false, Int.reduceToNat, Int.reduceEq, Int.reduceLT, Int.reduceLE, Int.reduceNe]
      refine CallI.fn (withinB_s (markS sg sp mk).1 0 (sp - mk)) (by simp only [sxA, sxL, sxF, encs, sxN, Nat.reduceAdd, Nat.reduceMul, Nat.reduceEqDiff, Nat.reduceLeDiff, ↓reduceIte, reduceCtorEq, Nat.reduceSub, Nat.reduceBEq, ne_eq, decide_true, decide_false, Int.reduceToNat, Int.reduceEq, Int.reduceLT, Int.reduceLE, Int.reduceNe] <;> (try simp)) ?_
      simp only [↓sxD, ↓sxP0, sxP1, sxF, sxA, sxS, sxK, encs, tys, sxN, Nat.reduceAdd, Nat.reduceMul, Nat.reduceEqDiff, Nat.reduceLeDiff, ↓reduceIte, reduceCtorEq, Nat.reduceSub, Nat.reduceBEq, ne_eq, decide_true, decide_false, Int.reduceToNat, Int.reduceEq, Int.reduceLT, Int.reduceLE, Int.reduceNe]
      refine BrW.yes hm2 ?_
      simp only [↓sxD, ↓sxP0, sxP1, sxF, sxA, sxS, sxK, encs, tys, sxN, Nat.reduceAdd, Nat.reduceMul, Nat.reduceEqDiff, Nat.reduceLeDiff, ↓reduceIte, reduceCtorEq, Nat.reduceSub, Nat.reduceBEq, ne_eq, decide_true, decide_false, Int.reduceToNat, Int.reduceEq, Int.reduceLT, Int.reduceLE, Int.reduceNe]
      refine BrW.dec (fun hc => ?_) (fun hc => ?_)
      · simp only [↓sxD, ↓sxP0, sxP1, sxF, sxA, sxS, sxK, encs, tys, sxN, Nat.reduceAdd, Nat.reduceMul, Nat.reduceEqDiff, Nat.reduceLeDiff, ↓reduceIte, reduceCtorEq, Nat.reduceSub, Nat.reduceBEq, ne_eq, decide_true, decide_false, Int.reduceToNat, Int.reduceEq, Int.reduceLT, Int.reduceLE, Int.reduceNe]
        exact EndW.fn (by simp only [sxL, encs, kpLL_map, sxN, Nat.reduceAdd, Nat.reduceMul, Nat.reduceEqDiff, Nat.reduceLeDiff, ↓reduceIte, reduceCtorEq, Nat.reduceSub, Nat.reduceBEq, ne_eq, decide_true, decide_false, Int.reduceToNat, Int.reduceEq, Int.reduceLT, Int.reduceLE, Int.reduceNe] <;> (try simp) <;> (try omega)) (by simp only [sxL, encs, kpLL_map, sxN, Nat.reduceAdd, Nat.reduceMul, Nat.reduceEqDiff, Nat.reduceLeDiff, ↓reduceIte, reduceCtorEq, Nat.reduceSub, Nat.reduceBEq, ne_eq, decide_true, decide_false, Int.reduceToNat, Int.reduceEq, Int.reduceLT, Int.reduceLE, Int.reduceNe] <;> (try simp) <;> (try omega))
      · have hc1 : (creepS lv th pg).2 = 0 := Decidable.not_not.1 hc
        have ho := creep_other lv th pg hc1
        have hr : pg.tmod 2 = pg % 2 := Int.tmod_eq_emod_of_nonneg (by omega)
        simp only [↓sxD, ↓sxP0, sxP1, sxF, sxA, sxS, sxK, encs, tys, sxN, Nat.reduceAdd, Nat.reduceMul, Nat.reduceEqDiff, Nat.reduceLeDiff, ↓reduceIte, reduceCtorEq, Nat.reduceSub, Nat.reduceBEq, ne_eq, decide_true, decide_false, Int.reduceToNat, Int.reduceEq, Int.reduceLT, Int.reduceLE, Int.reduceNe]
        repeat ((with_reducible refine Vc.go ?_ fun _ => ?_); (focus (first | omega | (simp only [InK]; omega) | (simp [InK]; done) | (simp [InK]; omega))); simp only [↓sxD, ↓sxP0, sxP1, sxF, sxA, sxS, sxK, encs, tys, sxN, Nat.reduceAdd, Nat.reduceMul, Nat.reduceEqDiff, Nat.reduceLeDiff, ↓reduceIte, reduceCtorEq, Nat.reduceSub, Nat.reduceBEq, ne_eq, decide_true, decide_false, Int.reduceToNat, Int.reduceEq, Int.reduceLT, Int.reduceLE, Int.reduceNe])
        rw [hr]
        refine BrW.dec (fun hp => ?_) (fun hp => ?_)
        · simp only [↓sxD, ↓sxP0, sxP1, sxF, sxA, sxS, sxK, encs, tys, sxN, Nat.reduceAdd, Nat.reduceMul, Nat.reduceEqDiff, Nat.reduceLeDiff, ↓reduceIte, reduceCtorEq, Nat.reduceSub, Nat.reduceBEq, ne_eq, decide_true, decide_false, Int.reduceToNat, Int.reduceEq, Int.reduceLT, Int.reduceLE, Int.reduceNe]
          repeat ((with_reducible refine Vc.go ?_ fun _ => ?_); (focus (first | omega | (simp only [InK]; omega) | (simp [InK]; done) | (simp [InK]; omega))); simp only [↓sxD, ↓sxP0, sxP1, sxF, sxA, sxS, sxK, encs, tys, sxN, Nat.reduceAdd, Nat.reduceMul, Nat.reduceEqDiff, Nat.reduceLeDiff, ↓reduceIte, reduceCtorEq, Nat.reduceSub, Nat.reduceBEq, ne_eq, decide_true, decide_false, Int.reduceToNat, Int.reduceEq, Int.reduceLT, Int.reduceLE, Int.reduceNe])
          have ho2 := ho.2.2.2.2
          rw [if_pos hp] at ho2
          refine CallI.fn (creep_s lv th (pg - 1)) (by simp only [sxA, sxL, sxF, encs, sxN, Nat.reduceAdd, Nat.reduceMul, Nat.reduceEqDiff, Nat.reduceLeDiff, ↓reduceIte, reduceCtorEq, Nat.reduceSub, Nat.reduceBEq, ne_eq, decide_true, decide_false, Int.reduceToNat, Int.reduceEq, Int.reduceLT, Int.reduceLE, Int.reduceNe] <;> (try simp)) ?_
          simp only [↓sxD, ↓sxP0, sxP1, sxF, sxA, sxS, sxK, encs, tys, sxN, Nat.reduceAdd, Nat.reduceMul, Nat.reduceEqDiff, Nat.reduceLeDiff, ↓reduceIte, reduceCtorEq, Nat.reduceSub, Nat.reduceBEq, ne_eq, decide_true, decide_false, Int.reduceToNat, Int.reduceEq, Int.reduceLT, Int.reduceLE, Int.reduceNe]
          rw [ho2]
          simp only [↓sxD, ↓sxP0, sxP1, sxF, sxA, sxS, sxK, encs, tys, sxN, Nat.reduceAdd, Nat.reduceMul, Nat.reduceEqDiff, Nat.reduceLeDiff, ↓reduceIte, reduceCtorEq, Nat.reduceSub, Nat.reduceBEq, ne_eq, decide_true, decide_false, Int.reduceToNat, Int.reduceEq, Int.reduceLT, Int.reduceLE, Int.reduceNe]
          exact EndW.fn (by simp only [sxL, encs, kpLL_map, sxN, Nat.reduceAdd, Nat.reduceMul, Nat.reduceEqDiff, Nat.reduceLeDiff, ↓reduceIte, reduceCtorEq, Nat.reduceSub, Nat.reduceBEq, ne_eq, decide_true, decide_false, Int.reduceToNat, Int.reduceEq, Int.reduceLT, Int.reduceLE, Int.reduceNe] <;> (try simp) <;> (try omega)) (by simp only [sxL, encs, kpLL_map, sxN, Nat.reduceAdd, Nat.reduceMul, Nat.reduceEqDiff, Nat.reduceLeDiff, ↓reduceIte, reduceCtorEq, Nat.reduceSub, Nat.reduceBEq, ne_eq, decide_true, decide_false, Int.reduceToNat, Int.reduceEq, Int.reduceLT, Int.reduceLE, Int.reduceNe] <;> (try simp) <;> (try omega))
        · simp only [↓sxD, ↓sxP0, sxP1, sxF, sxA, sxS, sxK, encs, tys, sxN, Nat.reduceAdd, Nat.reduceMul, Nat.reduceEqDiff, Nat.reduceLeDiff, ↓reduceIte, reduceCtorEq, Nat.reduceSub, Nat.reduceBEq, ne_eq, decide_true, decide_false, Int.reduceToNat, Int.reduceEq, Int.reduceLT, Int.reduceLE, Int.reduceNe]
          have ho2 := ho.2.2.2.2
          rw [if_neg hp] at ho2
          refine CallI.fn (creep_s lv th (pg + 1)) (by simp only [sxA, sxL, sxF, encs, sxN, Nat.reduceAdd, Nat.reduceMul, Nat.reduceEqDiff, Nat.reduceLeDiff, ↓reduceIte, reduceCtorEq, Nat.reduceSub, Nat.reduceBEq, ne_eq, decide_true, decide_false, Int.reduceToNat, Int.reduceEq, Int.reduceLT, Int.reduceLE, Int.reduceNe] <;> (try simp)) ?_
          simp only [↓sxD, ↓sxP0, sxP1, sxF, sxA, sxS, sxK, encs, tys, sxN, Nat.reduceAdd, Nat.reduceMul, Nat.reduceEqDiff, Nat.reduceLeDiff, ↓reduceIte, reduceCtorEq, Nat.reduceSub, Nat.reduceBEq, ne_eq, decide_true, decide_false, Int.reduceToNat, Int.reduceEq, Int.reduceLT, Int.reduceLE, Int.reduceNe]
          rw [ho2]
          simp only [↓sxD, ↓sxP0, sxP1, sxF, sxA, sxS, sxK, encs, tys, sxN, Nat.reduceAdd, Nat.reduceMul, Nat.reduceEqDiff, Nat.reduceLeDiff, ↓reduceIte, reduceCtorEq, Nat.reduceSub, Nat.reduceBEq, ne_eq, decide_true, decide_false, Int.reduceToNat, Int.reduceEq, Int.reduceLT, Int.reduceLE, Int.reduceNe]
          exact EndW.fn (by simp only [sxL, encs, kpLL_map, sxN, Nat.reduceAdd, Nat.reduceMul, Nat.reduceEqDiff, Nat.reduceLeDiff, ↓reduceIte, reduceCtorEq, Nat.reduceSub, Nat.reduceBEq, ne_eq, decide_true, decide_false, Int.reduceToNat, Int.reduceEq, Int.reduceLT, Int.reduceLE, Int.reduceNe] <;> (try simp) <;> (try omega)) (by simp only [sxL, encs, kpLL_map, sxN, Nat.reduceAdd, Nat.reduceMul, Nat.reduceEqDiff, Nat.reduceLeDiff, ↓reduceIte, reduceCtorEq, Nat.reduceSub, Nat.reduceBEq, ne_eq, decide_true, decide_false, Int.reduceToNat, Int.reduceEq, Int.reduceLT, Int.reduceLE, Int.reduceNe] <;> (try simp) <;> (try omega))
    · simp only [↓sxD, ↓sxP0, sxP1, sxF, sxA, sxS, sxK, encs, tys, sxN, Nat.reduceAdd, Nat.reduceMul, Nat.reduceEqDiff, Nat.reduceLeDiff, ↓reduceIte, reduceCtorEq, Nat.reduceSub, Nat.reduceBEq, ne_eq, decide_true, decide_false, Int.reduceToNat, Int.reduceEq, Int.reduceLT, Int.reduceLE, Int.reduceNe]
      refine BrW.dec (fun hc => ?_) (fun hc => ?_)
      · simp only [↓sxD, ↓sxP0, sxP1, sxF, sxA, sxS, sxK, encs, tys, sxN, Nat.reduceAdd, Nat.reduceMul, Nat.reduceEqDiff, Nat.reduceLeDiff, ↓reduceIte, reduceCtorEq, Nat.reduceSub, Nat.reduceBEq, ne_eq, decide_true, decide_false, Int.reduceToNat, Int.reduceEq, Int.reduceLT, Int.reduceLE, Int.reduceNe]
        exact EndW.fn (by simp only [sxL, encs, kpLL_map, sxN, Nat.reduceAdd, Nat.reduceMul, Nat.reduceEqDiff, Nat.reduceLeDiff, ↓reduceIte, reduceCtorEq, Nat.reduceSub, Nat.reduceBEq, ne_eq, decide_true, decide_false, Int.reduceToNat, Int.reduceEq, Int.reduceLT, Int.reduceLE, Int.reduceNe] <;> (try simp) <;> (try omega)) (by simp only [sxL, encs, kpLL_map, sxN, Nat.reduceAdd, Nat.reduceMul, Nat.reduceEqDiff, Nat.reduceLeDiff, ↓reduceIte, reduceCtorEq, Nat.reduceSub, Nat.reduceBEq, ne_eq, decide_true, decide_false, Int.reduceToNat, Int.reduceEq, Int.reduceLT, Int.reduceLE, Int.reduceNe] <;> (try simp) <;> (try omega))
      · have hc1 : (creepS lv th pg).2 = 0 := Decidable.not_not.1 hc
        have ho := creep_other lv th pg hc1
        have hr : pg.tmod 2 = pg % 2 := Int.tmod_eq_emod_of_nonneg (by omega)
        simp only [↓sxD, ↓sxP0, sxP1, sxF, sxA, sxS, sxK, encs, tys, sxN, Nat.reduceAdd, Nat.reduceMul, Nat.reduceEqDiff, Nat.reduceLeDiff, ↓reduceIte, reduceCtorEq, Nat.reduceSub, Nat.reduceBEq, ne_eq, decide_true, decide_false, Int.reduceToNat, Int.reduceEq, Int.reduceLT, Int.reduceLE, Int.reduceNe]
        repeat ((with_reducible refine Vc.go ?_ fun _ => ?_); (focus (first | omega | (simp only [InK]; omega) | (simp [InK]; done) | (simp [InK]; omega))); simp only [↓sxD, ↓sxP0, sxP1, sxF, sxA, sxS, sxK, encs, tys, sxN, Nat.reduceAdd, Nat.reduceMul, Nat.reduceEqDiff, Nat.reduceLeDiff, ↓reduceIte, reduceCtorEq, Nat.reduceSub, Nat.reduceBEq, ne_eq, decide_true, decide_false, Int.reduceToNat, Int.reduceEq, Int.reduceLT, Int.reduceLE, Int.reduceNe])
        rw [hr]
        refine BrW.dec (fun hp => ?_) (fun hp => ?_)
        · simp only [↓sxD, ↓sxP0, sxP1, sxF, sxA, sxS, sxK, encs, tys, sxN, Nat.reduceAdd, Nat.reduceMul, Nat.reduceEqDiff, Nat.reduceLeDiff, ↓reduceIte, reduceCtorEq, Nat.reduceSub, Nat.reduceBEq, ne_eq, decide_true, decide_false, Int.reduceToNat, Int.reduceEq, Int.reduceLT, Int.reduceLE, Int.reduceNe]
          repeat ((with_reducible refine Vc.go ?_ fun _ => ?_); (focus (first | omega | (simp only [InK]; omega) | (simp [InK]; done) | (simp [InK]; omega))); simp only [↓sxD, ↓sxP0, sxP1, sxF, sxA, sxS, sxK, encs, tys, sxN, Nat.reduceAdd, Nat.reduceMul, Nat.reduceEqDiff, Nat.reduceLeDiff, ↓reduceIte, reduceCtorEq, Nat.reduceSub, Nat.reduceBEq, ne_eq, decide_true, decide_false, Int.reduceToNat, Int.reduceEq, Int.reduceLT, Int.reduceLE, Int.reduceNe])
          have ho2 := ho.2.2.2.2
          rw [if_pos hp] at ho2
          refine CallI.fn (creep_s lv th (pg - 1)) (by simp only [sxA, sxL, sxF, encs, sxN, Nat.reduceAdd, Nat.reduceMul, Nat.reduceEqDiff, Nat.reduceLeDiff, ↓reduceIte, reduceCtorEq, Nat.reduceSub, Nat.reduceBEq, ne_eq, decide_true, decide_false, Int.reduceToNat, Int.reduceEq, Int.reduceLT, Int.reduceLE, Int.reduceNe] <;> (try simp)) ?_
          simp only [↓sxD, ↓sxP0, sxP1, sxF, sxA, sxS, sxK, encs, tys, sxN, Nat.reduceAdd, Nat.reduceMul, Nat.reduceEqDiff, Nat.reduceLeDiff, ↓reduceIte, reduceCtorEq, Nat.reduceSub, Nat.reduceBEq, ne_eq, decide_true, decide_false, Int.reduceToNat, Int.reduceEq, Int.reduceLT, Int.reduceLE, Int.reduceNe]
          rw [ho2]
          simp only [↓sxD, ↓sxP0, sxP1, sxF, sxA, sxS, sxK, encs, tys, sxN, Nat.reduceAdd, Nat.reduceMul, Nat.reduceEqDiff, Nat.reduceLeDiff, ↓reduceIte, reduceCtorEq, Nat.reduceSub, Nat.reduceBEq, ne_eq, decide_true, decide_false, Int.reduceToNat, Int.reduceEq, Int.reduceLT, Int.reduceLE, Int.reduceNe]
          exact EndW.fn (by simp only [sxL, encs, kpLL_map, sxN, Nat.reduceAdd, Nat.reduceMul, Nat.reduceEqDiff, Nat.reduceLeDiff, ↓reduceIte, reduceCtorEq, Nat.reduceSub, Nat.reduceBEq, ne_eq, decide_true, decide_false, Int.reduceToNat, Int.reduceEq, Int.reduceLT, Int.reduceLE, Int.reduceNe] <;> (try simp) <;> (try omega)) (by simp only [sxL, encs, kpLL_map, sxN, Nat.reduceAdd, Nat.reduceMul, Nat.reduceEqDiff, Nat.reduceLeDiff, ↓reduceIte, reduceCtorEq, Nat.reduceSub, Nat.reduceBEq, ne_eq, decide_true, decide_false, Int.reduceToNat, Int.reduceEq, Int.reduceLT, Int.reduceLE, Int.reduceNe] <;> (try simp) <;> (try omega))
        · simp only [↓sxD, ↓sxP0, sxP1, sxF, sxA, sxS, sxK, encs, tys, sxN, Nat.reduceAdd, Nat.reduceMul, Nat.reduceEqDiff, Nat.reduceLeDiff, ↓reduceIte, reduceCtorEq, Nat.reduceSub, Nat.reduceBEq, ne_eq, decide_true, decide_false, Int.reduceToNat, Int.reduceEq, Int.reduceLT, Int.reduceLE, Int.reduceNe]
          have ho2 := ho.2.2.2.2
          rw [if_neg hp] at ho2
          refine CallI.fn (creep_s lv th (pg + 1)) (by simp only [sxA, sxL, sxF, encs, sxN, Nat.reduceAdd, Nat.reduceMul, Nat.reduceEqDiff, Nat.reduceLeDiff, ↓reduceIte, reduceCtorEq, Nat.reduceSub, Nat.reduceBEq, ne_eq, decide_true, decide_false, Int.reduceToNat, Int.reduceEq, Int.reduceLT, Int.reduceLE, Int.reduceNe] <;> (try simp)) ?_
          simp only [↓sxD, ↓sxP0, sxP1, sxF, sxA, sxS, sxK, encs, tys, sxN, Nat.reduceAdd, Nat.reduceMul, Nat.reduceEqDiff, Nat.reduceLeDiff, ↓reduceIte, reduceCtorEq, Nat.reduceSub, Nat.reduceBEq, ne_eq, decide_true, decide_false, Int.reduceToNat, Int.reduceEq, Int.reduceLT, Int.reduceLE, Int.reduceNe]
          rw [ho2]
          simp only [↓sxD, ↓sxP0, sxP1, sxF, sxA, sxS, sxK, encs, tys, sxN, Nat.reduceAdd, Nat.reduceMul, Nat.reduceEqDiff, Nat.reduceLeDiff, ↓reduceIte, reduceCtorEq, Nat.reduceSub, Nat.reduceBEq, ne_eq, decide_true, decide_false, Int.reduceToNat, Int.reduceEq, Int.reduceLT, Int.reduceLE, Int.reduceNe]
          exact EndW.fn (by simp only [sxL, encs, kpLL_map, sxN, Nat.reduceAdd, Nat.reduceMul, Nat.reduceEqDiff, Nat.reduceLeDiff, ↓reduceIte, reduceCtorEq, Nat.reduceSub, Nat.reduceBEq, ne_eq, decide_true, decide_false, Int.reduceToNat, Int.reduceEq, Int.reduceLT, Int.reduceLE, Int.reduceNe] <;> (try simp) <;> (try omega)) (by simp only [sxL, encs, kpLL_map, sxN, Nat.reduceAdd, Nat.reduceMul, Nat.reduceEqDiff, Nat.reduceLeDiff, ↓reduceIte, reduceCtorEq, Nat.reduceSub, Nat.reduceBEq, ne_eq, decide_true, decide_false, Int.reduceToNat, Int.reduceEq, Int.reduceLT, Int.reduceLE, Int.reduceNe] <;> (try simp) <;> (try omega))
end Go.Proofs.Ytfpkpokkgbobmaa
