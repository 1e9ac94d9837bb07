/-
  Chapter 9: the law of orders.
-/
import Derived.Test.YtaagelngbbkllaaVW26
import Derived.Test.YtaagelngbbkllaaVW22
namespace Go.Proofs.Ytaagelngbbkllaa
open Go Go.Vx
set_option linter.unusedSimpArgs false
set_option linter.unusedVariables false
set_option maxRecDepth 20000
theorem ordersLaw_s (c : Cols) (o : List Int) : Ctr Try.prog 6 [cV true true true c, .sl true 1 (o.map eI)] (fun rr => rr = ⟨(.v (.bool (true))), []⟩) := by
  refine Ctr.of (rs := [.tmp 4]) Tok true Try.func6 rfl rfl rfl rfl (by simp [ofDL]) (fun w0 kp => ?_)
  simp only [↓sxD, ↓sxP0, ↓sxGd, sxP1, sxF, sxA, sxS, sxK, sxG, sxH, sxU, encs, tys, sxN, sevalprocAttr, ne_eq, decide_true, decide_false]
  refine CallI.fn (awake_s) (by simp only [sxA, sxL, sxF, sxG, sxH, sxU, encs, sxN, sevalprocAttr, ne_eq, decide_true, decide_false] <;> (try simp) <;> (try rfl)) ?_
  simp only [↓sxD, ↓sxP0, ↓sxGd, sxP1, sxF, sxA, sxS, sxK, sxG, sxH, sxU, encs, tys, sxN, sevalprocAttr, ne_eq, decide_true, decide_false]
  refine CallI.fn (few_s true true true c) (by simp only [sxA, sxL, sxF, sxG, sxH, sxU, encs, sxN, sevalprocAttr, ne_eq, decide_true, decide_false] <;> (try simp) <;> (try rfl)) ?_
  simp only [↓sxD, ↓sxP0, ↓sxGd, sxP1, sxF, sxA, sxS, sxK, sxG, sxH, sxU, encs, tys, sxN, sevalprocAttr, ne_eq, decide_true, decide_false]
  refine BrW.of (fun hf => ?_) (fun hf => ?_)
  · simp only [fewC, Bool.and_eq_true, decide_eq_true_eq, List.all_eq_true] at hf
    obtain ⟨⟨f0, f1, f2⟩, f3⟩ := hf
    have hd : ∀ r ∈ c.dry, r.length ≤ 1000000000 := fun r hr => by have := f3 r hr; omega
    have hcp : c.minutes.length ≤ 1000 ∧ c.dry.length ≤ 1000 ∧ ∀ r ∈ c.dry, r.length ≤ 1000000 := ⟨by omega, by omega, fun r hr => by have := f3 r hr; omega⟩
    simp only [↓sxD, ↓sxP0, ↓sxGd, sxP1, sxF, sxA, sxS, sxK, sxG, sxH, sxU, encs, tys, sxN, sevalprocAttr, ne_eq, decide_true, decide_false]
    refine BrW.dec (fun ho => ?_) (fun ho => ?_)
    · simp only [↓sxD, ↓sxP0, ↓sxGd, sxP1, sxF, sxA, sxS, sxK, sxG, sxH, sxU, encs, tys, sxN, sevalprocAttr, ne_eq, decide_true, decide_false]
      exact EndW.fn (by simp only [sxL, sxG, sxH, sxU, encs, kpLL_map, sxN, sevalprocAttr, ne_eq, decide_true, decide_false] <;> (try simp) <;> (try omega)) (by simp only [sxL, sxG, sxH, sxU, encs, kpLL_map, sxN, sevalprocAttr, ne_eq, decide_true, decide_false] <;> (try simp) <;> (try omega))
    · simp only [↓sxD, ↓sxP0, ↓sxGd, sxP1, sxF, sxA, sxS, sxK, sxG, sxH, sxU, encs, tys, sxN, sevalprocAttr, ne_eq, decide_true, decide_false]
      refine CallI.fn (copyColours_s true true true c hcp) (by simp only [sxA, sxL, sxF, sxG, sxH, sxU, encs, sxN, sevalprocAttr, ne_eq, decide_true, decide_false] <;> (try simp) <;> (try rfl)) ?_
      simp only [↓sxD, ↓sxP0, ↓sxGd, sxP1, sxF, sxA, sxS, sxK, sxG, sxH, sxU, encs, tys, sxN, sevalprocAttr, ne_eq, decide_true, decide_false]
      refine CallI.fn (copyInts_s true o (by omega)) (by simp only [sxA, sxL, sxF, sxG, sxH, sxU, encs, sxN, sevalprocAttr, ne_eq, decide_true, decide_false] <;> (try simp) <;> (try rfl)) ?_
      simp only [↓sxD, ↓sxP0, ↓sxGd, sxP1, sxF, sxA, sxS, sxK, sxG, sxH, sxU, encs, tys, sxN, sevalprocAttr, ne_eq, decide_true, decide_false]
      have c1 := orderMinutes_s true true true true c o hd
      have c2 := checkColoursR_s true true true c hd
      have c3 := checkColours_s true true true c hd
      by_cases h1 : colErr c = 0
      · have hc := colErr_ok h1
        have c4 := checkOrderR_s true c.minutes.length o (by omega)
        rw [h1] at c2 c3
        by_cases h2 : ordErr c.minutes.length o = 0
        · have c5 := orderMinutesR_s true true true true c o hc h2
          rw [h2] at c4
          by_cases h3 : (allE c o).barred = true
          · rw [show ordMin c o = (0, 13) by rw [ordMin, if_pos h1, if_pos h2, if_pos h3]] at c1
            rw [if_pos h3, h3] at c5
            refine CallI.fn (c1) (by simp only [sxA, sxL, sxF, sxG, sxH, sxU, encs, sxN, sevalprocAttr, ne_eq, decide_true, decide_false] <;> (try simp) <;> (try rfl)) ?_
            simp only [↓sxD, ↓sxP0, ↓sxGd, sxP1, sxF, sxA, sxS, sxK, sxG, sxH, sxU, encs, tys, sxN, sevalprocAttr, ne_eq, decide_true, decide_false]
            refine CallI.fn (c2) (by simp only [sxA, sxL, sxF, sxG, sxH, sxU, encs, sxN, sevalprocAttr, ne_eq, decide_true, decide_false] <;> (try simp) <;> (try rfl)) ?_
            simp only [↓sxD, ↓sxP0, ↓sxGd, sxP1, sxF, sxA, sxS, sxK, sxG, sxH, sxU, encs, tys, sxN, sevalprocAttr, ne_eq, decide_true, decide_false]
            refine CallI.fn (copyColours_s true true true c hcp) (by simp only [sxA, sxL, sxF, sxG, sxH, sxU, encs, sxN, sevalprocAttr, ne_eq, decide_true, decide_false] <;> (try simp) <;> (try rfl)) ?_
            simp only [↓sxD, ↓sxP0, ↓sxGd, sxP1, sxF, sxA, sxS, sxK, sxG, sxH, sxU, encs, tys, sxN, sevalprocAttr, ne_eq, decide_true, decide_false]
            refine CallI.fn (c3) (by simp only [sxA, sxL, sxF, sxG, sxH, sxU, encs, sxN, sevalprocAttr, ne_eq, decide_true, decide_false] <;> (try simp) <;> (try rfl)) ?_
            simp only [↓sxD, ↓sxP0, ↓sxGd, sxP1, sxF, sxA, sxS, sxK, sxG, sxH, sxU, encs, tys, sxN, sevalprocAttr, ne_eq, decide_true, decide_false]
            refine BrW.no (by simp) ?_
            simp only [↓sxD, ↓sxP0, ↓sxGd, sxP1, sxF, sxA, sxS, sxK, sxG, sxH, sxU, encs, tys, sxN, sevalprocAttr, ne_eq, decide_true, decide_false]
            refine CallI.fn (c4) (by simp only [sxA, sxL, sxF, sxG, sxH, sxU, encs, sxN, sevalprocAttr, ne_eq, decide_true, decide_false] <;> (try simp) <;> (try rfl)) ?_
            simp only [↓sxD, ↓sxP0, ↓sxGd, sxP1, sxF, sxA, sxS, sxK, sxG, sxH, sxU, encs, tys, sxN, sevalprocAttr, ne_eq, decide_true, decide_false]
            refine BrW.no (by simp) ?_
            simp only [↓sxD, ↓sxP0, ↓sxGd, sxP1, sxF, sxA, sxS, sxK, sxG, sxH, sxU, encs, tys, sxN, sevalprocAttr, ne_eq, decide_true, decide_false]
            refine CallI.fn (c5) (by simp only [sxA, sxL, sxF, sxG, sxH, sxU, encs, sxN, sevalprocAttr, ne_eq, decide_true, decide_false] <;> (try simp) <;> (try rfl)) ?_
            simp only [↓sxD, ↓sxP0, ↓sxGd, sxP1, sxF, sxA, sxS, sxK, sxG, sxH, sxU, encs, tys, sxN, sevalprocAttr, ne_eq, decide_true, decide_false]
            exact EndW.fn (by simp only [sxL, sxG, sxH, sxU, encs, kpLL_map, sxN, sevalprocAttr, ne_eq, decide_true, decide_false] <;> (try simp) <;> (try omega)) (by simp only [sxL, sxG, sxH, sxU, encs, kpLL_map, sxN, sevalprocAttr, ne_eq, decide_true, decide_false] <;> (try simp) <;> (try omega))
          · rw [show ordMin c o = (endB (allE c o), 0) by rw [ordMin, if_pos h1, if_pos h2, if_neg h3]] at c1
            rw [if_neg h3, show (allE c o).barred = false by simpa using h3] at c5
            refine CallI.fn (c1) (by simp only [sxA, sxL, sxF, sxG, sxH, sxU, encs, sxN, sevalprocAttr, ne_eq, decide_true, decide_false] <;> (try simp) <;> (try rfl)) ?_
            simp only [↓sxD, ↓sxP0, ↓sxGd, sxP1, sxF, sxA, sxS, sxK, sxG, sxH, sxU, encs, tys, sxN, sevalprocAttr, ne_eq, decide_true, decide_false]
            refine CallI.fn (c2) (by simp only [sxA, sxL, sxF, sxG, sxH, sxU, encs, sxN, sevalprocAttr, ne_eq, decide_true, decide_false] <;> (try simp) <;> (try rfl)) ?_
            simp only [↓sxD, ↓sxP0, ↓sxGd, sxP1, sxF, sxA, sxS, sxK, sxG, sxH, sxU, encs, tys, sxN, sevalprocAttr, ne_eq, decide_true, decide_false]
            refine CallI.fn (copyColours_s true true true c hcp) (by simp only [sxA, sxL, sxF, sxG, sxH, sxU, encs, sxN, sevalprocAttr, ne_eq, decide_true, decide_false] <;> (try simp) <;> (try rfl)) ?_
            simp only [↓sxD, ↓sxP0, ↓sxGd, sxP1, sxF, sxA, sxS, sxK, sxG, sxH, sxU, encs, tys, sxN, sevalprocAttr, ne_eq, decide_true, decide_false]
            refine CallI.fn (c3) (by simp only [sxA, sxL, sxF, sxG, sxH, sxU, encs, sxN, sevalprocAttr, ne_eq, decide_true, decide_false] <;> (try simp) <;> (try rfl)) ?_
            simp only [↓sxD, ↓sxP0, ↓sxGd, sxP1, sxF, sxA, sxS, sxK, sxG, sxH, sxU, encs, tys, sxN, sevalprocAttr, ne_eq, decide_true, decide_false]
            refine BrW.no (by simp) ?_
            simp only [↓sxD, ↓sxP0, ↓sxGd, sxP1, sxF, sxA, sxS, sxK, sxG, sxH, sxU, encs, tys, sxN, sevalprocAttr, ne_eq, decide_true, decide_false]
            refine CallI.fn (c4) (by simp only [sxA, sxL, sxF, sxG, sxH, sxU, encs, sxN, sevalprocAttr, ne_eq, decide_true, decide_false] <;> (try simp) <;> (try rfl)) ?_
            simp only [↓sxD, ↓sxP0, ↓sxGd, sxP1, sxF, sxA, sxS, sxK, sxG, sxH, sxU, encs, tys, sxN, sevalprocAttr, ne_eq, decide_true, decide_false]
            refine BrW.no (by simp) ?_
            simp only [↓sxD, ↓sxP0, ↓sxGd, sxP1, sxF, sxA, sxS, sxK, sxG, sxH, sxU, encs, tys, sxN, sevalprocAttr, ne_eq, decide_true, decide_false]
            refine CallI.fn (c5) (by simp only [sxA, sxL, sxF, sxG, sxH, sxU, encs, sxN, sevalprocAttr, ne_eq, decide_true, decide_false] <;> (try simp) <;> (try rfl)) ?_
            simp only [↓sxD, ↓sxP0, ↓sxGd, sxP1, sxF, sxA, sxS, sxK, sxG, sxH, sxU, encs, tys, sxN, sevalprocAttr, ne_eq, decide_true, decide_false]
            exact EndW.fn (by simp only [sxL, sxG, sxH, sxU, encs, kpLL_map, sxN, sevalprocAttr, ne_eq, decide_true, decide_false] <;> (try simp) <;> (try omega)) (by simp only [sxL, sxG, sxH, sxU, encs, kpLL_map, sxN, sevalprocAttr, ne_eq, decide_true, decide_false] <;> (try simp) <;> (try omega))
        · rw [show ordMin c o = (0, ordErr c.minutes.length o) by rw [ordMin, if_pos h1, if_neg h2]] at c1
          refine CallI.fn (c1) (by simp only [sxA, sxL, sxF, sxG, sxH, sxU, encs, sxN, sevalprocAttr, ne_eq, decide_true, decide_false] <;> (try simp) <;> (try rfl)) ?_
          simp only [↓sxD, ↓sxP0, ↓sxGd, sxP1, sxF, sxA, sxS, sxK, sxG, sxH, sxU, encs, tys, sxN, sevalprocAttr, ne_eq, decide_true, decide_false]
          refine CallI.fn (c2) (by simp only [sxA, sxL, sxF, sxG, sxH, sxU, encs, sxN, sevalprocAttr, ne_eq, decide_true, decide_false] <;> (try simp) <;> (try rfl)) ?_
          simp only [↓sxD, ↓sxP0, ↓sxGd, sxP1, sxF, sxA, sxS, sxK, sxG, sxH, sxU, encs, tys, sxN, sevalprocAttr, ne_eq, decide_true, decide_false]
          refine CallI.fn (copyColours_s true true true c hcp) (by simp only [sxA, sxL, sxF, sxG, sxH, sxU, encs, sxN, sevalprocAttr, ne_eq, decide_true, decide_false] <;> (try simp) <;> (try rfl)) ?_
          simp only [↓sxD, ↓sxP0, ↓sxGd, sxP1, sxF, sxA, sxS, sxK, sxG, sxH, sxU, encs, tys, sxN, sevalprocAttr, ne_eq, decide_true, decide_false]
          refine CallI.fn (c3) (by simp only [sxA, sxL, sxF, sxG, sxH, sxU, encs, sxN, sevalprocAttr, ne_eq, decide_true, decide_false] <;> (try simp) <;> (try rfl)) ?_
          simp only [↓sxD, ↓sxP0, ↓sxGd, sxP1, sxF, sxA, sxS, sxK, sxG, sxH, sxU, encs, tys, sxN, sevalprocAttr, ne_eq, decide_true, decide_false]
          refine BrW.no (by simp) ?_
          simp only [↓sxD, ↓sxP0, ↓sxGd, sxP1, sxF, sxA, sxS, sxK, sxG, sxH, sxU, encs, tys, sxN, sevalprocAttr, ne_eq, decide_true, decide_false]
          refine CallI.fn (c4) (by simp only [sxA, sxL, sxF, sxG, sxH, sxU, encs, sxN, sevalprocAttr, ne_eq, decide_true, decide_false] <;> (try simp) <;> (try rfl)) ?_
          simp only [↓sxD, ↓sxP0, ↓sxGd, sxP1, sxF, sxA, sxS, sxK, sxG, sxH, sxU, encs, tys, sxN, sevalprocAttr, ne_eq, decide_true, decide_false]
          refine BrW.yes h2 ?_
          simp only [↓sxD, ↓sxP0, ↓sxGd, sxP1, sxF, sxA, sxS, sxK, sxG, sxH, sxU, encs, tys, sxN, sevalprocAttr, ne_eq, decide_true, decide_false]
          exact EndW.fn (by simp only [sxL, sxG, sxH, sxU, encs, kpLL_map, sxN, sevalprocAttr, ne_eq, decide_true, decide_false] <;> (try simp) <;> (try omega)) (by simp only [sxL, sxG, sxH, sxU, encs, kpLL_map, sxN, sevalprocAttr, ne_eq, decide_true, decide_false] <;> (try simp) <;> (try omega))
      · rw [show ordMin c o = (0, colErr c) by rw [ordMin, if_neg h1]] at c1
        refine CallI.fn (c1) (by simp only [sxA, sxL, sxF, sxG, sxH, sxU, encs, sxN, sevalprocAttr, ne_eq, decide_true, decide_false] <;> (try simp) <;> (try rfl)) ?_
        simp only [↓sxD, ↓sxP0, ↓sxGd, sxP1, sxF, sxA, sxS, sxK, sxG, sxH, sxU, encs, tys, sxN, sevalprocAttr, ne_eq, decide_true, decide_false]
        refine CallI.fn (c2) (by simp only [sxA, sxL, sxF, sxG, sxH, sxU, encs, sxN, sevalprocAttr, ne_eq, decide_true, decide_false] <;> (try simp) <;> (try rfl)) ?_
        simp only [↓sxD, ↓sxP0, ↓sxGd, sxP1, sxF, sxA, sxS, sxK, sxG, sxH, sxU, encs, tys, sxN, sevalprocAttr, ne_eq, decide_true, decide_false]
        refine CallI.fn (copyColours_s true true true c hcp) (by simp only [sxA, sxL, sxF, sxG, sxH, sxU, encs, sxN, sevalprocAttr, ne_eq, decide_true, decide_false] <;> (try simp) <;> (try rfl)) ?_
        simp only [↓sxD, ↓sxP0, ↓sxGd, sxP1, sxF, sxA, sxS, sxK, sxG, sxH, sxU, encs, tys, sxN, sevalprocAttr, ne_eq, decide_true, decide_false]
        refine CallI.fn (c3) (by simp only [sxA, sxL, sxF, sxG, sxH, sxU, encs, sxN, sevalprocAttr, ne_eq, decide_true, decide_false] <;> (try simp) <;> (try rfl)) ?_
        simp only [↓sxD, ↓sxP0, ↓sxGd, sxP1, sxF, sxA, sxS, sxK, sxG, sxH, sxU, encs, tys, sxN, sevalprocAttr, ne_eq, decide_true, decide_false]
        refine BrW.no (by simp) ?_
        simp only [↓sxD, ↓sxP0, ↓sxGd, sxP1, sxF, sxA, sxS, sxK, sxG, sxH, sxU, encs, tys, sxN, sevalprocAttr, ne_eq, decide_true, decide_false]
        refine BrW.no h1 ?_
        simp only [↓sxD, ↓sxP0, ↓sxGd, sxP1, sxF, sxA, sxS, sxK, sxG, sxH, sxU, encs, tys, sxN, sevalprocAttr, ne_eq, decide_true, decide_false]
        refine BrW.yes h1 ?_
        simp only [↓sxD, ↓sxP0, ↓sxGd, sxP1, sxF, sxA, sxS, sxK, sxG, sxH, sxU, encs, tys, sxN, sevalprocAttr, ne_eq, decide_true, decide_false]
        exact EndW.fn (by simp only [sxL, sxG, sxH, sxU, encs, kpLL_map, sxN, sevalprocAttr, ne_eq, decide_true, decide_false] <;> (try simp) <;> (try omega)) (by simp only [sxL, sxG, sxH, sxU, encs, kpLL_map, sxN, sevalprocAttr, ne_eq, decide_true, decide_false] <;> (try simp) <;> (try omega))
  · simp only [↓sxD, ↓sxP0, ↓sxGd, sxP1, sxF, sxA, sxS, sxK, sxG, sxH, sxU, encs, tys, sxN, sevalprocAttr, ne_eq, decide_true, decide_false]
    exact EndW.fn (by simp only [sxL, sxG, sxH, sxU, encs, kpLL_map, sxN, sevalprocAttr, ne_eq, decide_true, decide_false] <;> (try simp) <;> (try omega)) (by simp only [sxL, sxG, sxH, sxU, encs, kpLL_map, sxN, sevalprocAttr, ne_eq, decide_true, decide_false] <;> (try simp) <;> (try omega))
end Go.Proofs.Ytaagelngbbkllaa
