/-
  Chapter 8, walks: one mark over another one.
-/
import Derived.Test.YtenohgpackcjbaaVW30
namespace Go.Proofs.Ytenohgpackcjbaa
open Go Go.Vx
set_option linter.unusedSimpArgs false
set_option linter.unusedVariables false
set_option maxRecDepth 20000
def ovP (x y : Mk) : Mk × Int := ((swapF (orderP (invM y) x)).1.1, (swapF (orderP (invM y) x)).2)
theorem over_s (x y : Mk) (hx : inR x = true) (hy : inR y = true) : Ctr Try.prog 84 [mV x, mV y] (fun rr => rr = ⟨.tup [mV (ovP x y).1, (.v (.int .i64 ((ovP x y).2)))], []⟩) := by
  have encs := And.intro encs prE
  have hS := swapped_s (invM y) x hy hx
  unfold ovP
  generalize swapF (orderP (invM y) x) = w at hS ⊢
  obtain ⟨⟨u, v⟩, e⟩ := w
  simp only at hS ⊢
  refine Ctr.of (rs := [.cell 4 24, .tmp 5]) Tok true Try.func84 rfl rfl rfl rfl (by simp [ofDL]) (fun w0 kp => ?_)
  simp only [↓sx0, sx1, encs, tys, sxR, sevalprocAttr]
  refine DrawW.plan Tok mixed (.q 0 <| .q 2 <| .e2 1 [2] (.e2 3 [] (.q 4 <| .q 5 <| .q 6 <| .e 7 [0, 2] <| .e 8 [] <| .q 9 <| .done) 7 [0, 2] (.e 3 [] <| .q 4 <| .q 5 <| .q 6 <| .e 8 [] <| .q 9 <| .done)) 7 [0, 2] (.e 1 [2] <| .e 3 [] <| .q 4 <| .q 5 <| .q 6 <| .e 8 [] <| .q 9 <| .done)) (by kernel_rfl) (by kernel_rfl) ?_
  simp only [↓sx0, sx1, encs, tys, sxR, sevalprocAttr]
  repeat' (first | (with_reducible refine And.intro ?_ ?_) | (refine CallI.fn (inverse_s y) (by simp only [sx3, encs, sxR, sevalprocAttr] <;> (try simp) <;> (try rfl)) ?_; (try simp only [↓sx0, sx1, encs, tys, sxR, sevalprocAttr])) | (refine CallI.fn (hS) (by simp only [sx3, encs, sxR, sevalprocAttr] <;> (try simp) <;> (try rfl)) ?_; (try simp only [↓sx0, sx1, encs, tys, sxR, sevalprocAttr])))
  all_goals (
    skip
    repeat ((with_reducible refine Vc.go trivial fun _ => ?_); simp only [↓sx0, sx1, encs, tys, sxR, sevalprocAttr])
    exact EndW.fn (by simp only [sx4, encs, kpLL_map, sxR, sevalprocAttr] <;> (try simp) <;> (try omega)) (by simp only [sx4, encs, kpLL_map, sxR, sevalprocAttr] <;> (try simp) <;> (try omega)) )
/-- whether both come in at the same place. -/
def plB (x y : Mk) : Bool := (decide (x.part = y.part) && decide (x.word = y.word)) && ((decide (x.mark = 2) && (decide (y.mark = 2) || decide (y.mark = 5))) || (decide (y.mark = 2) && decide (x.mark = 5)))
def ovR (x y : Mk) : Mk × Int := if plB x y = true then (x, 13) else ovP x y
set_option maxHeartbeats 8000000 in
theorem overR_s (x y : Mk) (hx : mkErr x = 0) (hy : mkErr y = 0) : Ctr Try.prog 85 [mV x, mV y] (fun rr => rr = ⟨.tup [mV (ovR x y).1, (.v (.int .i64 ((ovR x y).2)))], []⟩) := by
  have encs := And.intro encs prE
  have hS := SwappedR_s (invM y) x (mkErr_inv hy) hx
  have hno : plB x y = false → ovR x y = ((swapF (orderP (invM y) x)).1.1, (swapF (orderP (invM y) x)).2) := fun h => by rw [ovR, if_neg (by rw [h]; simp)]; rfl
  have hyes : plB x y = true → ovR x y = (x, 13) := fun h => by rw [ovR, if_pos h]
  generalize swapF (orderP (invM y) x) = w at hS hno
  obtain ⟨⟨u, v⟩, e⟩ := w
  simp only at hS hno
  refine Ctr.of (rs := [.cell 4 24, .tmp 5]) Tok true Try.func85 rfl rfl rfl rfl (by simp [ofDL]) (fun w0 kp => ?_)
  simp only [↓sx0, sx1, encs, tys, sxR, sevalprocAttr]
  by_cases hp : x.part = y.part
  · repeat ((with_reducible refine BrW.yes hp ?_); simp only [↓sx0, sx1, encs, tys, sxR, sevalprocAttr])
    by_cases hw : x.word = y.word
    · have hB : plB x y = ((decide (x.mark = 2) && (decide (y.mark = 2) || decide (y.mark = 5))) || (decide (y.mark = 2) && decide (x.mark = 5))) := by rw [plB, hp, hw]; simp
      have hpw := eq_true hw
      have encs := And.intro encs hpw
      simp only [↓sx0, sx1, encs, tys, sxR, sevalprocAttr]
      by_cases q1 : x.mark = 2
      · by_cases q2 : y.mark = 2
        · repeat ((first | (with_reducible refine BrW.yes (by omega) ?_) | (with_reducible refine BrW.no (by omega) ?_)); (try simp only [↓sx0, sx1, encs, tys, sxR, sevalprocAttr]))
          rw [hyes (by rw [hB]; simp; omega)]
          exact EndW.fn (by simp only [sx4, encs, kpLL_map, sxR, sevalprocAttr] <;> (try simp) <;> (try omega)) (by simp only [sx4, encs, kpLL_map, sxR, sevalprocAttr] <;> (try simp) <;> (try omega))
        · by_cases q3 : y.mark = 5
          · repeat ((first | (with_reducible refine BrW.yes (by omega) ?_) | (with_reducible refine BrW.no (by omega) ?_)); (try simp only [↓sx0, sx1, encs, tys, sxR, sevalprocAttr]))
            rw [hyes (by rw [hB]; simp; omega)]
            exact EndW.fn (by simp only [sx4, encs, kpLL_map, sxR, sevalprocAttr] <;> (try simp) <;> (try omega)) (by simp only [sx4, encs, kpLL_map, sxR, sevalprocAttr] <;> (try simp) <;> (try omega))
          · repeat ((first | (with_reducible refine BrW.yes (by omega) ?_) | (with_reducible refine BrW.no (by omega) ?_)); (try simp only [↓sx0, sx1, encs, tys, sxR, sevalprocAttr]))
            rw [hno (by rw [hB]; simp; omega)]
            refine DrawW.plan Tok mixed (.q 0 <| .q 2 <| .e3 1 [2] (.e3 3 [] (.q 4 <| .q 5 <| .q 6 <| .q 7 <| .e2 8 [0, 2] (.e 9 [0, 2] <| .e 10 [] <| .e 11 [] <| .q 12 <| .done) 9 [0, 2] (.e 8 [0, 2] <| .e 10 [] <| .e 11 [] <| .q 12 <| .done)) 8 [0, 2] (.e2 3 [] (.q 4 <| .q 5 <| .q 6 <| .q 7 <| .e 9 [0, 2] <| .e 10 [] <| .e 11 [] <| .q 12 <| .done) 9 [0, 2] (.e 3 [] <| .q 4 <| .q 5 <| .q 6 <| .q 7 <| .e 10 [] <| .e 11 [] <| .q 12 <| .done)) 9 [0, 2] (.e2 3 [] (.q 4 <| .q 5 <| .q 6 <| .q 7 <| .e 8 [0, 2] <| .e 10 [] <| .e 11 [] <| .q 12 <| .done) 8 [0, 2] (.e 3 [] <| .q 4 <| .q 5 <| .q 6 <| .q 7 <| .e 10 [] <| .e 11 [] <| .q 12 <| .done))) 8 [0, 2] (.e2 1 [2] (.e2 3 [] (.q 4 <| .q 5 <| .q 6 <| .q 7 <| .e 9 [0, 2] <| .e 10 [] <| .e 11 [] <| .q 12 <| .done) 9 [0, 2] (.e 3 [] <| .q 4 <| .q 5 <| .q 6 <| .q 7 <| .e 10 [] <| .e 11 [] <| .q 12 <| .done)) 9 [0, 2] (.e 1 [2] <| .e 3 [] <| .q 4 <| .q 5 <| .q 6 <| .q 7 <| .e 10 [] <| .e 11 [] <| .q 12 <| .done)) 9 [0, 2] (.e2 1 [2] (.e2 3 [] (.q 4 <| .q 5 <| .q 6 <| .q 7 <| .e 8 [0, 2] <| .e 10 [] <| .e 11 [] <| .q 12 <| .done) 8 [0, 2] (.e 3 [] <| .q 4 <| .q 5 <| .q 6 <| .q 7 <| .e 10 [] <| .e 11 [] <| .q 12 <| .done)) 8 [0, 2] (.e 1 [2] <| .e 3 [] <| .q 4 <| .q 5 <| .q 6 <| .q 7 <| .e 10 [] <| .e 11 [] <| .q 12 <| .done))) (by kernel_rfl) (by kernel_rfl) ?_
            simp only [↓sx0, sx1, encs, tys, sxR, sevalprocAttr]
            repeat' (first | (with_reducible refine And.intro ?_ ?_) | (refine CallI.fn (inverseR_s y) (by simp only [sx3, encs, sxR, sevalprocAttr] <;> (try simp) <;> (try rfl)) ?_; (try simp only [↓sx0, sx1, encs, tys, sxR, sevalprocAttr])) | (refine CallI.fn (hS) (by simp only [sx3, encs, sxR, sevalprocAttr] <;> (try simp) <;> (try rfl)) ?_; (try simp only [↓sx0, sx1, encs, tys, sxR, sevalprocAttr])))
            all_goals (
              skip
              exact EndW.fn (by simp only [sx4, encs, kpLL_map, sxR, sevalprocAttr] <;> (try simp) <;> (try omega)) (by simp only [sx4, encs, kpLL_map, sxR, sevalprocAttr] <;> (try simp) <;> (try omega)) )
      · by_cases q2 : y.mark = 2
        · by_cases q4 : x.mark = 5
          · repeat ((first | (with_reducible refine BrW.yes (by omega) ?_) | (with_reducible refine BrW.no (by omega) ?_)); (try simp only [↓sx0, sx1, encs, tys, sxR, sevalprocAttr]))
            rw [hyes (by rw [hB]; simp; omega)]
            exact EndW.fn (by simp only [sx4, encs, kpLL_map, sxR, sevalprocAttr] <;> (try simp) <;> (try omega)) (by simp only [sx4, encs, kpLL_map, sxR, sevalprocAttr] <;> (try simp) <;> (try omega))
          · repeat ((first | (with_reducible refine BrW.yes (by omega) ?_) | (with_reducible refine BrW.no (by omega) ?_)); (try simp only [↓sx0, sx1, encs, tys, sxR, sevalprocAttr]))
            rw [hno (by rw [hB]; simp; omega)]
            refine DrawW.plan Tok mixed (.q 0 <| .q 2 <| .e3 1 [2] (.e3 3 [] (.q 4 <| .q 5 <| .q 6 <| .q 7 <| .e2 8 [0, 2] (.e 9 [0, 2] <| .e 10 [] <| .e 11 [] <| .q 12 <| .done) 9 [0, 2] (.e 8 [0, 2] <| .e 10 [] <| .e 11 [] <| .q 12 <| .done)) 8 [0, 2] (.e2 3 [] (.q 4 <| .q 5 <| .q 6 <| .q 7 <| .e 9 [0, 2] <| .e 10 [] <| .e 11 [] <| .q 12 <| .done) 9 [0, 2] (.e 3 [] <| .q 4 <| .q 5 <| .q 6 <| .q 7 <| .e 10 [] <| .e 11 [] <| .q 12 <| .done)) 9 [0, 2] (.e2 3 [] (.q 4 <| .q 5 <| .q 6 <| .q 7 <| .e 8 [0, 2] <| .e 10 [] <| .e 11 [] <| .q 12 <| .done) 8 [0, 2] (.e 3 [] <| .q 4 <| .q 5 <| .q 6 <| .q 7 <| .e 10 [] <| .e 11 [] <| .q 12 <| .done))) 8 [0, 2] (.e2 1 [2] (.e2 3 [] (.q 4 <| .q 5 <| .q 6 <| .q 7 <| .e 9 [0, 2] <| .e 10 [] <| .e 11 [] <| .q 12 <| .done) 9 [0, 2] (.e 3 [] <| .q 4 <| .q 5 <| .q 6 <| .q 7 <| .e 10 [] <| .e 11 [] <| .q 12 <| .done)) 9 [0, 2] (.e 1 [2] <| .e 3 [] <| .q 4 <| .q 5 <| .q 6 <| .q 7 <| .e 10 [] <| .e 11 [] <| .q 12 <| .done)) 9 [0, 2] (.e2 1 [2] (.e2 3 [] (.q 4 <| .q 5 <| .q 6 <| .q 7 <| .e 8 [0, 2] <| .e 10 [] <| .e 11 [] <| .q 12 <| .done) 8 [0, 2] (.e 3 [] <| .q 4 <| .q 5 <| .q 6 <| .q 7 <| .e 10 [] <| .e 11 [] <| .q 12 <| .done)) 8 [0, 2] (.e 1 [2] <| .e 3 [] <| .q 4 <| .q 5 <| .q 6 <| .q 7 <| .e 10 [] <| .e 11 [] <| .q 12 <| .done))) (by kernel_rfl) (by kernel_rfl) ?_
            simp only [↓sx0, sx1, encs, tys, sxR, sevalprocAttr]
            repeat' (first | (with_reducible refine And.intro ?_ ?_) | (refine CallI.fn (inverseR_s y) (by simp only [sx3, encs, sxR, sevalprocAttr] <;> (try simp) <;> (try rfl)) ?_; (try simp only [↓sx0, sx1, encs, tys, sxR, sevalprocAttr])) | (refine CallI.fn (hS) (by simp only [sx3, encs, sxR, sevalprocAttr] <;> (try simp) <;> (try rfl)) ?_; (try simp only [↓sx0, sx1, encs, tys, sxR, sevalprocAttr])))
            all_goals (
              skip
              exact EndW.fn (by simp only [sx4, encs, kpLL_map, sxR, sevalprocAttr] <;> (try simp) <;> (try omega)) (by simp only [sx4, encs, kpLL_map, sxR, sevalprocAttr] <;> (try simp) <;> (try omega)) )
        · repeat ((first | (with_reducible refine BrW.yes (by omega) ?_) | (with_reducible refine BrW.no (by omega) ?_)); (try simp only [↓sx0, sx1, encs, tys, sxR, sevalprocAttr]))
          rw [hno (by rw [hB]; simp; omega)]
          refine DrawW.plan Tok mixed (.q 0 <| .q 2 <| .e3 1 [2] (.e3 3 [] (.q 4 <| .q 5 <| .q 6 <| .q 7 <| .e2 8 [0, 2] (.e 9 [0, 2] <| .e 10 [] <| .e 11 [] <| .q 12 <| .done) 9 [0, 2] (.e 8 [0, 2] <| .e 10 [] <| .e 11 [] <| .q 12 <| .done)) 8 [0, 2] (.e2 3 [] (.q 4 <| .q 5 <| .q 6 <| .q 7 <| .e 9 [0, 2] <| .e 10 [] <| .e 11 [] <| .q 12 <| .done) 9 [0, 2] (.e 3 [] <| .q 4 <| .q 5 <| .q 6 <| .q 7 <| .e 10 [] <| .e 11 [] <| .q 12 <| .done)) 9 [0, 2] (.e2 3 [] (.q 4 <| .q 5 <| .q 6 <| .q 7 <| .e 8 [0, 2] <| .e 10 [] <| .e 11 [] <| .q 12 <| .done) 8 [0, 2] (.e 3 [] <| .q 4 <| .q 5 <| .q 6 <| .q 7 <| .e 10 [] <| .e 11 [] <| .q 12 <| .done))) 8 [0, 2] (.e2 1 [2] (.e2 3 [] (.q 4 <| .q 5 <| .q 6 <| .q 7 <| .e 9 [0, 2] <| .e 10 [] <| .e 11 [] <| .q 12 <| .done) 9 [0, 2] (.e 3 [] <| .q 4 <| .q 5 <| .q 6 <| .q 7 <| .e 10 [] <| .e 11 [] <| .q 12 <| .done)) 9 [0, 2] (.e 1 [2] <| .e 3 [] <| .q 4 <| .q 5 <| .q 6 <| .q 7 <| .e 10 [] <| .e 11 [] <| .q 12 <| .done)) 9 [0, 2] (.e2 1 [2] (.e2 3 [] (.q 4 <| .q 5 <| .q 6 <| .q 7 <| .e 8 [0, 2] <| .e 10 [] <| .e 11 [] <| .q 12 <| .done) 8 [0, 2] (.e 3 [] <| .q 4 <| .q 5 <| .q 6 <| .q 7 <| .e 10 [] <| .e 11 [] <| .q 12 <| .done)) 8 [0, 2] (.e 1 [2] <| .e 3 [] <| .q 4 <| .q 5 <| .q 6 <| .q 7 <| .e 10 [] <| .e 11 [] <| .q 12 <| .done))) (by kernel_rfl) (by kernel_rfl) ?_
          simp only [↓sx0, sx1, encs, tys, sxR, sevalprocAttr]
          repeat' (first | (with_reducible refine And.intro ?_ ?_) | (refine CallI.fn (inverseR_s y) (by simp only [sx3, encs, sxR, sevalprocAttr] <;> (try simp) <;> (try rfl)) ?_; (try simp only [↓sx0, sx1, encs, tys, sxR, sevalprocAttr])) | (refine CallI.fn (hS) (by simp only [sx3, encs, sxR, sevalprocAttr] <;> (try simp) <;> (try rfl)) ?_; (try simp only [↓sx0, sx1, encs, tys, sxR, sevalprocAttr])))
          all_goals (
            skip
            exact EndW.fn (by simp only [sx4, encs, kpLL_map, sxR, sevalprocAttr] <;> (try simp) <;> (try omega)) (by simp only [sx4, encs, kpLL_map, sxR, sevalprocAttr] <;> (try simp) <;> (try omega)) )
    · have hB : plB x y = false := by simp [plB, hw]
      rw [hno hB]
      have encs := And.intro encs (eq_false hw)
      simp only [↓sx0, sx1, encs, tys, sxR, sevalprocAttr]
      refine DrawW.plan Tok mixed (.q 0 <| .q 2 <| .e3 1 [2] (.e3 3 [] (.q 4 <| .q 5 <| .q 6 <| .q 7 <| .e2 8 [0, 2] (.e 9 [0, 2] <| .e 10 [] <| .e 11 [] <| .q 12 <| .done) 9 [0, 2] (.e 8 [0, 2] <| .e 10 [] <| .e 11 [] <| .q 12 <| .done)) 8 [0, 2] (.e2 3 [] (.q 4 <| .q 5 <| .q 6 <| .q 7 <| .e 9 [0, 2] <| .e 10 [] <| .e 11 [] <| .q 12 <| .done) 9 [0, 2] (.e 3 [] <| .q 4 <| .q 5 <| .q 6 <| .q 7 <| .e 10 [] <| .e 11 [] <| .q 12 <| .done)) 9 [0, 2] (.e2 3 [] (.q 4 <| .q 5 <| .q 6 <| .q 7 <| .e 8 [0, 2] <| .e 10 [] <| .e 11 [] <| .q 12 <| .done) 8 [0, 2] (.e 3 [] <| .q 4 <| .q 5 <| .q 6 <| .q 7 <| .e 10 [] <| .e 11 [] <| .q 12 <| .done))) 8 [0, 2] (.e2 1 [2] (.e2 3 [] (.q 4 <| .q 5 <| .q 6 <| .q 7 <| .e 9 [0, 2] <| .e 10 [] <| .e 11 [] <| .q 12 <| .done) 9 [0, 2] (.e 3 [] <| .q 4 <| .q 5 <| .q 6 <| .q 7 <| .e 10 [] <| .e 11 [] <| .q 12 <| .done)) 9 [0, 2] (.e 1 [2] <| .e 3 [] <| .q 4 <| .q 5 <| .q 6 <| .q 7 <| .e 10 [] <| .e 11 [] <| .q 12 <| .done)) 9 [0, 2] (.e2 1 [2] (.e2 3 [] (.q 4 <| .q 5 <| .q 6 <| .q 7 <| .e 8 [0, 2] <| .e 10 [] <| .e 11 [] <| .q 12 <| .done) 8 [0, 2] (.e 3 [] <| .q 4 <| .q 5 <| .q 6 <| .q 7 <| .e 10 [] <| .e 11 [] <| .q 12 <| .done)) 8 [0, 2] (.e 1 [2] <| .e 3 [] <| .q 4 <| .q 5 <| .q 6 <| .q 7 <| .e 10 [] <| .e 11 [] <| .q 12 <| .done))) (by kernel_rfl) (by kernel_rfl) ?_
      simp only [↓sx0, sx1, encs, tys, sxR, sevalprocAttr]
      repeat' (first | (with_reducible refine And.intro ?_ ?_) | (refine CallI.fn (inverseR_s y) (by simp only [sx3, encs, sxR, sevalprocAttr] <;> (try simp) <;> (try rfl)) ?_; (try simp only [↓sx0, sx1, encs, tys, sxR, sevalprocAttr])) | (refine CallI.fn (hS) (by simp only [sx3, encs, sxR, sevalprocAttr] <;> (try simp) <;> (try rfl)) ?_; (try simp only [↓sx0, sx1, encs, tys, sxR, sevalprocAttr])))
      all_goals (
        skip
        exact EndW.fn (by simp only [sx4, encs, kpLL_map, sxR, sevalprocAttr] <;> (try simp) <;> (try omega)) (by simp only [sx4, encs, kpLL_map, sxR, sevalprocAttr] <;> (try simp) <;> (try omega)) )
  · have hB : plB x y = false := by simp [plB, hp]
    rw [hno hB]
    repeat ((with_reducible refine BrW.no hp ?_); simp only [↓sx0, sx1, encs, tys, sxR, sevalprocAttr])
    refine DrawW.plan Tok mixed (.q 0 <| .q 2 <| .e3 1 [2] (.e3 3 [] (.q 4 <| .q 5 <| .q 6 <| .q 7 <| .e2 8 [0, 2] (.e 9 [0, 2] <| .e 10 [] <| .e 11 [] <| .q 12 <| .done) 9 [0, 2] (.e 8 [0, 2] <| .e 10 [] <| .e 11 [] <| .q 12 <| .done)) 8 [0, 2] (.e2 3 [] (.q 4 <| .q 5 <| .q 6 <| .q 7 <| .e 9 [0, 2] <| .e 10 [] <| .e 11 [] <| .q 12 <| .done) 9 [0, 2] (.e 3 [] <| .q 4 <| .q 5 <| .q 6 <| .q 7 <| .e 10 [] <| .e 11 [] <| .q 12 <| .done)) 9 [0, 2] (.e2 3 [] (.q 4 <| .q 5 <| .q 6 <| .q 7 <| .e 8 [0, 2] <| .e 10 [] <| .e 11 [] <| .q 12 <| .done) 8 [0, 2] (.e 3 [] <| .q 4 <| .q 5 <| .q 6 <| .q 7 <| .e 10 [] <| .e 11 [] <| .q 12 <| .done))) 8 [0, 2] (.e2 1 [2] (.e2 3 [] (.q 4 <| .q 5 <| .q 6 <| .q 7 <| .e 9 [0, 2] <| .e 10 [] <| .e 11 [] <| .q 12 <| .done) 9 [0, 2] (.e 3 [] <| .q 4 <| .q 5 <| .q 6 <| .q 7 <| .e 10 [] <| .e 11 [] <| .q 12 <| .done)) 9 [0, 2] (.e 1 [2] <| .e 3 [] <| .q 4 <| .q 5 <| .q 6 <| .q 7 <| .e 10 [] <| .e 11 [] <| .q 12 <| .done)) 9 [0, 2] (.e2 1 [2] (.e2 3 [] (.q 4 <| .q 5 <| .q 6 <| .q 7 <| .e 8 [0, 2] <| .e 10 [] <| .e 11 [] <| .q 12 <| .done) 8 [0, 2] (.e 3 [] <| .q 4 <| .q 5 <| .q 6 <| .q 7 <| .e 10 [] <| .e 11 [] <| .q 12 <| .done)) 8 [0, 2] (.e 1 [2] <| .e 3 [] <| .q 4 <| .q 5 <| .q 6 <| .q 7 <| .e 10 [] <| .e 11 [] <| .q 12 <| .done))) (by kernel_rfl) (by kernel_rfl) ?_
    simp only [↓sx0, sx1, encs, tys, sxR, sevalprocAttr]
    repeat' (first | (with_reducible refine And.intro ?_ ?_) | (refine CallI.fn (inverseR_s y) (by simp only [sx3, encs, sxR, sevalprocAttr] <;> (try simp) <;> (try rfl)) ?_; (try simp only [↓sx0, sx1, encs, tys, sxR, sevalprocAttr])) | (refine CallI.fn (hS) (by simp only [sx3, encs, sxR, sevalprocAttr] <;> (try simp) <;> (try rfl)) ?_; (try simp only [↓sx0, sx1, encs, tys, sxR, sevalprocAttr])))
    all_goals (
      skip
      exact EndW.fn (by simp only [sx4, encs, kpLL_map, sxR, sevalprocAttr] <;> (try simp) <;> (try omega)) (by simp only [sx4, encs, kpLL_map, sxR, sevalprocAttr] <;> (try simp) <;> (try omega)) )
theorem hang1_s (m : Mk) : Ctr Try.prog 116 [mV m] (fun rr => rr = ⟨(.v (.bool (decide (m.mark = 2) || decide (m.mark = 5)))), []⟩) := by
  refine Ctr.of (rs := [.tmp 2]) Tok true Try.func116 rfl rfl rfl rfl (by simp [ofDL]) (fun w0 kp => ?_)
  simp only [↓sx0, sx1, encs, tys, sxR, sevalprocAttr]
  refine BrW.dec (fun h => ?_) (fun h => ?_)
  · simp only [↓sx0, sx1, encs, tys, sxR, sevalprocAttr]
    exact EndW.fn (by simp only [sx4, encs, kpLL_map, sxR, sevalprocAttr] <;> (try simp [h]) <;> (try omega)) (by simp only [sx4, encs, kpLL_map, sxR, sevalprocAttr] <;> (try simp) <;> (try omega))
  · simp only [↓sx0, sx1, encs, tys, sxR, sevalprocAttr]
    exact EndW.fn (by simp only [sx4, encs, kpLL_map, sxR, sevalprocAttr] <;> (try simp [h]) <;> (try omega)) (by simp only [sx4, encs, kpLL_map, sxR, sevalprocAttr] <;> (try simp) <;> (try omega))
def hgB (x y : Mk) : Bool := plB x y || (decide ((ovP x y).2 = 13) || decide ((ovP y x).2 = 13))
set_option maxHeartbeats 8000000 in
theorem hang_s (x y : Mk) (hx : inR x = true) (hy : inR y = true) : Ctr Try.prog 83 [mV x, mV y] (fun rr => rr = ⟨(.v (.bool (hgB x y))), []⟩) := by
  have encs := And.intro encs prE
  refine Ctr.of (rs := [.tmp 4]) Tok true Try.func83 rfl rfl rfl rfl (by simp [ofDL]) (fun w0 kp => ?_)
  simp only [↓sx0, sx1, encs, tys, sxR, sevalprocAttr]
  refine CallI.fn (hang1_s x) (by simp only [sx3, encs, sxR, sevalprocAttr] <;> (try simp) <;> (try rfl)) ?_
  simp only [↓sx0, sx1, encs, tys, sxR, sevalprocAttr]
  refine BrW.of (fun bx => ?_) (fun bx => ?_)
  · simp only [Bool.or_eq_true, decide_eq_true_eq] at bx
    simp only [↓sx0, sx1, encs, tys, sxR, sevalprocAttr]
    refine CallI.fn (hang1_s y) (by simp only [sx3, encs, sxR, sevalprocAttr] <;> (try simp) <;> (try rfl)) ?_
    simp only [↓sx0, sx1, encs, tys, sxR, sevalprocAttr]
    refine BrW.of (fun by1 => ?_) (fun by1 => ?_)
    · simp only [Bool.or_eq_true, decide_eq_true_eq] at by1
      simp only [↓sx0, sx1, encs, tys, sxR, sevalprocAttr]
      refine BrW.dec (fun hp => ?_) (fun hp => ?_)
      · simp only [↓sx0, sx1, encs, tys, sxR, sevalprocAttr]
        refine BrW.dec (fun hw => ?_) (fun hw => ?_)
        · simp only [↓sx0, sx1, encs, tys, sxR, sevalprocAttr]
          refine BrW.dec (fun q1 => ?_) (fun q1 => ?_)
          · have hB : plB x y = true := by simp only [plB]; simp; omega
            rw [show hgB x y = true by rw [hgB, hB]; rfl]
            simp only [↓sx0, sx1, encs, tys, sxR, sevalprocAttr]
            repeat ((with_reducible refine BrW.yes (by omega) ?_); (try simp only [↓sx0, sx1, encs, tys, sxR, sevalprocAttr]))
            exact EndW.fn (by simp only [sx4, encs, kpLL_map, sxR, sevalprocAttr] <;> (try simp) <;> (try omega)) (by simp only [sx4, encs, kpLL_map, sxR, sevalprocAttr] <;> (try simp) <;> (try omega))
          · simp only [↓sx0, sx1, encs, tys, sxR, sevalprocAttr]
            refine BrW.dec (fun q2 => ?_) (fun q2 => ?_)
            · have hB : plB x y = true := by simp only [plB]; simp; omega
              rw [show hgB x y = true by rw [hgB, hB]; rfl]
              simp only [↓sx0, sx1, encs, tys, sxR, sevalprocAttr]
              exact EndW.fn (by simp only [sx4, encs, kpLL_map, sxR, sevalprocAttr] <;> (try simp) <;> (try omega)) (by simp only [sx4, encs, kpLL_map, sxR, sevalprocAttr] <;> (try simp) <;> (try omega))
            · have hB : plB x y = false := by simp only [plB]; simp; omega
              simp only [↓sx0, sx1, encs, tys, sxR, sevalprocAttr]
              refine LoopW.comp [48, 49] (by simp only [sx2, encs, sxR, sevalprocAttr] <;> (try simp) <;> (try omega)) ?_
              simp only [sx2, sxR, sevalprocAttr]
              refine LoopW.up Tok (fun k : Nat => [(49, (.v (.int .i64 k)))]) (fun k => []) (fun k => []) (fun k => []) (fun k => k ≤ 2 ∧ (0 < k → (ovP x y).2 ≠ 13) ∧ (1 < k → (ovP y x).2 ≠ 13)) (fun k => 2 - k) (0) (by simp only [sx2, encs, sxR, sevalprocAttr] <;> (try simp) <;> (try omega)) ?_ ?_
              · exact ⟨by omega, fun h => absurd h (by omega), fun h => absurd h (by omega)⟩
              rintro k ⟨hk, h1, h2⟩
              simp only [↓sx0, sx1, encs, tys, sxR, sevalprocAttr]
              refine BrW.dec (fun hlt => ?_) (fun hlt => ?_)
              · have hk2 : k = 0 ∨ k = 1 := by omega
                rcases hk2 with rfl | rfl
                · simp only [↓sx0, sx1, encs, tys, sxR, sevalprocAttr]
                  refine ArrIx.go (by simp) ?_
                  simp only [↓sx0, sx1, encs, tys, sxR, sevalprocAttr]
                  repeat ((with_reducible refine Vc.go trivial fun _ => ?_); simp only [↓sx0, sx1, encs, tys, sxR, sevalprocAttr])
                  refine CallI.fn (over_s x y hx hy) (by simp only [sx3, encs, sxR, sevalprocAttr] <;> (try simp) <;> (try rfl)) ?_
                  simp only [↓sx0, sx1, encs, tys, sxR, sevalprocAttr]
                  refine BrW.dec (fun he => ?_) (fun he => ?_)
                  · rw [show hgB x y = true by simp [hgB, he]]
                    simp only [↓sx0, sx1, encs, tys, sxR, sevalprocAttr]
                    exact EndW.fn (by simp only [sx4, encs, kpLL_map, sxR, sevalprocAttr] <;> (try simp) <;> (try omega)) (by simp only [sx4, encs, kpLL_map, sxR, sevalprocAttr] <;> (try simp) <;> (try omega))
                  · simp only [↓sx0, sx1, encs, tys, sxR, sevalprocAttr]
                    repeat ((with_reducible refine Vc.go ?_ fun _ => ?_); (focus (first | omega | (simp only [InK]; omega) | (simp [InK]; done) | (simp [InK]; omega))); simp only [↓sx0, sx1, encs, tys, sxR, sevalprocAttr])
                    refine ⟨1, StLe.auto (by simp only [sx2, encs, sxR, sevalprocAttr] <;> (try simp) <;> (try omega)), ?_, ?_⟩
                    · exact ⟨by omega, fun _ => he, fun h => absurd h (by omega)⟩
                    · omega
                · simp only [↓sx0, sx1, encs, tys, sxR, sevalprocAttr]
                  refine ArrIx.go (by simp) ?_
                  simp only [↓sx0, sx1, encs, tys, sxR, sevalprocAttr]
                  repeat ((with_reducible refine Vc.go trivial fun _ => ?_); simp only [↓sx0, sx1, encs, tys, sxR, sevalprocAttr])
                  refine CallI.fn (over_s y x hy hx) (by simp only [sx3, encs, sxR, sevalprocAttr] <;> (try simp) <;> (try rfl)) ?_
                  simp only [↓sx0, sx1, encs, tys, sxR, sevalprocAttr]
                  refine BrW.dec (fun he => ?_) (fun he => ?_)
                  · rw [show hgB x y = true by simp [hgB, he]]
                    simp only [↓sx0, sx1, encs, tys, sxR, sevalprocAttr]
                    exact EndW.fn (by simp only [sx4, encs, kpLL_map, sxR, sevalprocAttr] <;> (try simp) <;> (try omega)) (by simp only [sx4, encs, kpLL_map, sxR, sevalprocAttr] <;> (try simp) <;> (try omega))
                  · simp only [↓sx0, sx1, encs, tys, sxR, sevalprocAttr]
                    repeat ((with_reducible refine Vc.go ?_ fun _ => ?_); (focus (first | omega | (simp only [InK]; omega) | (simp [InK]; done) | (simp [InK]; omega))); simp only [↓sx0, sx1, encs, tys, sxR, sevalprocAttr])
                    refine ⟨2, StLe.auto (by simp only [sx2, encs, sxR, sevalprocAttr] <;> (try simp) <;> (try omega)), ?_, ?_⟩
                    · exact ⟨by omega, fun _ => h1 (by omega), fun _ => he⟩
                    · omega
              · have e1 := h1 (by omega)
                have e2 := h2 (by omega)
                rw [show hgB x y = false by rw [hgB, hB]; simp [e1, e2]]
                simp only [↓sx0, sx1, encs, tys, sxR, sevalprocAttr]
                exact EndW.fn (by simp only [sx4, encs, kpLL_map, sxR, sevalprocAttr] <;> (try simp) <;> (try omega)) (by simp only [sx4, encs, kpLL_map, sxR, sevalprocAttr] <;> (try simp) <;> (try omega))
        · have hB : plB x y = false := by simp only [plB]; simp; omega
          simp only [↓sx0, sx1, encs, tys, sxR, sevalprocAttr]
          refine LoopW.comp [48, 49] (by simp only [sx2, encs, sxR, sevalprocAttr] <;> (try simp) <;> (try omega)) ?_
          simp only [sx2, sxR, sevalprocAttr]
          refine LoopW.up Tok (fun k : Nat => [(49, (.v (.int .i64 k)))]) (fun k => []) (fun k => []) (fun k => []) (fun k => k ≤ 2 ∧ (0 < k → (ovP x y).2 ≠ 13) ∧ (1 < k → (ovP y x).2 ≠ 13)) (fun k => 2 - k) (0) (by simp only [sx2, encs, sxR, sevalprocAttr] <;> (try simp) <;> (try omega)) ?_ ?_
          · exact ⟨by omega, fun h => absurd h (by omega), fun h => absurd h (by omega)⟩
          rintro k ⟨hk, h1, h2⟩
          simp only [↓sx0, sx1, encs, tys, sxR, sevalprocAttr]
          refine BrW.dec (fun hlt => ?_) (fun hlt => ?_)
          · have hk2 : k = 0 ∨ k = 1 := by omega
            rcases hk2 with rfl | rfl
            · simp only [↓sx0, sx1, encs, tys, sxR, sevalprocAttr]
              refine ArrIx.go (by simp) ?_
              simp only [↓sx0, sx1, encs, tys, sxR, sevalprocAttr]
              repeat ((with_reducible refine Vc.go trivial fun _ => ?_); simp only [↓sx0, sx1, encs, tys, sxR, sevalprocAttr])
              refine CallI.fn (over_s x y hx hy) (by simp only [sx3, encs, sxR, sevalprocAttr] <;> (try simp) <;> (try rfl)) ?_
              simp only [↓sx0, sx1, encs, tys, sxR, sevalprocAttr]
              refine BrW.dec (fun he => ?_) (fun he => ?_)
              · rw [show hgB x y = true by simp [hgB, he]]
                simp only [↓sx0, sx1, encs, tys, sxR, sevalprocAttr]
                exact EndW.fn (by simp only [sx4, encs, kpLL_map, sxR, sevalprocAttr] <;> (try simp) <;> (try omega)) (by simp only [sx4, encs, kpLL_map, sxR, sevalprocAttr] <;> (try simp) <;> (try omega))
              · simp only [↓sx0, sx1, encs, tys, sxR, sevalprocAttr]
                repeat ((with_reducible refine Vc.go ?_ fun _ => ?_); (focus (first | omega | (simp only [InK]; omega) | (simp [InK]; done) | (simp [InK]; omega))); simp only [↓sx0, sx1, encs, tys, sxR, sevalprocAttr])
                refine ⟨1, StLe.auto (by simp only [sx2, encs, sxR, sevalprocAttr] <;> (try simp) <;> (try omega)), ?_, ?_⟩
                · exact ⟨by omega, fun _ => he, fun h => absurd h (by omega)⟩
                · omega
            · simp only [↓sx0, sx1, encs, tys, sxR, sevalprocAttr]
              refine ArrIx.go (by simp) ?_
              simp only [↓sx0, sx1, encs, tys, sxR, sevalprocAttr]
              repeat ((with_reducible refine Vc.go trivial fun _ => ?_); simp only [↓sx0, sx1, encs, tys, sxR, sevalprocAttr])
              refine CallI.fn (over_s y x hy hx) (by simp only [sx3, encs, sxR, sevalprocAttr] <;> (try simp) <;> (try rfl)) ?_
              simp only [↓sx0, sx1, encs, tys, sxR, sevalprocAttr]
              refine BrW.dec (fun he => ?_) (fun he => ?_)
              · rw [show hgB x y = true by simp [hgB, he]]
                simp only [↓sx0, sx1, encs, tys, sxR, sevalprocAttr]
                exact EndW.fn (by simp only [sx4, encs, kpLL_map, sxR, sevalprocAttr] <;> (try simp) <;> (try omega)) (by simp only [sx4, encs, kpLL_map, sxR, sevalprocAttr] <;> (try simp) <;> (try omega))
              · simp only [↓sx0, sx1, encs, tys, sxR, sevalprocAttr]
                repeat ((with_reducible refine Vc.go ?_ fun _ => ?_); (focus (first | omega | (simp only [InK]; omega) | (simp [InK]; done) | (simp [InK]; omega))); simp only [↓sx0, sx1, encs, tys, sxR, sevalprocAttr])
                refine ⟨2, StLe.auto (by simp only [sx2, encs, sxR, sevalprocAttr] <;> (try simp) <;> (try omega)), ?_, ?_⟩
                · exact ⟨by omega, fun _ => h1 (by omega), fun _ => he⟩
                · omega
          · have e1 := h1 (by omega)
            have e2 := h2 (by omega)
            rw [show hgB x y = false by rw [hgB, hB]; simp [e1, e2]]
            simp only [↓sx0, sx1, encs, tys, sxR, sevalprocAttr]
            exact EndW.fn (by simp only [sx4, encs, kpLL_map, sxR, sevalprocAttr] <;> (try simp) <;> (try omega)) (by simp only [sx4, encs, kpLL_map, sxR, sevalprocAttr] <;> (try simp) <;> (try omega))
      · have hB : plB x y = false := by simp only [plB]; simp; omega
        simp only [↓sx0, sx1, encs, tys, sxR, sevalprocAttr]
        refine LoopW.comp [48, 49] (by simp only [sx2, encs, sxR, sevalprocAttr] <;> (try simp) <;> (try omega)) ?_
        simp only [sx2, sxR, sevalprocAttr]
        refine LoopW.up Tok (fun k : Nat => [(49, (.v (.int .i64 k)))]) (fun k => []) (fun k => []) (fun k => []) (fun k => k ≤ 2 ∧ (0 < k → (ovP x y).2 ≠ 13) ∧ (1 < k → (ovP y x).2 ≠ 13)) (fun k => 2 - k) (0) (by simp only [sx2, encs, sxR, sevalprocAttr] <;> (try simp) <;> (try omega)) ?_ ?_
        · exact ⟨by omega, fun h => absurd h (by omega), fun h => absurd h (by omega)⟩
        rintro k ⟨hk, h1, h2⟩
        simp only [↓sx0, sx1, encs, tys, sxR, sevalprocAttr]
        refine BrW.dec (fun hlt => ?_) (fun hlt => ?_)
        · have hk2 : k = 0 ∨ k = 1 := by omega
          rcases hk2 with rfl | rfl
          · simp only [↓sx0, sx1, encs, tys, sxR, sevalprocAttr]
            refine ArrIx.go (by simp) ?_
            simp only [↓sx0, sx1, encs, tys, sxR, sevalprocAttr]
            repeat ((with_reducible refine Vc.go trivial fun _ => ?_); simp only [↓sx0, sx1, encs, tys, sxR, sevalprocAttr])
            refine CallI.fn (over_s x y hx hy) (by simp only [sx3, encs, sxR, sevalprocAttr] <;> (try simp) <;> (try rfl)) ?_
            simp only [↓sx0, sx1, encs, tys, sxR, sevalprocAttr]
            refine BrW.dec (fun he => ?_) (fun he => ?_)
            · rw [show hgB x y = true by simp [hgB, he]]
              simp only [↓sx0, sx1, encs, tys, sxR, sevalprocAttr]
              exact EndW.fn (by simp only [sx4, encs, kpLL_map, sxR, sevalprocAttr] <;> (try simp) <;> (try omega)) (by simp only [sx4, encs, kpLL_map, sxR, sevalprocAttr] <;> (try simp) <;> (try omega))
            · simp only [↓sx0, sx1, encs, tys, sxR, sevalprocAttr]
              repeat ((with_reducible refine Vc.go ?_ fun _ => ?_); (focus (first | omega | (simp only [InK]; omega) | (simp [InK]; done) | (simp [InK]; omega))); simp only [↓sx0, sx1, encs, tys, sxR, sevalprocAttr])
              refine ⟨1, StLe.auto (by simp only [sx2, encs, sxR, sevalprocAttr] <;> (try simp) <;> (try omega)), ?_, ?_⟩
              · exact ⟨by omega, fun _ => he, fun h => absurd h (by omega)⟩
              · omega
          · simp only [↓sx0, sx1, encs, tys, sxR, sevalprocAttr]
            refine ArrIx.go (by simp) ?_
            simp only [↓sx0, sx1, encs, tys, sxR, sevalprocAttr]
            repeat ((with_reducible refine Vc.go trivial fun _ => ?_); simp only [↓sx0, sx1, encs, tys, sxR, sevalprocAttr])
            refine CallI.fn (over_s y x hy hx) (by simp only [sx3, encs, sxR, sevalprocAttr] <;> (try simp) <;> (try rfl)) ?_
            simp only [↓sx0, sx1, encs, tys, sxR, sevalprocAttr]
            refine BrW.dec (fun he => ?_) (fun he => ?_)
            · rw [show hgB x y = true by simp [hgB, he]]
              simp only [↓sx0, sx1, encs, tys, sxR, sevalprocAttr]
              exact EndW.fn (by simp only [sx4, encs, kpLL_map, sxR, sevalprocAttr] <;> (try simp) <;> (try omega)) (by simp only [sx4, encs, kpLL_map, sxR, sevalprocAttr] <;> (try simp) <;> (try omega))
            · simp only [↓sx0, sx1, encs, tys, sxR, sevalprocAttr]
              repeat ((with_reducible refine Vc.go ?_ fun _ => ?_); (focus (first | omega | (simp only [InK]; omega) | (simp [InK]; done) | (simp [InK]; omega))); simp only [↓sx0, sx1, encs, tys, sxR, sevalprocAttr])
              refine ⟨2, StLe.auto (by simp only [sx2, encs, sxR, sevalprocAttr] <;> (try simp) <;> (try omega)), ?_, ?_⟩
              · exact ⟨by omega, fun _ => h1 (by omega), fun _ => he⟩
              · omega
        · have e1 := h1 (by omega)
          have e2 := h2 (by omega)
          rw [show hgB x y = false by rw [hgB, hB]; simp [e1, e2]]
          simp only [↓sx0, sx1, encs, tys, sxR, sevalprocAttr]
          exact EndW.fn (by simp only [sx4, encs, kpLL_map, sxR, sevalprocAttr] <;> (try simp) <;> (try omega)) (by simp only [sx4, encs, kpLL_map, sxR, sevalprocAttr] <;> (try simp) <;> (try omega))
    · simp only [Bool.or_eq_false_iff, decide_eq_false_iff_not] at by1
      have hB : plB x y = false := by simp only [plB]; simp; omega
      simp only [↓sx0, sx1, encs, tys, sxR, sevalprocAttr]
      refine LoopW.comp [48, 49] (by simp only [sx2, encs, sxR, sevalprocAttr] <;> (try simp) <;> (try omega)) ?_
      simp only [sx2, sxR, sevalprocAttr]
      refine LoopW.up Tok (fun k : Nat => [(49, (.v (.int .i64 k)))]) (fun k => []) (fun k => []) (fun k => []) (fun k => k ≤ 2 ∧ (0 < k → (ovP x y).2 ≠ 13) ∧ (1 < k → (ovP y x).2 ≠ 13)) (fun k => 2 - k) (0) (by simp only [sx2, encs, sxR, sevalprocAttr] <;> (try simp) <;> (try omega)) ?_ ?_
      · exact ⟨by omega, fun h => absurd h (by omega), fun h => absurd h (by omega)⟩
      rintro k ⟨hk, h1, h2⟩
      simp only [↓sx0, sx1, encs, tys, sxR, sevalprocAttr]
      refine BrW.dec (fun hlt => ?_) (fun hlt => ?_)
      · have hk2 : k = 0 ∨ k = 1 := by omega
        rcases hk2 with rfl | rfl
        · simp only [↓sx0, sx1, encs, tys, sxR, sevalprocAttr]
          refine ArrIx.go (by simp) ?_
          simp only [↓sx0, sx1, encs, tys, sxR, sevalprocAttr]
          repeat ((with_reducible refine Vc.go trivial fun _ => ?_); simp only [↓sx0, sx1, encs, tys, sxR, sevalprocAttr])
          refine CallI.fn (over_s x y hx hy) (by simp only [sx3, encs, sxR, sevalprocAttr] <;> (try simp) <;> (try rfl)) ?_
          simp only [↓sx0, sx1, encs, tys, sxR, sevalprocAttr]
          refine BrW.dec (fun he => ?_) (fun he => ?_)
          · rw [show hgB x y = true by simp [hgB, he]]
            simp only [↓sx0, sx1, encs, tys, sxR, sevalprocAttr]
            exact EndW.fn (by simp only [sx4, encs, kpLL_map, sxR, sevalprocAttr] <;> (try simp) <;> (try omega)) (by simp only [sx4, encs, kpLL_map, sxR, sevalprocAttr] <;> (try simp) <;> (try omega))
          · simp only [↓sx0, sx1, encs, tys, sxR, sevalprocAttr]
            repeat ((with_reducible refine Vc.go ?_ fun _ => ?_); (focus (first | omega | (simp only [InK]; omega) | (simp [InK]; done) | (simp [InK]; omega))); simp only [↓sx0, sx1, encs, tys, sxR, sevalprocAttr])
            refine ⟨1, StLe.auto (by simp only [sx2, encs, sxR, sevalprocAttr] <;> (try simp) <;> (try omega)), ?_, ?_⟩
            · exact ⟨by omega, fun _ => he, fun h => absurd h (by omega)⟩
            · omega
        · simp only [↓sx0, sx1, encs, tys, sxR, sevalprocAttr]
          refine ArrIx.go (by simp) ?_
          simp only [↓sx0, sx1, encs, tys, sxR, sevalprocAttr]
          repeat ((with_reducible refine Vc.go trivial fun _ => ?_); simp only [↓sx0, sx1, encs, tys, sxR, sevalprocAttr])
          refine CallI.fn (over_s y x hy hx) (by simp only [sx3, encs, sxR, sevalprocAttr] <;> (try simp) <;> (try rfl)) ?_
          simp only [↓sx0, sx1, encs, tys, sxR, sevalprocAttr]
          refine BrW.dec (fun he => ?_) (fun he => ?_)
          · rw [show hgB x y = true by simp [hgB, he]]
            simp only [↓sx0, sx1, encs, tys, sxR, sevalprocAttr]
            exact EndW.fn (by simp only [sx4, encs, kpLL_map, sxR, sevalprocAttr] <;> (try simp) <;> (try omega)) (by simp only [sx4, encs, kpLL_map, sxR, sevalprocAttr] <;> (try simp) <;> (try omega))
          · simp only [↓sx0, sx1, encs, tys, sxR, sevalprocAttr]
            repeat ((with_reducible refine Vc.go ?_ fun _ => ?_); (focus (first | omega | (simp only [InK]; omega) | (simp [InK]; done) | (simp [InK]; omega))); simp only [↓sx0, sx1, encs, tys, sxR, sevalprocAttr])
            refine ⟨2, StLe.auto (by simp only [sx2, encs, sxR, sevalprocAttr] <;> (try simp) <;> (try omega)), ?_, ?_⟩
            · exact ⟨by omega, fun _ => h1 (by omega), fun _ => he⟩
            · omega
      · have e1 := h1 (by omega)
        have e2 := h2 (by omega)
        rw [show hgB x y = false by rw [hgB, hB]; simp [e1, e2]]
        simp only [↓sx0, sx1, encs, tys, sxR, sevalprocAttr]
        exact EndW.fn (by simp only [sx4, encs, kpLL_map, sxR, sevalprocAttr] <;> (try simp) <;> (try omega)) (by simp only [sx4, encs, kpLL_map, sxR, sevalprocAttr] <;> (try simp) <;> (try omega))
  · simp only [Bool.or_eq_false_iff, decide_eq_false_iff_not] at bx
    have hB : plB x y = false := by simp only [plB]; simp; omega
    simp only [↓sx0, sx1, encs, tys, sxR, sevalprocAttr]
    refine LoopW.comp [48, 49] (by simp only [sx2, encs, sxR, sevalprocAttr] <;> (try simp) <;> (try omega)) ?_
    simp only [sx2, sxR, sevalprocAttr]
    refine LoopW.up Tok (fun k : Nat => [(49, (.v (.int .i64 k)))]) (fun k => []) (fun k => []) (fun k => []) (fun k => k ≤ 2 ∧ (0 < k → (ovP x y).2 ≠ 13) ∧ (1 < k → (ovP y x).2 ≠ 13)) (fun k => 2 - k) (0) (by simp only [sx2, encs, sxR, sevalprocAttr] <;> (try simp) <;> (try omega)) ?_ ?_
    · exact ⟨by omega, fun h => absurd h (by omega), fun h => absurd h (by omega)⟩
    rintro k ⟨hk, h1, h2⟩
    simp only [↓sx0, sx1, encs, tys, sxR, sevalprocAttr]
    refine BrW.dec (fun hlt => ?_) (fun hlt => ?_)
    · have hk2 : k = 0 ∨ k = 1 := by omega
      rcases hk2 with rfl | rfl
      · simp only [↓sx0, sx1, encs, tys, sxR, sevalprocAttr]
        refine ArrIx.go (by simp) ?_
        simp only [↓sx0, sx1, encs, tys, sxR, sevalprocAttr]
        repeat ((with_reducible refine Vc.go trivial fun _ => ?_); simp only [↓sx0, sx1, encs, tys, sxR, sevalprocAttr])
        refine CallI.fn (over_s x y hx hy) (by simp only [sx3, encs, sxR, sevalprocAttr] <;> (try simp) <;> (try rfl)) ?_
        simp only [↓sx0, sx1, encs, tys, sxR, sevalprocAttr]
        refine BrW.dec (fun he => ?_) (fun he => ?_)
        · rw [show hgB x y = true by simp [hgB, he]]
          simp only [↓sx0, sx1, encs, tys, sxR, sevalprocAttr]
          exact EndW.fn (by simp only [sx4, encs, kpLL_map, sxR, sevalprocAttr] <;> (try simp) <;> (try omega)) (by simp only [sx4, encs, kpLL_map, sxR, sevalprocAttr] <;> (try simp) <;> (try omega))
        · simp only [↓sx0, sx1, encs, tys, sxR, sevalprocAttr]
          repeat ((with_reducible refine Vc.go ?_ fun _ => ?_); (focus (first | omega | (simp only [InK]; omega) | (simp [InK]; done) | (simp [InK]; omega))); simp only [↓sx0, sx1, encs, tys, sxR, sevalprocAttr])
          refine ⟨1, StLe.auto (by simp only [sx2, encs, sxR, sevalprocAttr] <;> (try simp) <;> (try omega)), ?_, ?_⟩
          · exact ⟨by omega, fun _ => he, fun h => absurd h (by omega)⟩
          · omega
      · simp only [↓sx0, sx1, encs, tys, sxR, sevalprocAttr]
        refine ArrIx.go (by simp) ?_
        simp only [↓sx0, sx1, encs, tys, sxR, sevalprocAttr]
        repeat ((with_reducible refine Vc.go trivial fun _ => ?_); simp only [↓sx0, sx1, encs, tys, sxR, sevalprocAttr])
        refine CallI.fn (over_s y x hy hx) (by simp only [sx3, encs, sxR, sevalprocAttr] <;> (try simp) <;> (try rfl)) ?_
        simp only [↓sx0, sx1, encs, tys, sxR, sevalprocAttr]
        refine BrW.dec (fun he => ?_) (fun he => ?_)
        · rw [show hgB x y = true by simp [hgB, he]]
          simp only [↓sx0, sx1, encs, tys, sxR, sevalprocAttr]
          exact EndW.fn (by simp only [sx4, encs, kpLL_map, sxR, sevalprocAttr] <;> (try simp) <;> (try omega)) (by simp only [sx4, encs, kpLL_map, sxR, sevalprocAttr] <;> (try simp) <;> (try omega))
        · simp only [↓sx0, sx1, encs, tys, sxR, sevalprocAttr]
          repeat ((with_reducible refine Vc.go ?_ fun _ => ?_); (focus (first | omega | (simp only [InK]; omega) | (simp [InK]; done) | (simp [InK]; omega))); simp only [↓sx0, sx1, encs, tys, sxR, sevalprocAttr])
          refine ⟨2, StLe.auto (by simp only [sx2, encs, sxR, sevalprocAttr] <;> (try simp) <;> (try omega)), ?_, ?_⟩
          · exact ⟨by omega, fun _ => h1 (by omega), fun _ => he⟩
          · omega
    · have e1 := h1 (by omega)
      have e2 := h2 (by omega)
      rw [show hgB x y = false by rw [hgB, hB]; simp [e1, e2]]
      simp only [↓sx0, sx1, encs, tys, sxR, sevalprocAttr]
      exact EndW.fn (by simp only [sx4, encs, kpLL_map, sxR, sevalprocAttr] <;> (try simp) <;> (try omega)) (by simp only [sx4, encs, kpLL_map, sxR, sevalprocAttr] <;> (try simp) <;> (try omega))
end Go.Proofs.Ytenohgpackcjbaa
