/-
  Chapter 9, walks: runs, by the reference; minutes and cents.
-/
import Derived.Test.YtaagelngbbkllaaVW4
namespace Go.Proofs.Ytaagelngbbkllaa
open Go Go.Vx
set_option linter.unusedSimpArgs false
set_option maxRecDepth 20000
theorem checkRunR_s (b : Bool) (x : Run) : Ctr Try.prog 20 [rV b x] (fun rr => rr = ⟨(.v (.int .i64 (runErr x))), []⟩) := by
  refine Ctr.of (rs := [.tmp 2]) Tok true Try.func20 rfl rfl rfl rfl (by simp [ofDL]) (fun w0 kp => ?_)
  simp only [↓sxD, ↓sxP0, ↓sxP3, ↓sxGd, sxP1, sxF, sxA, sxS, sxK, sxG, sxZ, sxH, sxU, encs, tys, sxN, sevalprocAttr, ne_eq, decide_true, decide_false]
  refine CallI.fn (isNameB_s x.job) (by simp only [sxA, sxL, sxF, sxG, sxH, sxU, encs, sxN, sevalprocAttr, ne_eq, decide_true, decide_false] <;> (try simp) <;> (try rfl)) ?_
  simp only [↓sxD, ↓sxP0, ↓sxP3, ↓sxGd, sxP1, sxF, sxA, sxS, sxK, sxG, sxZ, sxH, sxU, encs, tys, sxN, sevalprocAttr, ne_eq, decide_true, decide_false]
  refine BrW.of (fun h1 => ?_) (fun h1 => ?_)
  · simp only [↓sxD, ↓sxP0, ↓sxP3, ↓sxGd, sxP1, sxF, sxA, sxS, sxK, sxG, sxZ, sxH, sxU, encs, tys, sxN, sevalprocAttr, ne_eq, decide_true, decide_false]
    refine CallI.fn (withinB_s x.day 0 100000) (by simp only [sxA, sxL, sxF, sxG, sxH, sxU, encs, sxN, sevalprocAttr, ne_eq, decide_true, decide_false] <;> (try simp) <;> (try rfl)) ?_
    simp only [↓sxD, ↓sxP0, ↓sxP3, ↓sxGd, sxP1, sxF, sxA, sxS, sxK, sxG, sxZ, sxH, sxU, encs, tys, sxN, sevalprocAttr, ne_eq, decide_true, decide_false]
    refine BrW.dec (fun h2 => ?_) (fun h2 => ?_)
    · simp only [↓sxD, ↓sxP0, ↓sxP3, ↓sxGd, sxP1, sxF, sxA, sxS, sxK, sxG, sxZ, sxH, sxU, encs, tys, sxN, sevalprocAttr, ne_eq, decide_true, decide_false]
      refine CallI.fn (withinB_s x.wanted 1 2000) (by simp only [sxA, sxL, sxF, sxG, sxH, sxU, encs, sxN, sevalprocAttr, ne_eq, decide_true, decide_false] <;> (try simp) <;> (try rfl)) ?_
      simp only [↓sxD, ↓sxP0, ↓sxP3, ↓sxGd, sxP1, sxF, sxA, sxS, sxK, sxG, sxZ, sxH, sxU, encs, tys, sxN, sevalprocAttr, ne_eq, decide_true, decide_false]
      refine BrW.dec (fun h3 => ?_) (fun h3 => ?_)
      · simp only [↓sxD, ↓sxP0, ↓sxP3, ↓sxGd, sxP1, sxF, sxA, sxS, sxK, sxG, sxZ, sxH, sxU, encs, tys, sxN, sevalprocAttr, ne_eq, decide_true, decide_false]
        refine CallI.fn (withinB_s x.given x.wanted 2000) (by simp only [sxA, sxL, sxF, sxG, sxH, sxU, encs, sxN, sevalprocAttr, ne_eq, decide_true, decide_false] <;> (try simp) <;> (try rfl)) ?_
        simp only [↓sxD, ↓sxP0, ↓sxP3, ↓sxGd, sxP1, sxF, sxA, sxS, sxK, sxG, sxZ, sxH, sxU, encs, tys, sxN, sevalprocAttr, ne_eq, decide_true, decide_false]
        refine BrW.dec (fun h4 => ?_) (fun h4 => ?_)
        · simp only [↓sxD, ↓sxP0, ↓sxP3, ↓sxGd, sxP1, sxF, sxA, sxS, sxK, sxG, sxZ, sxH, sxU, encs, tys, sxN, sevalprocAttr, ne_eq, decide_true, decide_false]
          refine BrW.dec (fun h5 => ?_) (fun h5 => ?_)
          · simp only [↓sxD, ↓sxP0, ↓sxP3, ↓sxGd, sxP1, sxF, sxA, sxS, sxK, sxG, sxZ, sxH, sxU, encs, tys, sxN, sevalprocAttr, ne_eq, decide_true, decide_false]
            have h5 : x.cols = [] := List.length_eq_zero_iff.1 (by omega)
            exact EndW.fn (by simp only [sxL, sxG, sxH, sxU, encs, kpLL_map, sxN, sevalprocAttr, ne_eq, decide_true, decide_false] <;> (try simp [runErr, h1, h2, h3, h4, h5]) <;> (try omega)) (by simp only [sxL, sxG, sxH, sxU, encs, kpLL_map, sxN, sevalprocAttr, ne_eq, decide_true, decide_false] <;> (try simp) <;> (try omega))
          · simp only [↓sxD, ↓sxP0, ↓sxP3, ↓sxGd, sxP1, sxF, sxA, sxS, sxK, sxG, sxZ, sxH, sxU, encs, tys, sxN, sevalprocAttr, ne_eq, decide_true, decide_false]
            have h5 : ¬ x.cols = [] := fun e => h5 (by rw [e]; rfl)
            refine BrW.dec (fun h6 => ?_) (fun h6 => ?_)
            · simp only [↓sxD, ↓sxP0, ↓sxP3, ↓sxGd, sxP1, sxF, sxA, sxS, sxK, sxG, sxZ, sxH, sxU, encs, tys, sxN, sevalprocAttr, ne_eq, decide_true, decide_false]
              have h6 : 6 < x.cols.length := by omega
              exact EndW.fn (by simp only [sxL, sxG, sxH, sxU, encs, kpLL_map, sxN, sevalprocAttr, ne_eq, decide_true, decide_false] <;> (try simp [runErr, h1, h2, h3, h4, h5, h6]) <;> (try omega)) (by simp only [sxL, sxG, sxH, sxU, encs, kpLL_map, sxN, sevalprocAttr, ne_eq, decide_true, decide_false] <;> (try simp) <;> (try omega))
            · simp only [↓sxD, ↓sxP0, ↓sxP3, ↓sxGd, sxP1, sxF, sxA, sxS, sxK, sxG, sxZ, sxH, sxU, encs, tys, sxN, sevalprocAttr, ne_eq, decide_true, decide_false]
              have h6 : ¬ 6 < x.cols.length := by omega
              refine LoopW.comp [1, 3] (by simp only [sxS, sxL, sxF, sxG, sxH, sxU, encs, sxN, sevalprocAttr, ne_eq, decide_true, decide_false] <;> (try simp) <;> (try omega)) ?_
              simp only [sxS, sxF, sxG, sxH, sxU, sxN, sevalprocAttr, ne_eq, decide_true, decide_false]
              refine LoopW.up Tok (fun k : Nat => [(3, (.v (.int .i64 k)))]) (fun k => []) (fun k => []) (fun k => []) (fun k => k ≤ x.cols.length ∧ colsErr (x.cols.take k) (x.cols.drop k) = colsErr [] x.cols) (fun k => x.cols.length - k) (0) (by simp only [sxS, sxL, sxF, sxG, sxH, sxU, encs, sxN, sevalprocAttr, ne_eq, decide_true, decide_false] <;> (try simp) <;> (try omega)) ?_ ?_
              · exact ⟨by omega, by simp⟩
              rintro k ⟨hk, ht⟩
              simp only [↓sxD, ↓sxP0, ↓sxP3, ↓sxGd, sxP1, sxF, sxA, sxS, sxK, sxG, sxZ, sxH, sxU, encs, tys, sxN, sevalprocAttr, ne_eq, decide_true, decide_false]
              refine BrW.dec (fun hlt => ?_) (fun hlt => ?_)
              · simp only [↓sxD, ↓sxP0, ↓sxP3, ↓sxGd, sxP1, sxF, sxA, sxS, sxK, sxG, sxZ, sxH, sxU, encs, tys, sxN, sevalprocAttr, ne_eq, decide_true, decide_false]
                have hlt : k < x.cols.length := by omega
                have hce := colsErr_at hlt ht
                refine IxW.nat hlt ?_
                simp only [↓sxD, ↓sxP0, ↓sxP3, ↓sxGd, sxP1, sxF, sxA, sxS, sxK, sxG, sxZ, sxH, sxU, encs, tys, sxN, sevalprocAttr, ne_eq, decide_true, decide_false]
                refine CallI.fn (isNameB_s x.cols[k]) (by simp only [sxA, sxL, sxF, sxG, sxH, sxU, encs, sxN, sevalprocAttr, ne_eq, decide_true, decide_false] <;> (try simp) <;> (try rfl)) ?_
                simp only [↓sxD, ↓sxP0, ↓sxP3, ↓sxGd, sxP1, sxF, sxA, sxS, sxK, sxG, sxZ, sxH, sxU, encs, tys, sxN, sevalprocAttr, ne_eq, decide_true, decide_false]
                refine BrW.of (fun h7 => ?_) (fun h7 => ?_)
                · simp only [↓sxD, ↓sxP0, ↓sxP3, ↓sxGd, sxP1, sxF, sxA, sxS, sxK, sxG, sxZ, sxH, sxU, encs, tys, sxN, sevalprocAttr, ne_eq, decide_true, decide_false]
                  refine DrawW.plan Tok mixed (.q 0 <| .q 1 <| .q 2 <| .q 3 <| .q 4 <| .q 5 <| .q 6 <| .q 7 <| .q 8 <| .e 9 [] <| .done) (by kernel_rfl) (by kernel_rfl) ?_
                  simp only [↓sxD, ↓sxP0, ↓sxP3, ↓sxGd, sxP1, sxF, sxA, sxS, sxK, sxG, sxZ, sxH, sxU, encs, tys, sxN, sevalprocAttr, ne_eq, decide_true, decide_false]
                  (with_reducible refine Vc.go ?_ fun _ => ?_); focus (first | omega | (simp only [InK]; omega) | (simp [InK]; done) | (simp [InK]; omega))
                  simp only [↓sxD, ↓sxP0, ↓sxP3, ↓sxGd, sxP1, sxF, sxA, sxS, sxK, sxG, sxZ, sxH, sxU, encs, tys, sxN, sevalprocAttr, ne_eq, decide_true, decide_false]
                  refine IxW.nat hlt ?_
                  simp only [↓sxD, ↓sxP0, ↓sxP3, ↓sxGd, sxP1, sxF, sxA, sxS, sxK, sxG, sxZ, sxH, sxU, encs, tys, sxN, sevalprocAttr, ne_eq, decide_true, decide_false]
                  refine CallI.fn (hasText_s b (x.cols.take k) x.cols[k] (by simp; omega)) (by simp only [sxA, sxL, sxF, sxG, sxH, sxU, encs, sxN, sevalprocAttr, ne_eq, decide_true, decide_false] <;> (try simp) <;> (try rfl)) ?_
                  simp only [↓sxD, ↓sxP0, ↓sxP3, ↓sxGd, sxP1, sxF, sxA, sxS, sxK, sxG, sxZ, sxH, sxU, encs, tys, sxN, sevalprocAttr, ne_eq, decide_true, decide_false]
                  refine BrW.of (fun h8 => ?_) (fun h8 => ?_)
                  · simp only [↓sxD, ↓sxP0, ↓sxP3, ↓sxGd, sxP1, sxF, sxA, sxS, sxK, sxG, sxZ, sxH, sxU, encs, tys, sxN, sevalprocAttr, ne_eq, decide_true, decide_false]
                    have : colsErr [] x.cols = 5 := by rw [hce]; simp [h7, h8]
                    exact EndW.fn (by simp only [sxL, sxG, sxH, sxU, encs, kpLL_map, sxN, sevalprocAttr, ne_eq, decide_true, decide_false] <;> (try simp [runErr, h1, h2, h3, h4, h5, h6, this]) <;> (try omega)) (by simp only [sxL, sxG, sxH, sxU, encs, kpLL_map, sxN, sevalprocAttr, ne_eq, decide_true, decide_false] <;> (try simp) <;> (try omega))
                  · simp only [↓sxD, ↓sxP0, ↓sxP3, ↓sxGd, sxP1, sxF, sxA, sxS, sxK, sxG, sxZ, sxH, sxU, encs, tys, sxN, sevalprocAttr, ne_eq, decide_true, decide_false]
                    (with_reducible refine Vc.go ?_ fun _ => ?_); focus (first | omega | (simp only [InK]; omega) | (simp [InK]; done) | (simp [InK]; omega))
                    simp only [↓sxD, ↓sxP0, ↓sxP3, ↓sxGd, sxP1, sxF, sxA, sxS, sxK, sxG, sxZ, sxH, sxU, encs, tys, sxN, sevalprocAttr, ne_eq, decide_true, decide_false]
                    refine ⟨k + 1, StLe.auto (by simp only [sxS, sxL, sxF, sxG, sxH, sxU, encs, sxN, sevalprocAttr, ne_eq, decide_true, decide_false] <;> (try simp) <;> (try omega)), ?_, ?_⟩
                    · exact ⟨hlt, by rw [hce]; simp [h7, h8]⟩
                    · omega
                · simp only [↓sxD, ↓sxP0, ↓sxP3, ↓sxGd, sxP1, sxF, sxA, sxS, sxK, sxG, sxZ, sxH, sxU, encs, tys, sxN, sevalprocAttr, ne_eq, decide_true, decide_false]
                  have : colsErr [] x.cols = 4 := by rw [hce]; simp [h7]
                  exact EndW.fn (by simp only [sxL, sxG, sxH, sxU, encs, kpLL_map, sxN, sevalprocAttr, ne_eq, decide_true, decide_false] <;> (try simp [runErr, h1, h2, h3, h4, h5, h6, this]) <;> (try omega)) (by simp only [sxL, sxG, sxH, sxU, encs, kpLL_map, sxN, sevalprocAttr, ne_eq, decide_true, decide_false] <;> (try simp) <;> (try omega))
              · simp only [↓sxD, ↓sxP0, ↓sxP3, ↓sxGd, sxP1, sxF, sxA, sxS, sxK, sxG, sxZ, sxH, sxU, encs, tys, sxN, sevalprocAttr, ne_eq, decide_true, decide_false]
                have hke : k = x.cols.length := by omega
                subst hke
                have hz : colsErr [] x.cols = 0 := by rw [← ht]; simp [colsErr]
                refine CallI.fn (withinB_s x.ready 0 10000) (by simp only [sxA, sxL, sxF, sxG, sxH, sxU, encs, sxN, sevalprocAttr, ne_eq, decide_true, decide_false] <;> (try simp) <;> (try rfl)) ?_
                simp only [↓sxD, ↓sxP0, ↓sxP3, ↓sxGd, sxP1, sxF, sxA, sxS, sxK, sxG, sxZ, sxH, sxU, encs, tys, sxN, sevalprocAttr, ne_eq, decide_true, decide_false]
                refine BrW.dec (fun h7 => ?_) (fun h7 => ?_)
                · simp only [↓sxD, ↓sxP0, ↓sxP3, ↓sxGd, sxP1, sxF, sxA, sxS, sxK, sxG, sxZ, sxH, sxU, encs, tys, sxN, sevalprocAttr, ne_eq, decide_true, decide_false]
                  refine CallI.fn (withinB_s x.hour 1 10000) (by simp only [sxA, sxL, sxF, sxG, sxH, sxU, encs, sxN, sevalprocAttr, ne_eq, decide_true, decide_false] <;> (try simp) <;> (try rfl)) ?_
                  simp only [↓sxD, ↓sxP0, ↓sxP3, ↓sxGd, sxP1, sxF, sxA, sxS, sxK, sxG, sxZ, sxH, sxU, encs, tys, sxN, sevalprocAttr, ne_eq, decide_true, decide_false]
                  refine BrW.dec (fun h8 => ?_) (fun h8 => ?_)
                  · simp only [↓sxD, ↓sxP0, ↓sxP3, ↓sxGd, sxP1, sxF, sxA, sxS, sxK, sxG, sxZ, sxH, sxU, encs, tys, sxN, sevalprocAttr, ne_eq, decide_true, decide_false]
                    exact EndW.fn (by simp only [sxL, sxG, sxH, sxU, encs, kpLL_map, sxN, sevalprocAttr, ne_eq, decide_true, decide_false] <;> (try simp [runErr, h1, h2, h3, h4, h5, h6, hz, h7, h8]) <;> (try omega)) (by simp only [sxL, sxG, sxH, sxU, encs, kpLL_map, sxN, sevalprocAttr, ne_eq, decide_true, decide_false] <;> (try simp) <;> (try omega))
                  · simp only [↓sxD, ↓sxP0, ↓sxP3, ↓sxGd, sxP1, sxF, sxA, sxS, sxK, sxG, sxZ, sxH, sxU, encs, tys, sxN, sevalprocAttr, ne_eq, decide_true, decide_false]
                    exact EndW.fn (by simp only [sxL, sxG, sxH, sxU, encs, kpLL_map, sxN, sevalprocAttr, ne_eq, decide_true, decide_false] <;> (try simp [runErr, h1, h2, h3, h4, h5, h6, hz, h7, h8]) <;> (try omega)) (by simp only [sxL, sxG, sxH, sxU, encs, kpLL_map, sxN, sevalprocAttr, ne_eq, decide_true, decide_false] <;> (try simp) <;> (try omega))
                · simp only [↓sxD, ↓sxP0, ↓sxP3, ↓sxGd, sxP1, sxF, sxA, sxS, sxK, sxG, sxZ, sxH, sxU, encs, tys, sxN, sevalprocAttr, ne_eq, decide_true, decide_false]
                  exact EndW.fn (by simp only [sxL, sxG, sxH, sxU, encs, kpLL_map, sxN, sevalprocAttr, ne_eq, decide_true, decide_false] <;> (try simp [runErr, h1, h2, h3, h4, h5, h6, hz, h7]) <;> (try omega)) (by simp only [sxL, sxG, sxH, sxU, encs, kpLL_map, sxN, sevalprocAttr, ne_eq, decide_true, decide_false] <;> (try simp) <;> (try omega))
        · simp only [↓sxD, ↓sxP0, ↓sxP3, ↓sxGd, sxP1, sxF, sxA, sxS, sxK, sxG, sxZ, sxH, sxU, encs, tys, sxN, sevalprocAttr, ne_eq, decide_true, decide_false]
          exact EndW.fn (by simp only [sxL, sxG, sxH, sxU, encs, kpLL_map, sxN, sevalprocAttr, ne_eq, decide_true, decide_false] <;> (try simp [runErr, h1, h2, h3, h4]) <;> (try omega)) (by simp only [sxL, sxG, sxH, sxU, encs, kpLL_map, sxN, sevalprocAttr, ne_eq, decide_true, decide_false] <;> (try simp) <;> (try omega))
      · simp only [↓sxD, ↓sxP0, ↓sxP3, ↓sxGd, sxP1, sxF, sxA, sxS, sxK, sxG, sxZ, sxH, sxU, encs, tys, sxN, sevalprocAttr, ne_eq, decide_true, decide_false]
        exact EndW.fn (by simp only [sxL, sxG, sxH, sxU, encs, kpLL_map, sxN, sevalprocAttr, ne_eq, decide_true, decide_false] <;> (try simp [runErr, h1, h2, h3]) <;> (try omega)) (by simp only [sxL, sxG, sxH, sxU, encs, kpLL_map, sxN, sevalprocAttr, ne_eq, decide_true, decide_false] <;> (try simp) <;> (try omega))
    · simp only [↓sxD, ↓sxP0, ↓sxP3, ↓sxGd, sxP1, sxF, sxA, sxS, sxK, sxG, sxZ, sxH, sxU, encs, tys, sxN, sevalprocAttr, ne_eq, decide_true, decide_false]
      exact EndW.fn (by simp only [sxL, sxG, sxH, sxU, encs, kpLL_map, sxN, sevalprocAttr, ne_eq, decide_true, decide_false] <;> (try simp [runErr, h1, h2]) <;> (try omega)) (by simp only [sxL, sxG, sxH, sxU, encs, kpLL_map, sxN, sevalprocAttr, ne_eq, decide_true, decide_false] <;> (try simp) <;> (try omega))
  · simp only [↓sxD, ↓sxP0, ↓sxP3, ↓sxGd, sxP1, sxF, sxA, sxS, sxK, sxG, sxZ, sxH, sxU, encs, tys, sxN, sevalprocAttr, ne_eq, decide_true, decide_false]
    exact EndW.fn (by simp only [sxL, sxG, sxH, sxU, encs, kpLL_map, sxN, sevalprocAttr, ne_eq, decide_true, decide_false] <;> (try simp [runErr, h1]) <;> (try omega)) (by simp only [sxL, sxG, sxH, sxU, encs, kpLL_map, sxN, sevalprocAttr, ne_eq, decide_true, decide_false] <;> (try simp) <;> (try omega))
structure RunOk (x : Run) : Prop where
  g0 : 1 ≤ x.given
  g1 : x.given ≤ 2000
  n0 : 1 ≤ x.cols.length
  n1 : x.cols.length ≤ 6
  r0 : 0 ≤ x.ready
  r1 : x.ready ≤ 10000
  h0 : 1 ≤ x.hour
  h1 : x.hour ≤ 10000
theorem colsErr_cases : ∀ (l p : List ByteArray), colsErr p l = 0 ∨ colsErr p l = 4 ∨ colsErr p l = 5
  | [], p => .inl rfl
  | x :: l, p => by
    simp only [colsErr]
    split
    · split
      · simp
      · exact colsErr_cases l _
    · simp
theorem runErr_ok {x : Run} (h : runErr x = 0) : RunOk x := by
  unfold runErr at h
  split at h
  · split at h
    · split at h
      · omega
      · split at h
        · omega
        · split at h
          · split at h
            · have : x.cols.length ≠ 0 := fun e => by rename_i h1 _ _ _; exact h1 (List.length_eq_zero_iff.1 e)
              constructor <;> omega
            · omega
          · rename_i h2; exact (h2 h).elim
    · omega
  · omega
def runMin (x : Run) : Int := x.ready * (x.cols.length : Int) + (60 * x.given * (x.cols.length : Int) + x.hour - 1) / x.hour
theorem runMin_b {x : Run} (h : RunOk x) : 0 ≤ x.ready * (x.cols.length : Int) ∧ x.ready * (x.cols.length : Int) ≤ 60000 ∧ 0 ≤ 60 * x.given * (x.cols.length : Int) ∧ 60 * x.given * (x.cols.length : Int) ≤ 720000 ∧
    0 ≤ (60 * x.given * (x.cols.length : Int) + x.hour - 1) / x.hour ∧ (60 * x.given * (x.cols.length : Int) + x.hour - 1) / x.hour ≤ 730000 := by
  obtain ⟨g0, g1, n0, n1, r0, r1, h0, h1⟩ := h
  have a1 : x.ready * (x.cols.length : Int) ≤ 10000 * 6 := Int.mul_le_mul r1 (by omega) (by omega) (by omega)
  have a2 : 0 ≤ x.ready * (x.cols.length : Int) := Int.mul_nonneg r0 (by omega)
  have a3 : 60 * x.given * (x.cols.length : Int) ≤ (60 * 2000) * 6 := Int.mul_le_mul (by omega) (by omega) (by omega) (by omega)
  have a4 : 0 ≤ 60 * x.given * (x.cols.length : Int) := Int.mul_nonneg (by omega) (by omega)
  have a5 : 0 ≤ (60 * x.given * (x.cols.length : Int) + x.hour - 1) / x.hour := Int.ediv_nonneg (by omega) (by omega)
  have a6 := Int.ediv_le_self x.hour (a := 60 * x.given * (x.cols.length : Int) + x.hour - 1) (by omega)
  exact ⟨a2, by omega, a4, by omega, a5, by omega⟩
theorem minutes_s (b : Bool) (x : Run) (h : RunOk x) : Ctr Try.prog 77 [rV b x] (fun rr => rr = ⟨(.v (.int .i64 (runMin x))), []⟩) := by
  have hb := runMin_b h
  have h60 : 0 ≤ 60 * x.given ∧ 60 * x.given ≤ 120000 := by have := h.g0; have := h.g1; omega
  have := h.h0
  have := h.h1
  refine Ctr.of (rs := [.tmp 2]) Tok true Try.func77 rfl rfl rfl rfl (by simp [ofDL]) (fun w0 kp => ?_)
  simp only [↓sxD, ↓sxP0, ↓sxP3, ↓sxGd, sxP1, sxF, sxA, sxS, sxK, sxG, sxZ, sxH, sxU, encs, tys, sxN, sevalprocAttr, ne_eq, decide_true, decide_false]
  refine DrawW.plan Tok mixed (.q 0 <| .q 1 <| .q 2 <| .q 3 <| .q 4 <| .q 5 <| .q 6 <| .q 7 <| .q 8 <| .q 9 <| .q 10 <| .q 11 <| .q 12 <| .q 13 <| .q 14 <| .e 15 [1, 3] <| .q 16 <| .q 17 <| .done) (by kernel_rfl) (by kernel_rfl) ?_
  simp only [↓sxD, ↓sxP0, ↓sxP3, ↓sxGd, sxP1, sxF, sxA, sxS, sxK, sxG, sxZ, sxH, sxU, encs, tys, sxN, sevalprocAttr, ne_eq, decide_true, decide_false]
  repeat ((with_reducible refine Vc.go ?_ fun _ => ?_); (focus (first | omega | (simp only [InK]; omega) | (simp [InK]; done) | (simp [InK]; omega))); simp only [↓sxD, ↓sxP0, ↓sxP3, ↓sxGd, sxP1, sxF, sxA, sxS, sxK, sxG, sxZ, sxH, sxU, encs, tys, sxN, sevalprocAttr, ne_eq, decide_true, decide_false])
  refine CallI.fn (up_s (60 * x.given * (x.cols.length : Int)) x.hour (by omega) (by omega) (by omega) (by omega)) (by simp only [sxA, sxL, sxF, sxG, sxH, sxU, encs, sxN, sevalprocAttr, ne_eq, decide_true, decide_false] <;> (try simp) <;> (try rfl)) ?_
  simp only [↓sxD, ↓sxP0, ↓sxP3, ↓sxGd, sxP1, sxF, sxA, sxS, sxK, sxG, sxZ, sxH, sxU, encs, tys, sxN, sevalprocAttr, ne_eq, decide_true, decide_false]
  (with_reducible refine Vc.go ?_ fun _ => ?_); focus (first | omega | (simp only [InK]; omega) | (simp [InK]; done) | (simp [InK]; omega))
  simp only [↓sxD, ↓sxP0, ↓sxP3, ↓sxGd, sxP1, sxF, sxA, sxS, sxK, sxG, sxZ, sxH, sxU, encs, tys, sxN, sevalprocAttr, ne_eq, decide_true, decide_false]
  exact EndW.fn (by simp only [sxL, sxG, sxH, sxU, encs, kpLL_map, sxN, sevalprocAttr, ne_eq, decide_true, decide_false] <;> (try simp [runMin]) <;> (try omega)) (by simp only [sxL, sxG, sxH, sxU, encs, kpLL_map, sxN, sevalprocAttr, ne_eq, decide_true, decide_false] <;> (try simp) <;> (try omega))
theorem runMinutesR_s (b : Bool) (x : Run) (h : RunOk x) : Ctr Try.prog 22 [rV b x] (fun rr => rr = ⟨(.v (.int .i64 (runMin x))), []⟩) := by
  have hb := runMin_b h
  have h60 : 0 ≤ 60 * x.given ∧ 60 * x.given ≤ 120000 := by have := h.g0; have := h.g1; omega
  have := h.h0
  have := h.h1
  refine Ctr.of (rs := [.tmp 2]) Tok true Try.func22 rfl rfl rfl rfl (by simp [ofDL]) (fun w0 kp => ?_)
  simp only [↓sxD, ↓sxP0, ↓sxP3, ↓sxGd, sxP1, sxF, sxA, sxS, sxK, sxG, sxZ, sxH, sxU, encs, tys, sxN, sevalprocAttr, ne_eq, decide_true, decide_false]
  refine DrawW.plan Tok mixed (.q 0 <| .q 1 <| .q 2 <| .q 3 <| .q 4 <| .q 5 <| .q 6 <| .q 7 <| .q 8 <| .q 9 <| .q 10 <| .e 11 [1] <| .q 12 <| .q 13 <| .done) (by kernel_rfl) (by kernel_rfl) ?_
  simp only [↓sxD, ↓sxP0, ↓sxP3, ↓sxGd, sxP1, sxF, sxA, sxS, sxK, sxG, sxZ, sxH, sxU, encs, tys, sxN, sevalprocAttr, ne_eq, decide_true, decide_false]
  repeat ((with_reducible refine Vc.go ?_ fun _ => ?_); (focus (first | omega | (simp only [InK]; omega) | (simp [InK]; done) | (simp [InK]; omega))); simp only [↓sxD, ↓sxP0, ↓sxP3, ↓sxGd, sxP1, sxF, sxA, sxS, sxK, sxG, sxZ, sxH, sxU, encs, tys, sxN, sevalprocAttr, ne_eq, decide_true, decide_false])
  refine CallI.fn (ceil_s (60 * x.given * (x.cols.length : Int)) x.hour (by omega) (by omega) (by omega) (by omega)) (by simp only [sxA, sxL, sxF, sxG, sxH, sxU, encs, sxN, sevalprocAttr, ne_eq, decide_true, decide_false] <;> (try simp) <;> (try rfl)) ?_
  simp only [↓sxD, ↓sxP0, ↓sxP3, ↓sxGd, sxP1, sxF, sxA, sxS, sxK, sxG, sxZ, sxH, sxU, encs, tys, sxN, sevalprocAttr, ne_eq, decide_true, decide_false]
  (with_reducible refine Vc.go ?_ fun _ => ?_); focus (first | omega | (simp only [InK]; omega) | (simp [InK]; done) | (simp [InK]; omega))
  simp only [↓sxD, ↓sxP0, ↓sxP3, ↓sxGd, sxP1, sxF, sxA, sxS, sxK, sxG, sxZ, sxH, sxU, encs, tys, sxN, sevalprocAttr, ne_eq, decide_true, decide_false]
  exact EndW.fn (by simp only [sxL, sxG, sxH, sxU, encs, kpLL_map, sxN, sevalprocAttr, ne_eq, decide_true, decide_false] <;> (try simp [runMin]) <;> (try omega)) (by simp only [sxL, sxG, sxH, sxU, encs, kpLL_map, sxN, sevalprocAttr, ne_eq, decide_true, decide_false] <;> (try simp) <;> (try omega))
theorem runMinutes_s (b : Bool) (x : Run) : Ctr Try.prog 17 [rV b x] (fun rr => rr = ⟨.tup [(.v (.int .i64 (if runErr x = 0 then runMin x else 0))), (.v (.int .i64 (runErr x)))], []⟩) := by
  refine Ctr.of (rs := [.tmp 2, .tmp 3]) Tok true Try.func17 rfl rfl rfl rfl (by simp [ofDL]) (fun w0 kp => ?_)
  simp only [↓sxD, ↓sxP0, ↓sxP3, ↓sxGd, sxP1, sxF, sxA, sxS, sxK, sxG, sxZ, sxH, sxU, encs, tys, sxN, sevalprocAttr, ne_eq, decide_true, decide_false]
  refine CallI.fn (checkRun_s b x) (by simp only [sxA, sxL, sxF, sxG, sxH, sxU, encs, sxN, sevalprocAttr, ne_eq, decide_true, decide_false] <;> (try simp) <;> (try rfl)) ?_
  simp only [↓sxD, ↓sxP0, ↓sxP3, ↓sxGd, sxP1, sxF, sxA, sxS, sxK, sxG, sxZ, sxH, sxU, encs, tys, sxN, sevalprocAttr, ne_eq, decide_true, decide_false]
  refine BrW.dec (fun h => ?_) (fun h => ?_)
  · simp only [↓sxD, ↓sxP0, ↓sxP3, ↓sxGd, sxP1, sxF, sxA, sxS, sxK, sxG, sxZ, sxH, sxU, encs, tys, sxN, sevalprocAttr, ne_eq, decide_true, decide_false]
    exact EndW.fn (by simp only [sxL, sxG, sxH, sxU, encs, kpLL_map, sxN, sevalprocAttr, ne_eq, decide_true, decide_false] <;> (try simp [h]) <;> (try omega)) (by simp only [sxL, sxG, sxH, sxU, encs, kpLL_map, sxN, sevalprocAttr, ne_eq, decide_true, decide_false] <;> (try simp) <;> (try omega))
  · simp only [↓sxD, ↓sxP0, ↓sxP3, ↓sxGd, sxP1, sxF, sxA, sxS, sxK, sxG, sxZ, sxH, sxU, encs, tys, sxN, sevalprocAttr, ne_eq, decide_true, decide_false]
    have h : runErr x = 0 := Decidable.not_not.1 h
    refine CallI.fn (minutes_s b x (runErr_ok h)) (by simp only [sxA, sxL, sxF, sxG, sxH, sxU, encs, sxN, sevalprocAttr, ne_eq, decide_true, decide_false] <;> (try simp) <;> (try rfl)) ?_
    simp only [↓sxD, ↓sxP0, ↓sxP3, ↓sxGd, sxP1, sxF, sxA, sxS, sxK, sxG, sxZ, sxH, sxU, encs, tys, sxN, sevalprocAttr, ne_eq, decide_true, decide_false]
    exact EndW.fn (by simp only [sxL, sxG, sxH, sxU, encs, kpLL_map, sxN, sevalprocAttr, ne_eq, decide_true, decide_false] <;> (try simp [h]) <;> (try omega)) (by simp only [sxL, sxG, sxH, sxU, encs, kpLL_map, sxN, sevalprocAttr, ne_eq, decide_true, decide_false] <;> (try simp) <;> (try omega))
end Go.Proofs.Ytaagelngbbkllaa
