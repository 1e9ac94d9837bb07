/-
  Chapter 8, walks: two marks in the other order, the second one breaks.
-/
import Derived.Test.YtenohgpackcjbaaVW11
namespace Go.Proofs.Ytenohgpackcjbaa
open Go Go.Vx
set_option linter.unusedSimpArgs false
set_option linter.unusedVariables false
set_option maxRecDepth 20000
set_option maxHeartbeats 16000000 in
theorem swappedK_s (a b : Mk) (ha : inR a = true) (hb : inR b = true) (h1 : a.mark ≠ 5) (h2 : a.mark ≠ 6) (h3 : b.mark = 5) : Ctr Try.prog 66 [mV a, mV b] (fun rr => rr = ⟨.tup [prSV (swapF (breaksP a b)).1, (.v (.int .i64 ((swapF (breaksP a b)).2)))], []⟩) := by
  have encs := And.intro encs prE
  obtain ⟨⟨a1, a2⟩, a3, a4⟩ := inR_b ha
  obtain ⟨⟨b1, b2⟩, b3, b4⟩ := inR_b hb
  have la := lenM_b a
  have lb := lenM_b b
  have sb := shM_b b
  have ah := ahM_b a
  have bh := ahM_b b
  refine Ctr.of (rs := [.cell 4 39, .tmp 5]) Tok true Try.func66 rfl rfl rfl rfl (by simp [ofDL]) (fun w0 kp => ?_)
  simp only [↓sx0, sx1, encs, tys, sxR, sevalprocAttr]
  refine CallI.inlG (rs := [.tmp 2]) Tok (fun h => by first | cases h; done | rfl) Try.func100 rfl rfl rfl rfl (by simp) (fun ρ σ μ fr lp => ?_) (by refine ⟨_, ?_, rfl⟩; rfl)
  simp only [↓sx0, sx1, encs, tys, sxR, sevalprocAttr]
  refine BrW.no h1 ?_
  simp only [↓sx0, sx1, encs, tys, sxR, sevalprocAttr]
  refine BrW.no h2 ?_
  simp only [↓sx0, sx1, encs, tys, sxR, sevalprocAttr]
  refine BrW.yes h3 ?_
  simp only [↓sx0, sx1, encs, tys, sxR, sevalprocAttr]
  refine CallI.inlG (rs := [.tmp 2]) Tok (fun h => by first | cases h; done | rfl) Try.func127 rfl rfl rfl rfl (by simp) (fun ρ σ μ fr lp => ?_) (by refine ⟨_, ?_, rfl⟩; rfl)
  simp only [↓sx0, sx1, encs, tys, sxR, sevalprocAttr]
  refine DrawW.plan Tok mixed (.q 0 <| .q 1 <| .q 2 <| .q 3 <| .q 4 <| .q 5 <| .q 6 <| .q 7 <| .e2 8 [1, 3, 5, 7] (.e 9 [1, 3, 5, 7] <| .e 10 [5, 7] <| .e 11 [] <| .done) 9 [1, 3, 5, 7] (.e 8 [1, 3, 5, 7] <| .e 10 [5, 7] <| .e 11 [] <| .done)) (by kernel_rfl) (by kernel_rfl) ?_
  simp only [↓sx0, sx1, encs, tys, sxR, sevalprocAttr]

  refine And.intro ?_ ?_
  all_goals (
    skip
    refine BrW.dec (fun p4 => ?_) (fun p4 => ?_)
    · simp only [↓sx0, sx1, encs, tys, sxR, sevalprocAttr]
      have hq : breaksP a b = some (a, b) := by rw [breaksP, if_pos (by omega)]
      rw [hq]
      refine CallI.fn (inRange_s (a)) (by simp only [sx3, encs, sxR, sevalprocAttr] <;> (try simp) <;> (try rfl)) ?_
      simp only [↓sx0, sx1, encs, tys, sxR, sevalprocAttr]
      refine BrW.of (fun r1 => ?_) (fun r1 => ?_)
      · simp only [↓sx0, sx1, encs, tys, sxR, sevalprocAttr]
        refine CallI.fn (inRange_s (b)) (by simp only [sx3, encs, sxR, sevalprocAttr] <;> (try simp) <;> (try rfl)) ?_
        simp only [↓sx0, sx1, encs, tys, sxR, sevalprocAttr]
        refine BrW.of (fun r2 => ?_) (fun r2 => ?_)
        · simp only [↓sx0, sx1, encs, tys, sxR, sevalprocAttr]
          refine CallI.fn (containsM_s true 102 p0B [b, a] (by simp) (fun x _ => swapped1_s x)) (by simp only [sx3, encs, sxR, sevalprocAttr] <;> (try simp) <;> (try rfl)) ?_
          simp only [↓sx0, sx1, encs, tys, sxR, sevalprocAttr]
          refine BrW.of (fun r3 => ?_) (fun r3 => ?_)
          · simp only [↓sx0, sx1, encs, tys, sxR, sevalprocAttr]
            have r3 : p0B (b) = true ∨ p0B (a) = true := by simpa using r3
            rw [show swapF (some (a, b)) = ((mk0, mk0), 3) by simp only [swapF]; rw [if_pos ⟨r1, r2⟩, if_pos r3]]
            exact EndW.fn (by simp only [sx4, encs, kpLL_map, sxR, sevalprocAttr] <;> (try simp) <;> (try omega)) (by simp only [sx4, encs, kpLL_map, sxR, sevalprocAttr] <;> (try simp) <;> (try omega))
          · simp only [↓sx0, sx1, encs, tys, sxR, sevalprocAttr]
            have r3 : ¬ (p0B (b) = true ∨ p0B (a) = true) := by simpa using r3
            rw [show swapF (some (a, b)) = ((b, a), 0) by simp only [swapF]; rw [if_pos ⟨r1, r2⟩, if_neg r3]]
            exact EndW.fn (by simp only [sx4, encs, kpLL_map, sxR, sevalprocAttr] <;> (try simp) <;> (try omega)) (by simp only [sx4, encs, kpLL_map, sxR, sevalprocAttr] <;> (try simp) <;> (try omega))
        · simp only [↓sx0, sx1, encs, tys, sxR, sevalprocAttr]
          rw [show swapF (some (a, b)) = ((mk0, mk0), 2) by simp only [swapF]; rw [if_neg (by rw [r2]; simp)]]
          exact EndW.fn (by simp only [sx4, encs, kpLL_map, sxR, sevalprocAttr] <;> (try simp) <;> (try omega)) (by simp only [sx4, encs, kpLL_map, sxR, sevalprocAttr] <;> (try simp) <;> (try omega))
      · simp only [↓sx0, sx1, encs, tys, sxR, sevalprocAttr]
        rw [show swapF (some (a, b)) = ((mk0, mk0), 2) by simp only [swapF]; rw [if_neg (by rw [r1]; simp)]]
        exact EndW.fn (by simp only [sx4, encs, kpLL_map, sxR, sevalprocAttr] <;> (try simp) <;> (try omega)) (by simp only [sx4, encs, kpLL_map, sxR, sevalprocAttr] <;> (try simp) <;> (try omega))
    · simp only [↓sx0, sx1, encs, tys, sxR, sevalprocAttr]
      refine BrW.dec (fun p3 => ?_) (fun p3 => ?_)
      · simp only [↓sx0, sx1, encs, tys, sxR, sevalprocAttr]
        repeat ((with_reducible refine Vc.go ?_ fun _ => ?_); (focus (first | omega | (simp only [InK]; omega) | (simp [InK]; done) | (simp [InK]; omega))); simp only [↓sx0, sx1, encs, tys, sxR, sevalprocAttr])
        have hq : breaksP a b = some ({ a with part := a.part + 1 }, b) := by rw [breaksP, if_neg (by omega), if_pos (by omega)]
        rw [hq]
        refine CallI.fn (inRange_s ({ a with part := a.part + 1 })) (by simp only [sx3, encs, sxR, sevalprocAttr] <;> (try simp) <;> (try rfl)) ?_
        simp only [↓sx0, sx1, encs, tys, sxR, sevalprocAttr]
        refine BrW.of (fun r1 => ?_) (fun r1 => ?_)
        · simp only [↓sx0, sx1, encs, tys, sxR, sevalprocAttr]
          refine CallI.fn (inRange_s (b)) (by simp only [sx3, encs, sxR, sevalprocAttr] <;> (try simp) <;> (try rfl)) ?_
          simp only [↓sx0, sx1, encs, tys, sxR, sevalprocAttr]
          refine BrW.of (fun r2 => ?_) (fun r2 => ?_)
          · simp only [↓sx0, sx1, encs, tys, sxR, sevalprocAttr]
            refine CallI.fn (containsM_s true 102 p0B [b, { a with part := a.part + 1 }] (by simp) (fun x _ => swapped1_s x)) (by simp only [sx3, encs, sxR, sevalprocAttr] <;> (try simp) <;> (try rfl)) ?_
            simp only [↓sx0, sx1, encs, tys, sxR, sevalprocAttr]
            refine BrW.of (fun r3 => ?_) (fun r3 => ?_)
            · simp only [↓sx0, sx1, encs, tys, sxR, sevalprocAttr]
              have r3 : p0B (b) = true ∨ p0B ({ a with part := a.part + 1 }) = true := by simpa using r3
              rw [show swapF (some ({ a with part := a.part + 1 }, b)) = ((mk0, mk0), 3) by simp only [swapF]; rw [if_pos ⟨r1, r2⟩, if_pos r3]]
              exact EndW.fn (by simp only [sx4, encs, kpLL_map, sxR, sevalprocAttr] <;> (try simp) <;> (try omega)) (by simp only [sx4, encs, kpLL_map, sxR, sevalprocAttr] <;> (try simp) <;> (try omega))
            · simp only [↓sx0, sx1, encs, tys, sxR, sevalprocAttr]
              have r3 : ¬ (p0B (b) = true ∨ p0B ({ a with part := a.part + 1 }) = true) := by simpa using r3
              rw [show swapF (some ({ a with part := a.part + 1 }, b)) = ((b, { a with part := a.part + 1 }), 0) by simp only [swapF]; rw [if_pos ⟨r1, r2⟩, if_neg r3]]
              exact EndW.fn (by simp only [sx4, encs, kpLL_map, sxR, sevalprocAttr] <;> (try simp) <;> (try omega)) (by simp only [sx4, encs, kpLL_map, sxR, sevalprocAttr] <;> (try simp) <;> (try omega))
          · simp only [↓sx0, sx1, encs, tys, sxR, sevalprocAttr]
            rw [show swapF (some ({ a with part := a.part + 1 }, b)) = ((mk0, mk0), 2) by simp only [swapF]; rw [if_neg (by rw [r2]; simp)]]
            exact EndW.fn (by simp only [sx4, encs, kpLL_map, sxR, sevalprocAttr] <;> (try simp) <;> (try omega)) (by simp only [sx4, encs, kpLL_map, sxR, sevalprocAttr] <;> (try simp) <;> (try omega))
        · simp only [↓sx0, sx1, encs, tys, sxR, sevalprocAttr]
          rw [show swapF (some ({ a with part := a.part + 1 }, b)) = ((mk0, mk0), 2) by simp only [swapF]; rw [if_neg (by rw [r1]; simp)]]
          exact EndW.fn (by simp only [sx4, encs, kpLL_map, sxR, sevalprocAttr] <;> (try simp) <;> (try omega)) (by simp only [sx4, encs, kpLL_map, sxR, sevalprocAttr] <;> (try simp) <;> (try omega))
      · simp only [↓sx0, sx1, encs, tys, sxR, sevalprocAttr]
        refine CallI.fn (ofWords_s a) (by simp only [sx3, encs, sxR, sevalprocAttr] <;> (try simp) <;> (try rfl)) ?_
        simp only [↓sx0, sx1, encs, tys, sxR, sevalprocAttr]
        refine BrW.of (fun o1 => ?_) (fun o1 => ?_)
        · simp only [↓sx0, sx1, encs, tys, sxR, sevalprocAttr]
          refine BrW.dec (fun p2 => ?_) (fun p2 => ?_)
          · simp only [↓sx0, sx1, encs, tys, sxR, sevalprocAttr]
            repeat ((with_reducible refine Vc.go ?_ fun _ => ?_); (focus (first | omega | (simp only [InK]; omega) | (simp [InK]; done) | (simp [InK]; omega))); simp only [↓sx0, sx1, encs, tys, sxR, sevalprocAttr])
            refine DrawW.plan Tok mixed (.q 0 <| .q 1 <| .q 2 <| .q 3 <| .q 4 <| .q 5 <| .q 6 <| .q 7 <| .q 8 <| .q 9 <| .e 10 [] <| .done) (by kernel_rfl) (by kernel_rfl) ?_
            simp only [↓sx0, sx1, encs, tys, sxR, sevalprocAttr]
            repeat ((with_reducible refine Vc.go ?_ fun _ => ?_); (focus (first | omega | (simp only [InK]; omega) | (simp [InK]; done) | (simp [InK]; omega))); simp only [↓sx0, sx1, encs, tys, sxR, sevalprocAttr])
            have hq : breaksP a b = some ({ a with part := a.part + 1, word := a.word - b.word }, b) := by rw [breaksP, if_neg (by omega), if_neg (by omega), if_pos o1, if_pos (by omega)]
            rw [hq]
            refine CallI.fn (inRange_s ({ a with part := a.part + 1, word := a.word - b.word })) (by simp only [sx3, encs, sxR, sevalprocAttr] <;> (try simp) <;> (try rfl)) ?_
            simp only [↓sx0, sx1, encs, tys, sxR, sevalprocAttr]
            refine BrW.of (fun r1 => ?_) (fun r1 => ?_)
            · simp only [↓sx0, sx1, encs, tys, sxR, sevalprocAttr]
              refine CallI.fn (inRange_s (b)) (by simp only [sx3, encs, sxR, sevalprocAttr] <;> (try simp) <;> (try rfl)) ?_
              simp only [↓sx0, sx1, encs, tys, sxR, sevalprocAttr]
              refine BrW.of (fun r2 => ?_) (fun r2 => ?_)
              · simp only [↓sx0, sx1, encs, tys, sxR, sevalprocAttr]
                refine CallI.fn (containsM_s true 102 p0B [b, { a with part := a.part + 1, word := a.word - b.word }] (by simp) (fun x _ => swapped1_s x)) (by simp only [sx3, encs, sxR, sevalprocAttr] <;> (try simp) <;> (try rfl)) ?_
                simp only [↓sx0, sx1, encs, tys, sxR, sevalprocAttr]
                refine BrW.of (fun r3 => ?_) (fun r3 => ?_)
                · simp only [↓sx0, sx1, encs, tys, sxR, sevalprocAttr]
                  have r3 : p0B (b) = true ∨ p0B ({ a with part := a.part + 1, word := a.word - b.word }) = true := by simpa using r3
                  rw [show swapF (some ({ a with part := a.part + 1, word := a.word - b.word }, b)) = ((mk0, mk0), 3) by simp only [swapF]; rw [if_pos ⟨r1, r2⟩, if_pos r3]]
                  exact EndW.fn (by simp only [sx4, encs, kpLL_map, sxR, sevalprocAttr] <;> (try simp) <;> (try omega)) (by simp only [sx4, encs, kpLL_map, sxR, sevalprocAttr] <;> (try simp) <;> (try omega))
                · simp only [↓sx0, sx1, encs, tys, sxR, sevalprocAttr]
                  have r3 : ¬ (p0B (b) = true ∨ p0B ({ a with part := a.part + 1, word := a.word - b.word }) = true) := by simpa using r3
                  rw [show swapF (some ({ a with part := a.part + 1, word := a.word - b.word }, b)) = ((b, { a with part := a.part + 1, word := a.word - b.word }), 0) by simp only [swapF]; rw [if_pos ⟨r1, r2⟩, if_neg r3]]
                  exact EndW.fn (by simp only [sx4, encs, kpLL_map, sxR, sevalprocAttr] <;> (try simp) <;> (try omega)) (by simp only [sx4, encs, kpLL_map, sxR, sevalprocAttr] <;> (try simp) <;> (try omega))
              · simp only [↓sx0, sx1, encs, tys, sxR, sevalprocAttr]
                rw [show swapF (some ({ a with part := a.part + 1, word := a.word - b.word }, b)) = ((mk0, mk0), 2) by simp only [swapF]; rw [if_neg (by rw [r2]; simp)]]
                exact EndW.fn (by simp only [sx4, encs, kpLL_map, sxR, sevalprocAttr] <;> (try simp) <;> (try omega)) (by simp only [sx4, encs, kpLL_map, sxR, sevalprocAttr] <;> (try simp) <;> (try omega))
            · simp only [↓sx0, sx1, encs, tys, sxR, sevalprocAttr]
              rw [show swapF (some ({ a with part := a.part + 1, word := a.word - b.word }, b)) = ((mk0, mk0), 2) by simp only [swapF]; rw [if_neg (by rw [r1]; simp)]]
              exact EndW.fn (by simp only [sx4, encs, kpLL_map, sxR, sevalprocAttr] <;> (try simp) <;> (try omega)) (by simp only [sx4, encs, kpLL_map, sxR, sevalprocAttr] <;> (try simp) <;> (try omega))
          · simp only [↓sx0, sx1, encs, tys, sxR, sevalprocAttr]
            refine DrawW.plan Tok mixed (.q 0 <| .q 1 <| .q 2 <| .e 3 [1] <| .q 4 <| .q 5 <| .q 6 <| .done) (by kernel_rfl) (by kernel_rfl) ?_
            simp only [↓sx0, sx1, encs, tys, sxR, sevalprocAttr]
            refine CallI.fn (behind_s a ⟨a3, by omega⟩) (by simp only [sx3, encs, sxR, sevalprocAttr] <;> (try simp) <;> (try rfl)) ?_
            simp only [↓sx0, sx1, encs, tys, sxR, sevalprocAttr]
            refine BrW.dec (fun p1 => ?_) (fun p1 => ?_)
            · simp only [↓sx0, sx1, encs, tys, sxR, sevalprocAttr]
              refine DrawW.plan Tok mixed (.q 0 <| .q 1 <| .q 2 <| .q 3 <| .q 4 <| .q 5 <| .e 6 [1, 4] <| .q 7 <| .q 8 <| .q 9 <| .e 10 [] <| .done) (by kernel_rfl) (by kernel_rfl) ?_
              simp only [↓sx0, sx1, encs, tys, sxR, sevalprocAttr]
              refine CallI.fn (lengthens_s a) (by simp only [sx3, encs, sxR, sevalprocAttr] <;> (try simp) <;> (try rfl)) ?_
              simp only [↓sx0, sx1, encs, tys, sxR, sevalprocAttr]
              repeat ((with_reducible refine Vc.go ?_ fun _ => ?_); (focus (first | omega | (simp only [InK]; omega) | (simp [InK]; done) | (simp [InK]; omega))); simp only [↓sx0, sx1, encs, tys, sxR, sevalprocAttr])
              have hq : breaksP a b = some (a, { b with word := b.word - lenM a }) := by rw [breaksP, if_neg (by omega), if_neg (by omega), if_pos o1, if_neg (by omega), if_pos (by omega)]
              rw [hq]
              refine CallI.fn (inRange_s (a)) (by simp only [sx3, encs, sxR, sevalprocAttr] <;> (try simp) <;> (try rfl)) ?_
              simp only [↓sx0, sx1, encs, tys, sxR, sevalprocAttr]
              refine BrW.of (fun r1 => ?_) (fun r1 => ?_)
              · simp only [↓sx0, sx1, encs, tys, sxR, sevalprocAttr]
                refine CallI.fn (inRange_s ({ b with word := b.word - lenM a })) (by simp only [sx3, encs, sxR, sevalprocAttr] <;> (try simp) <;> (try rfl)) ?_
                simp only [↓sx0, sx1, encs, tys, sxR, sevalprocAttr]
                refine BrW.of (fun r2 => ?_) (fun r2 => ?_)
                · simp only [↓sx0, sx1, encs, tys, sxR, sevalprocAttr]
                  refine CallI.fn (containsM_s true 102 p0B [{ b with word := b.word - lenM a }, a] (by simp) (fun x _ => swapped1_s x)) (by simp only [sx3, encs, sxR, sevalprocAttr] <;> (try simp) <;> (try rfl)) ?_
                  simp only [↓sx0, sx1, encs, tys, sxR, sevalprocAttr]
                  refine BrW.of (fun r3 => ?_) (fun r3 => ?_)
                  · simp only [↓sx0, sx1, encs, tys, sxR, sevalprocAttr]
                    have r3 : p0B ({ b with word := b.word - lenM a }) = true ∨ p0B (a) = true := by simpa using r3
                    rw [show swapF (some (a, { b with word := b.word - lenM a })) = ((mk0, mk0), 3) by simp only [swapF]; rw [if_pos ⟨r1, r2⟩, if_pos r3]]
                    exact EndW.fn (by simp only [sx4, encs, kpLL_map, sxR, sevalprocAttr] <;> (try simp) <;> (try omega)) (by simp only [sx4, encs, kpLL_map, sxR, sevalprocAttr] <;> (try simp) <;> (try omega))
                  · simp only [↓sx0, sx1, encs, tys, sxR, sevalprocAttr]
                    have r3 : ¬ (p0B ({ b with word := b.word - lenM a }) = true ∨ p0B (a) = true) := by simpa using r3
                    rw [show swapF (some (a, { b with word := b.word - lenM a })) = (({ b with word := b.word - lenM a }, a), 0) by simp only [swapF]; rw [if_pos ⟨r1, r2⟩, if_neg r3]]
                    exact EndW.fn (by simp only [sx4, encs, kpLL_map, sxR, sevalprocAttr] <;> (try simp) <;> (try omega)) (by simp only [sx4, encs, kpLL_map, sxR, sevalprocAttr] <;> (try simp) <;> (try omega))
                · simp only [↓sx0, sx1, encs, tys, sxR, sevalprocAttr]
                  rw [show swapF (some (a, { b with word := b.word - lenM a })) = ((mk0, mk0), 2) by simp only [swapF]; rw [if_neg (by rw [r2]; simp)]]
                  exact EndW.fn (by simp only [sx4, encs, kpLL_map, sxR, sevalprocAttr] <;> (try simp) <;> (try omega)) (by simp only [sx4, encs, kpLL_map, sxR, sevalprocAttr] <;> (try simp) <;> (try omega))
              · simp only [↓sx0, sx1, encs, tys, sxR, sevalprocAttr]
                rw [show swapF (some (a, { b with word := b.word - lenM a })) = ((mk0, mk0), 2) by simp only [swapF]; rw [if_neg (by rw [r1]; simp)]]
                exact EndW.fn (by simp only [sx4, encs, kpLL_map, sxR, sevalprocAttr] <;> (try simp) <;> (try omega)) (by simp only [sx4, encs, kpLL_map, sxR, sevalprocAttr] <;> (try simp) <;> (try omega))
            · simp only [↓sx0, sx1, encs, tys, sxR, sevalprocAttr]
              have hq : breaksP a b = none := by rw [breaksP, if_neg (by omega), if_neg (by omega), if_pos o1, if_neg (by omega), if_neg (by omega)]
              rw [hq, show swapF none = ((mk0, mk0), 13) from rfl]
              simp only [↓sx0, sx1, encs, tys, sxR, sevalprocAttr]
              exact EndW.fn (by simp only [sx4, encs, kpLL_map, sxR, sevalprocAttr] <;> (try simp) <;> (try omega)) (by simp only [sx4, encs, kpLL_map, sxR, sevalprocAttr] <;> (try simp) <;> (try omega))
        · simp only [↓sx0, sx1, encs, tys, sxR, sevalprocAttr]
          have hq : breaksP a b = some (a, b) := by rw [breaksP, if_neg (by omega), if_neg (by omega), if_neg (by rw [o1]; simp)]
          rw [hq]
          refine CallI.fn (inRange_s (a)) (by simp only [sx3, encs, sxR, sevalprocAttr] <;> (try simp) <;> (try rfl)) ?_
          simp only [↓sx0, sx1, encs, tys, sxR, sevalprocAttr]
          refine BrW.of (fun r1 => ?_) (fun r1 => ?_)
          · simp only [↓sx0, sx1, encs, tys, sxR, sevalprocAttr]
            refine CallI.fn (inRange_s (b)) (by simp only [sx3, encs, sxR, sevalprocAttr] <;> (try simp) <;> (try rfl)) ?_
            simp only [↓sx0, sx1, encs, tys, sxR, sevalprocAttr]
            refine BrW.of (fun r2 => ?_) (fun r2 => ?_)
            · simp only [↓sx0, sx1, encs, tys, sxR, sevalprocAttr]
              refine CallI.fn (containsM_s true 102 p0B [b, a] (by simp) (fun x _ => swapped1_s x)) (by simp only [sx3, encs, sxR, sevalprocAttr] <;> (try simp) <;> (try rfl)) ?_
              simp only [↓sx0, sx1, encs, tys, sxR, sevalprocAttr]
              refine BrW.of (fun r3 => ?_) (fun r3 => ?_)
              · simp only [↓sx0, sx1, encs, tys, sxR, sevalprocAttr]
                have r3 : p0B (b) = true ∨ p0B (a) = true := by simpa using r3
                rw [show swapF (some (a, b)) = ((mk0, mk0), 3) by simp only [swapF]; rw [if_pos ⟨r1, r2⟩, if_pos r3]]
                exact EndW.fn (by simp only [sx4, encs, kpLL_map, sxR, sevalprocAttr] <;> (try simp) <;> (try omega)) (by simp only [sx4, encs, kpLL_map, sxR, sevalprocAttr] <;> (try simp) <;> (try omega))
              · simp only [↓sx0, sx1, encs, tys, sxR, sevalprocAttr]
                have r3 : ¬ (p0B (b) = true ∨ p0B (a) = true) := by simpa using r3
                rw [show swapF (some (a, b)) = ((b, a), 0) by simp only [swapF]; rw [if_pos ⟨r1, r2⟩, if_neg r3]]
                exact EndW.fn (by simp only [sx4, encs, kpLL_map, sxR, sevalprocAttr] <;> (try simp) <;> (try omega)) (by simp only [sx4, encs, kpLL_map, sxR, sevalprocAttr] <;> (try simp) <;> (try omega))
            · simp only [↓sx0, sx1, encs, tys, sxR, sevalprocAttr]
              rw [show swapF (some (a, b)) = ((mk0, mk0), 2) by simp only [swapF]; rw [if_neg (by rw [r2]; simp)]]
              exact EndW.fn (by simp only [sx4, encs, kpLL_map, sxR, sevalprocAttr] <;> (try simp) <;> (try omega)) (by simp only [sx4, encs, kpLL_map, sxR, sevalprocAttr] <;> (try simp) <;> (try omega))
          · simp only [↓sx0, sx1, encs, tys, sxR, sevalprocAttr]
            rw [show swapF (some (a, b)) = ((mk0, mk0), 2) by simp only [swapF]; rw [if_neg (by rw [r1]; simp)]]
            exact EndW.fn (by simp only [sx4, encs, kpLL_map, sxR, sevalprocAttr] <;> (try simp) <;> (try omega)) (by simp only [sx4, encs, kpLL_map, sxR, sevalprocAttr] <;> (try simp) <;> (try omega)) )
end Go.Proofs.Ytenohgpackcjbaa
