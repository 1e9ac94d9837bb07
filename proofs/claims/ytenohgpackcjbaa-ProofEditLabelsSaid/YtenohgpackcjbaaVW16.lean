/-
  Chapter 8, walks: two marks in the other order (reference), ahead of a break or a join.
-/
import Derived.Test.YtenohgpackcjbaaVW15
namespace Go.Proofs.Ytenohgpackcjbaa
open Go Go.Vx
set_option linter.unusedSimpArgs false
set_option linter.unusedVariables false
set_option maxRecDepth 20000
set_option maxHeartbeats 8000000 in
theorem aheadBreak_s (a b : Mk) (ha : inR a = true) (hb : inR b = true) (ma : 1 ≤ a.mark ∧ a.mark ≤ 7) (mb : 1 ≤ b.mark ∧ b.mark ≤ 7) (h1 : a.mark ≠ 5) (h2 : a.mark ≠ 6) (h3 : b.mark = 5) : Ctr Try.prog 105 [mV a, mV b] (fun rr => rr = ⟨orR (breaksP a b) a b, []⟩) := by
  have encs := And.intro encs orE
  obtain ⟨⟨a1, a2⟩, a3, a4⟩ := inR_b ha
  obtain ⟨⟨b1, b2⟩, b3, b4⟩ := inR_b hb
  have la := lenM_b a
  have lb := lenM_b b
  have sb := shM_b b
  have ah := ahM_b a
  have bh := ahM_b b
  refine Ctr.of (rs := [.cell 4 24, .cell 5 24, .tmp 6]) Tok true Try.func105 rfl rfl rfl rfl (by simp [ofDL]) (fun w0 kp => ?_)
  simp only [↓sx0, sx1, encs, tys, sxR, sevalprocAttr]
  have encs := And.intro encs h3
  refine BrW.dec (fun p5 => ?_) (fun p5 => ?_)
  · simp only [↓sx0, sx1, encs, tys, sxR, sevalprocAttr]
    have hq : breaksP a b = some (a, b) := by rw [breaksP, if_pos (by omega)]
    rw [hq]
    refine DrawW.plan Tok mixed (.q 0 <| .q 1 <| .e 2 [1] <| .e 3 [] <| .q 4 <| .done) (by kernel_rfl) (by kernel_rfl) ?_
    simp only [↓sx0, sx1, encs, tys, sxR, sevalprocAttr]
    exact EndW.fn (by simp only [sx4, encs, kpLL_map, sxR, sevalprocAttr] <;> (try simp) <;> (try omega)) (by simp only [sx4, encs, kpLL_map, sxR, sevalprocAttr] <;> (try simp) <;> (try omega))
  · simp only [↓sx0, sx1, encs, tys, sxR, sevalprocAttr]
    refine BrW.dec (fun p4 => ?_) (fun p4 => ?_)
    · simp only [↓sx0, sx1, encs, tys, sxR, sevalprocAttr]
      repeat ((with_reducible refine Vc.go ?_ fun _ => ?_); (focus (first | omega | (simp only [InK]; omega) | (simp [InK]; done) | (simp [InK]; omega))); simp only [↓sx0, sx1, encs, tys, sxR, sevalprocAttr])
      have hq : breaksP a b = some ({ a with part := a.part + 1 }, b) := by rw [breaksP, if_neg (by omega), if_pos (by omega)]
      rw [hq]
      refine DrawW.plan Tok mixed (.q 0 <| .q 1 <| .e 2 [1] <| .e 3 [] <| .q 4 <| .done) (by kernel_rfl) (by kernel_rfl) ?_
      simp only [↓sx0, sx1, encs, tys, sxR, sevalprocAttr]
      exact EndW.fn (by simp only [sx4, encs, kpLL_map, sxR, sevalprocAttr] <;> (try simp) <;> (try omega)) (by simp only [sx4, encs, kpLL_map, sxR, sevalprocAttr] <;> (try simp) <;> (try omega))
    · simp only [↓sx0, sx1, encs, tys, sxR, sevalprocAttr]
      refine BrW.dec (fun p3 => ?_) (fun p3 => ?_)
      · simp only [↓sx0, sx1, encs, tys, sxR, sevalprocAttr]
        have hq : breaksP a b = some (a, b) := by rw [breaksP, if_neg (by omega), if_neg (by omega), if_neg (ow_no (by omega))]
        rw [hq]
        have hpe : a.part = b.part := by omega
        refine DrawW.plan Tok mixed (.q 0 <| .q 1 <| .q 2 <| .q 3 <| .q 4 <| .q 5 <| .q 6 <| .e 7 [1, 3, 5] <| .e 8 [3, 5] <| .q 9 <| .done) (by kernel_rfl) (by kernel_rfl) ?_
        simp only [↓sx0, sx1, encs, tys, sxR, sevalprocAttr]
        exact EndW.fn (by simp only [sx4, encs, kpLL_map, sxR, sevalprocAttr] <;> (try simp [hpe]) <;> (try omega)) (by simp only [sx4, encs, kpLL_map, sxR, sevalprocAttr] <;> (try simp) <;> (try omega))
      · simp only [↓sx0, sx1, encs, tys, sxR, sevalprocAttr]
        refine BrW.dec (fun p2 => ?_) (fun p2 => ?_)
        · simp only [↓sx0, sx1, encs, tys, sxR, sevalprocAttr]
          refine DrawW.plan Tok mixed (.q 0 <| .q 1 <| .q 2 <| .q 3 <| .q 4 <| .q 5 <| .q 6 <| .q 7 <| .q 8 <| .e 9 [6] <| .q 10 <| .e 11 [] <| .done) (by kernel_rfl) (by kernel_rfl) ?_
          simp only [↓sx0, sx1, encs, tys, sxR, sevalprocAttr]
          repeat ((with_reducible refine Vc.go ?_ fun _ => ?_); (focus (first | omega | (simp only [InK]; omega) | (simp [InK]; done) | (simp [InK]; omega))); simp only [↓sx0, sx1, encs, tys, sxR, sevalprocAttr])
          have hq : breaksP a b = some ({ a with part := a.part + 1, word := a.word - b.word }, b) := by rw [breaksP, if_neg (by omega), if_neg (by omega), if_pos (ow_yes (by omega)), if_pos (by omega)]
          rw [hq]
          refine DrawW.plan Tok mixed (.q 0 <| .q 1 <| .e 2 [1] <| .e 3 [] <| .q 4 <| .done) (by kernel_rfl) (by kernel_rfl) ?_
          simp only [↓sx0, sx1, encs, tys, sxR, sevalprocAttr]
          exact EndW.fn (by simp only [sx4, encs, kpLL_map, sxR, sevalprocAttr] <;> (try simp) <;> (try omega)) (by simp only [sx4, encs, kpLL_map, sxR, sevalprocAttr] <;> (try simp) <;> (try omega))
        · simp only [↓sx0, sx1, encs, tys, sxR, sevalprocAttr]
          refine DrawW.plan Tok mixed (.q 0 <| .q 1 <| .q 2 <| .q 3 <| .q 4 <| .e 5 [1, 3] <| .q 6 <| .q 7 <| .done) (by kernel_rfl) (by kernel_rfl) ?_
          simp only [↓sx0, sx1, encs, tys, sxR, sevalprocAttr]
          refine CallI.fn (behindR_s a (by omega)) (by simp only [sx3, encs, sxR, sevalprocAttr] <;> (try simp) <;> (try rfl)) ?_
          simp only [↓sx0, sx1, encs, tys, sxR, sevalprocAttr]
          repeat ((with_reducible refine Vc.go ?_ fun _ => ?_); (focus (first | omega | (simp only [InK]; omega) | (simp [InK]; done) | (simp [InK]; omega))); simp only [↓sx0, sx1, encs, tys, sxR, sevalprocAttr])
          refine BrW.dec (fun p1 => ?_) (fun p1 => ?_)
          · simp only [↓sx0, sx1, encs, tys, sxR, sevalprocAttr]
            refine DrawW.plan Tok mixed (.q 0 <| .q 1 <| .q 2 <| .e 3 [1] <| .q 4 <| .q 5 <| .e 6 [] <| .done) (by kernel_rfl) (by kernel_rfl) ?_
            simp only [↓sx0, sx1, encs, tys, sxR, sevalprocAttr]
            refine CallI.fn (lengthensR_s a (by omega)) (by simp only [sx3, encs, sxR, sevalprocAttr] <;> (try simp) <;> (try rfl)) ?_
            simp only [↓sx0, sx1, encs, tys, sxR, sevalprocAttr]
            repeat ((with_reducible refine Vc.go ?_ fun _ => ?_); (focus (first | omega | (simp only [InK]; omega) | (simp [InK]; done) | (simp [InK]; omega))); simp only [↓sx0, sx1, encs, tys, sxR, sevalprocAttr])
            have hq : breaksP a b = some (a, { b with word := b.word - lenM a }) := by rw [breaksP, if_neg (by omega), if_neg (by omega), if_pos (ow_yes (by omega)), if_neg (by omega), if_pos (by omega)]
            rw [hq]
            refine DrawW.plan Tok mixed (.q 0 <| .q 1 <| .e 2 [1] <| .e 3 [] <| .q 4 <| .done) (by kernel_rfl) (by kernel_rfl) ?_
            simp only [↓sx0, sx1, encs, tys, sxR, sevalprocAttr]
            exact EndW.fn (by simp only [sx4, encs, kpLL_map, sxR, sevalprocAttr] <;> (try simp) <;> (try omega)) (by simp only [sx4, encs, kpLL_map, sxR, sevalprocAttr] <;> (try simp) <;> (try omega))
          · simp only [↓sx0, sx1, encs, tys, sxR, sevalprocAttr]
            have hq : breaksP a b = none := by rw [breaksP, if_neg (by omega), if_neg (by omega), if_pos (ow_yes (by omega)), if_neg (by omega), if_neg (by omega)]
            rw [hq]
            refine DrawW.plan Tok mixed (.q 0 <| .q 1 <| .e 2 [1] <| .e 3 [] <| .q 4 <| .done) (by kernel_rfl) (by kernel_rfl) ?_
            simp only [↓sx0, sx1, encs, tys, sxR, sevalprocAttr]
            exact EndW.fn (by simp only [sx4, encs, kpLL_map, sxR, sevalprocAttr] <;> (try simp) <;> (try omega)) (by simp only [sx4, encs, kpLL_map, sxR, sevalprocAttr] <;> (try simp) <;> (try omega))
set_option maxHeartbeats 8000000 in
theorem aheadJoin_s (a b : Mk) (ha : inR a = true) (hb : inR b = true) (ma : 1 ≤ a.mark ∧ a.mark ≤ 7) (mb : 1 ≤ b.mark ∧ b.mark ≤ 7) (h1 : a.mark ≠ 5) (h2 : a.mark ≠ 6) (h3 : b.mark = 6) : Ctr Try.prog 105 [mV a, mV b] (fun rr => rr = ⟨orR (joinsP a b) a b, []⟩) := by
  have encs := And.intro encs orE
  obtain ⟨⟨a1, a2⟩, a3, a4⟩ := inR_b ha
  obtain ⟨⟨b1, b2⟩, b3, b4⟩ := inR_b hb
  have la := lenM_b a
  have lb := lenM_b b
  have sb := shM_b b
  have ah := ahM_b a
  have bh := ahM_b b
  refine Ctr.of (rs := [.cell 4 24, .cell 5 24, .tmp 6]) Tok true Try.func105 rfl rfl rfl rfl (by simp [ofDL]) (fun w0 kp => ?_)
  simp only [↓sx0, sx1, encs, tys, sxR, sevalprocAttr]
  have encs := And.intro encs h3
  refine BrW.dec (fun p4 => ?_) (fun p4 => ?_)
  · simp only [↓sx0, sx1, encs, tys, sxR, sevalprocAttr]
    have hq : joinsP a b = some (a, b) := by rw [joinsP, if_pos (by omega)]
    rw [hq]
    refine DrawW.plan Tok mixed (.q 0 <| .q 1 <| .e 2 [1] <| .e 3 [] <| .q 4 <| .done) (by kernel_rfl) (by kernel_rfl) ?_
    simp only [↓sx0, sx1, encs, tys, sxR, sevalprocAttr]
    exact EndW.fn (by simp only [sx4, encs, kpLL_map, sxR, sevalprocAttr] <;> (try simp) <;> (try omega)) (by simp only [sx4, encs, kpLL_map, sxR, sevalprocAttr] <;> (try simp) <;> (try omega))
  · simp only [↓sx0, sx1, encs, tys, sxR, sevalprocAttr]
    repeat ((with_reducible refine Vc.go ?_ fun _ => ?_); (focus (first | omega | (simp only [InK]; omega) | (simp [InK]; done) | (simp [InK]; omega))); simp only [↓sx0, sx1, encs, tys, sxR, sevalprocAttr])
    refine BrW.dec (fun p3 => ?_) (fun p3 => ?_)
    · simp only [↓sx0, sx1, encs, tys, sxR, sevalprocAttr]
      repeat ((with_reducible refine Vc.go ?_ fun _ => ?_); (focus (first | omega | (simp only [InK]; omega) | (simp [InK]; done) | (simp [InK]; omega))); simp only [↓sx0, sx1, encs, tys, sxR, sevalprocAttr])
      have hq : joinsP a b = some ({ a with part := a.part - 1 }, b) := by rw [joinsP, if_neg (by omega), if_pos (by omega)]
      rw [hq]
      refine DrawW.plan Tok mixed (.q 0 <| .q 1 <| .e 2 [1] <| .e 3 [] <| .q 4 <| .done) (by kernel_rfl) (by kernel_rfl) ?_
      simp only [↓sx0, sx1, encs, tys, sxR, sevalprocAttr]
      exact EndW.fn (by simp only [sx4, encs, kpLL_map, sxR, sevalprocAttr] <;> (try simp) <;> (try omega)) (by simp only [sx4, encs, kpLL_map, sxR, sevalprocAttr] <;> (try simp) <;> (try omega))
    · simp only [↓sx0, sx1, encs, tys, sxR, sevalprocAttr]
      refine BrW.dec (fun p2 => ?_) (fun p2 => ?_)
      · simp only [↓sx0, sx1, encs, tys, sxR, sevalprocAttr]
        by_cases hpe : a.part = b.part
        · have hq : joinsP a b = some (a, b) := by rw [joinsP, if_neg (by omega), if_neg (by omega), if_pos (by omega), if_neg (ow_no (by omega))]
          rw [hq]
          refine DrawW.plan Tok mixed (.q 0 <| .q 1 <| .q 2 <| .q 3 <| .q 4 <| .q 5 <| .q 6 <| .e 7 [1, 3, 5] <| .e 8 [3, 5] <| .q 9 <| .done) (by kernel_rfl) (by kernel_rfl) ?_
          simp only [↓sx0, sx1, encs, tys, sxR, sevalprocAttr]
          exact EndW.fn (by simp only [sx4, encs, kpLL_map, sxR, sevalprocAttr] <;> (try simp [hpe]) <;> (try omega)) (by simp only [sx4, encs, kpLL_map, sxR, sevalprocAttr] <;> (try simp) <;> (try omega))
        · have hq : joinsP a b = none := by rw [joinsP, if_neg (by omega), if_neg (by omega), if_neg (by omega), if_neg (ow_no (by omega))]
          rw [hq]
          refine DrawW.plan Tok mixed (.q 0 <| .q 1 <| .q 2 <| .q 3 <| .q 4 <| .q 5 <| .q 6 <| .e 7 [1, 3, 5] <| .e 8 [3, 5] <| .q 9 <| .done) (by kernel_rfl) (by kernel_rfl) ?_
          simp only [↓sx0, sx1, encs, tys, sxR, sevalprocAttr]
          exact EndW.fn (by simp only [sx4, encs, kpLL_map, sxR, sevalprocAttr] <;> (try simp [hpe]) <;> (try omega)) (by simp only [sx4, encs, kpLL_map, sxR, sevalprocAttr] <;> (try simp) <;> (try omega))
      · simp only [↓sx0, sx1, encs, tys, sxR, sevalprocAttr]
        repeat ((with_reducible refine Vc.go ?_ fun _ => ?_); (focus (first | omega | (simp only [InK]; omega) | (simp [InK]; done) | (simp [InK]; omega))); simp only [↓sx0, sx1, encs, tys, sxR, sevalprocAttr])
        refine BrW.dec (fun p1 => ?_) (fun p1 => ?_)
        · simp only [↓sx0, sx1, encs, tys, sxR, sevalprocAttr]
          refine DrawW.plan Tok mixed (.q 0 <| .q 1 <| .q 2 <| .q 3 <| .q 4 <| .q 5 <| .q 6 <| .q 7 <| .e 8 [5] <| .q 9 <| .e 10 [] <| .done) (by kernel_rfl) (by kernel_rfl) ?_
          simp only [↓sx0, sx1, encs, tys, sxR, sevalprocAttr]
          repeat ((with_reducible refine Vc.go ?_ fun _ => ?_); (focus (first | omega | (simp only [InK]; omega) | (simp [InK]; done) | (simp [InK]; omega))); simp only [↓sx0, sx1, encs, tys, sxR, sevalprocAttr])
          have hq : joinsP a b = some ({ a with part := b.part, word := a.word + b.word }, b) := by rw [joinsP, if_neg (by omega), if_neg (by omega), if_neg (by omega), if_pos (ow_yes (by omega))]; rw [show a.part - 1 = b.part by omega]
          rw [hq]
          refine DrawW.plan Tok mixed (.q 0 <| .q 1 <| .e 2 [1] <| .e 3 [] <| .q 4 <| .done) (by kernel_rfl) (by kernel_rfl) ?_
          simp only [↓sx0, sx1, encs, tys, sxR, sevalprocAttr]
          exact EndW.fn (by simp only [sx4, encs, kpLL_map, sxR, sevalprocAttr] <;> (try simp) <;> (try omega)) (by simp only [sx4, encs, kpLL_map, sxR, sevalprocAttr] <;> (try simp) <;> (try omega))
        · simp only [↓sx0, sx1, encs, tys, sxR, sevalprocAttr]
          refine DrawW.plan Tok mixed (.q 0 <| .q 1 <| .q 2 <| .e 3 [1] <| .q 4 <| .q 5 <| .e 6 [] <| .done) (by kernel_rfl) (by kernel_rfl) ?_
          simp only [↓sx0, sx1, encs, tys, sxR, sevalprocAttr]
          refine CallI.fn (lengthensR_s a (by omega)) (by simp only [sx3, encs, sxR, sevalprocAttr] <;> (try simp) <;> (try rfl)) ?_
          simp only [↓sx0, sx1, encs, tys, sxR, sevalprocAttr]
          repeat ((with_reducible refine Vc.go ?_ fun _ => ?_); (focus (first | omega | (simp only [InK]; omega) | (simp [InK]; done) | (simp [InK]; omega))); simp only [↓sx0, sx1, encs, tys, sxR, sevalprocAttr])
          have hq : joinsP a b = some (a, { b with word := b.word - lenM a }) := by rw [joinsP, if_neg (by omega), if_neg (by omega), if_pos (by omega), if_pos (ow_yes (by omega))]
          rw [hq]
          refine DrawW.plan Tok mixed (.q 0 <| .q 1 <| .e 2 [1] <| .e 3 [] <| .q 4 <| .done) (by kernel_rfl) (by kernel_rfl) ?_
          simp only [↓sx0, sx1, encs, tys, sxR, sevalprocAttr]
          exact EndW.fn (by simp only [sx4, encs, kpLL_map, sxR, sevalprocAttr] <;> (try simp) <;> (try omega)) (by simp only [sx4, encs, kpLL_map, sxR, sevalprocAttr] <;> (try simp) <;> (try omega))
end Go.Proofs.Ytenohgpackcjbaa
