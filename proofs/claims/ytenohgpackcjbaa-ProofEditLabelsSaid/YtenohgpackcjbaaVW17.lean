/-
  Chapter 8, walks: two marks in the other order, both sides.
-/
import Derived.Test.YtenohgpackcjbaaVW16
namespace Go.Proofs.Ytenohgpackcjbaa
open Go Go.Vx
set_option linter.unusedSimpArgs false
set_option linter.unusedVariables false
set_option maxRecDepth 20000
def orderP (a b : Mk) : Option (Mk × Mk) :=
  if a.mark = 5 then brokenP a b else if a.mark = 6 then joinedP a b else if b.mark = 5 then breaksP a b else if b.mark = 6 then joinsP a b else quietP a b
set_option maxHeartbeats 8000000 in
theorem orderR_s (a b : Mk) (ha : inR a = true) (hb : inR b = true) (ma : 1 ≤ a.mark ∧ a.mark ≤ 7) (mb : 1 ≤ b.mark ∧ b.mark ≤ 7) : Ctr Try.prog 67 [mV a, mV b] (fun rr => rr = ⟨orR (orderP a b) a b, []⟩) := by
  have encs := And.intro encs orE
  obtain ⟨⟨a1, a2⟩, a3, a4⟩ := inR_b ha
  obtain ⟨⟨b1, b2⟩, b3, b4⟩ := inR_b hb
  have la := lenM_b a
  have lb := lenM_b b
  have sb := shM_b b
  have ah := ahM_b a
  have bh := ahM_b b
  refine Ctr.of (rs := [.cell 4 24, .cell 5 24, .tmp 6]) Tok true Try.func67 rfl rfl rfl rfl (by simp [ofDL]) (fun w0 kp => ?_)
  simp only [↓sx0, sx1, encs, tys, sxR, sevalprocAttr]
  refine BrW.dec (fun p9 => ?_) (fun p9 => ?_)
  · simp only [↓sx0, sx1, encs, tys, sxR, sevalprocAttr]
    have hE := behindBreak_s a b ha hb ma mb
    rw [show orderP a b = brokenP a b by rw [orderP, if_pos (by omega)]]
    rcases hbe : brokenP a b with _ | ⟨x, y⟩
    · rw [hbe] at hE
      simp only [orE] at hE
      refine CallI.fn (hE) (by simp only [sx3, encs, sxR, sevalprocAttr] <;> (try simp) <;> (try rfl)) ?_
      simp only [↓sx0, sx1, encs, tys, sxR, sevalprocAttr]
      exact EndW.fn (by simp only [sx4, encs, kpLL_map, sxR, sevalprocAttr] <;> (try simp) <;> (try omega)) (by simp only [sx4, encs, kpLL_map, sxR, sevalprocAttr] <;> (try simp) <;> (try omega))
    · rw [hbe] at hE
      simp only [orE] at hE
      refine CallI.fn (hE) (by simp only [sx3, encs, sxR, sevalprocAttr] <;> (try simp) <;> (try rfl)) ?_
      simp only [↓sx0, sx1, encs, tys, sxR, sevalprocAttr]
      exact EndW.fn (by simp only [sx4, encs, kpLL_map, sxR, sevalprocAttr] <;> (try simp) <;> (try omega)) (by simp only [sx4, encs, kpLL_map, sxR, sevalprocAttr] <;> (try simp) <;> (try omega))
  · simp only [↓sx0, sx1, encs, tys, sxR, sevalprocAttr]
    refine BrW.dec (fun p8 => ?_) (fun p8 => ?_)
    · simp only [↓sx0, sx1, encs, tys, sxR, sevalprocAttr]
      have hE := behindJoin_s a b ha hb ma mb
      rw [show orderP a b = joinedP a b by rw [orderP, if_neg (by omega), if_pos (by omega)]]
      rcases hbe : joinedP a b with _ | ⟨x, y⟩
      · rw [hbe] at hE
        simp only [orE] at hE
        refine CallI.fn (hE) (by simp only [sx3, encs, sxR, sevalprocAttr] <;> (try simp) <;> (try rfl)) ?_
        simp only [↓sx0, sx1, encs, tys, sxR, sevalprocAttr]
        exact EndW.fn (by simp only [sx4, encs, kpLL_map, sxR, sevalprocAttr] <;> (try simp) <;> (try omega)) (by simp only [sx4, encs, kpLL_map, sxR, sevalprocAttr] <;> (try simp) <;> (try omega))
      · rw [hbe] at hE
        simp only [orE] at hE
        refine CallI.fn (hE) (by simp only [sx3, encs, sxR, sevalprocAttr] <;> (try simp) <;> (try rfl)) ?_
        simp only [↓sx0, sx1, encs, tys, sxR, sevalprocAttr]
        exact EndW.fn (by simp only [sx4, encs, kpLL_map, sxR, sevalprocAttr] <;> (try simp) <;> (try omega)) (by simp only [sx4, encs, kpLL_map, sxR, sevalprocAttr] <;> (try simp) <;> (try omega))
    · simp only [↓sx0, sx1, encs, tys, sxR, sevalprocAttr]
      refine BrW.dec (fun p7 => ?_) (fun p7 => ?_)
      · simp only [↓sx0, sx1, encs, tys, sxR, sevalprocAttr]
        repeat ((with_reducible refine BrW.yes (by omega) ?_); simp only [↓sx0, sx1, encs, tys, sxR, sevalprocAttr])
        have hE := aheadBreak_s a b ha hb ma mb (by omega) (by omega) (by omega)
        rw [show orderP a b = breaksP a b by rw [orderP, if_neg (by omega), if_neg (by omega), if_pos (by omega)]]
        rcases hbe : breaksP a b with _ | ⟨x, y⟩
        · rw [hbe] at hE
          simp only [orE] at hE
          refine CallI.fn (hE) (by simp only [sx3, encs, sxR, sevalprocAttr] <;> (try simp) <;> (try rfl)) ?_
          simp only [↓sx0, sx1, encs, tys, sxR, sevalprocAttr]
          exact EndW.fn (by simp only [sx4, encs, kpLL_map, sxR, sevalprocAttr] <;> (try simp) <;> (try omega)) (by simp only [sx4, encs, kpLL_map, sxR, sevalprocAttr] <;> (try simp) <;> (try omega))
        · rw [hbe] at hE
          simp only [orE] at hE
          refine CallI.fn (hE) (by simp only [sx3, encs, sxR, sevalprocAttr] <;> (try simp) <;> (try rfl)) ?_
          simp only [↓sx0, sx1, encs, tys, sxR, sevalprocAttr]
          exact EndW.fn (by simp only [sx4, encs, kpLL_map, sxR, sevalprocAttr] <;> (try simp) <;> (try omega)) (by simp only [sx4, encs, kpLL_map, sxR, sevalprocAttr] <;> (try simp) <;> (try omega))
      · simp only [↓sx0, sx1, encs, tys, sxR, sevalprocAttr]
        refine BrW.dec (fun p6 => ?_) (fun p6 => ?_)
        · simp only [↓sx0, sx1, encs, tys, sxR, sevalprocAttr]
          repeat ((with_reducible refine BrW.yes (by omega) ?_); simp only [↓sx0, sx1, encs, tys, sxR, sevalprocAttr])
          have hE := aheadJoin_s a b ha hb ma mb (by omega) (by omega) (by omega)
          rw [show orderP a b = joinsP a b by rw [orderP, if_neg (by omega), if_neg (by omega), if_neg (by omega), if_pos (by omega)]]
          rcases hbe : joinsP a b with _ | ⟨x, y⟩
          · rw [hbe] at hE
            simp only [orE] at hE
            refine CallI.fn (hE) (by simp only [sx3, encs, sxR, sevalprocAttr] <;> (try simp) <;> (try rfl)) ?_
            simp only [↓sx0, sx1, encs, tys, sxR, sevalprocAttr]
            exact EndW.fn (by simp only [sx4, encs, kpLL_map, sxR, sevalprocAttr] <;> (try simp) <;> (try omega)) (by simp only [sx4, encs, kpLL_map, sxR, sevalprocAttr] <;> (try simp) <;> (try omega))
          · rw [hbe] at hE
            simp only [orE] at hE
            refine CallI.fn (hE) (by simp only [sx3, encs, sxR, sevalprocAttr] <;> (try simp) <;> (try rfl)) ?_
            simp only [↓sx0, sx1, encs, tys, sxR, sevalprocAttr]
            exact EndW.fn (by simp only [sx4, encs, kpLL_map, sxR, sevalprocAttr] <;> (try simp) <;> (try omega)) (by simp only [sx4, encs, kpLL_map, sxR, sevalprocAttr] <;> (try simp) <;> (try omega))
        · simp only [↓sx0, sx1, encs, tys, sxR, sevalprocAttr]
          rw [show orderP a b = quietP a b by rw [orderP, if_neg (by omega), if_neg (by omega), if_neg (by omega), if_neg (by omega)]]
          repeat ((with_reducible refine BrW.no (by omega) ?_); simp only [↓sx0, sx1, encs, tys, sxR, sevalprocAttr])
          refine BrW.dec (fun p5 => ?_) (fun p5 => ?_)
          · simp only [↓sx0, sx1, encs, tys, sxR, sevalprocAttr]
            have hq : quietP a b = some (a, b) := by rw [quietP, if_pos (by omega)]
            rw [hq]
            refine DrawW.plan Tok mixed (.q 0 <| .q 1 <| .e 2 [1] <| .e 3 [] <| .q 4 <| .done) (by kernel_rfl) (by kernel_rfl) ?_
            simp only [↓sx0, sx1, encs, tys, sxR, sevalprocAttr]
            exact EndW.fn (by simp only [sx4, encs, kpLL_map, sxR, sevalprocAttr] <;> (try simp) <;> (try omega)) (by simp only [sx4, encs, kpLL_map, sxR, sevalprocAttr] <;> (try simp) <;> (try omega))
          · simp only [↓sx0, sx1, encs, tys, sxR, sevalprocAttr]
            refine BrW.dec (fun p4 => ?_) (fun p4 => ?_)
            · simp only [↓sx0, sx1, encs, tys, sxR, sevalprocAttr]
              repeat ((with_reducible refine BrW.yes (by omega) ?_); simp only [↓sx0, sx1, encs, tys, sxR, sevalprocAttr])
              by_cases he : a.mark = b.mark
              · have hq : quietP a b = none := by rw [quietP, if_neg (by omega), if_neg (fun h => ow_no (by omega) h.1), if_neg (fun h => h.elim (ow_no (by omega)) (ow_no (by omega)))]
                rw [hq]
                refine DrawW.plan Tok mixed (.q 0 <| .q 1 <| .q 2 <| .q 3 <| .q 4 <| .q 5 <| .q 6 <| .e 7 [1, 3, 5] <| .e 8 [3, 5] <| .q 9 <| .done) (by kernel_rfl) (by kernel_rfl) ?_
                simp only [↓sx0, sx1, encs, tys, sxR, sevalprocAttr]
                exact EndW.fn (by simp only [sx4, encs, kpLL_map, sxR, sevalprocAttr] <;> (try simp [he]) <;> (try omega)) (by simp only [sx4, encs, kpLL_map, sxR, sevalprocAttr] <;> (try simp) <;> (try omega))
              · have hq : quietP a b = some (a, b) := by rw [quietP, if_neg (by omega), if_neg (fun h => ow_no (by omega) h.1), if_pos (.inr (ow_yes (by omega)))]
                rw [hq]
                refine DrawW.plan Tok mixed (.q 0 <| .q 1 <| .q 2 <| .q 3 <| .q 4 <| .q 5 <| .q 6 <| .e 7 [1, 3, 5] <| .e 8 [3, 5] <| .q 9 <| .done) (by kernel_rfl) (by kernel_rfl) ?_
                simp only [↓sx0, sx1, encs, tys, sxR, sevalprocAttr]
                exact EndW.fn (by simp only [sx4, encs, kpLL_map, sxR, sevalprocAttr] <;> (try simp [he]) <;> (try omega)) (by simp only [sx4, encs, kpLL_map, sxR, sevalprocAttr] <;> (try simp) <;> (try omega))
            · simp only [↓sx0, sx1, encs, tys, sxR, sevalprocAttr]
              refine BrW.dec (fun p3 => ?_) (fun p3 => ?_)
              · simp only [↓sx0, sx1, encs, tys, sxR, sevalprocAttr]
                repeat ((with_reducible refine BrW.yes (by omega) ?_); simp only [↓sx0, sx1, encs, tys, sxR, sevalprocAttr])
                by_cases he : a.mark = b.mark
                · have hq : quietP a b = none := by rw [quietP, if_neg (by omega), if_neg (fun h => ow_no (by omega) h.1), if_neg (fun h => h.elim (ow_no (by omega)) (ow_no (by omega)))]
                  rw [hq]
                  refine DrawW.plan Tok mixed (.q 0 <| .q 1 <| .q 2 <| .q 3 <| .q 4 <| .q 5 <| .q 6 <| .e 7 [1, 3, 5] <| .e 8 [3, 5] <| .q 9 <| .done) (by kernel_rfl) (by kernel_rfl) ?_
                  simp only [↓sx0, sx1, encs, tys, sxR, sevalprocAttr]
                  exact EndW.fn (by simp only [sx4, encs, kpLL_map, sxR, sevalprocAttr] <;> (try simp [he]) <;> (try omega)) (by simp only [sx4, encs, kpLL_map, sxR, sevalprocAttr] <;> (try simp) <;> (try omega))
                · have hq : quietP a b = some (a, b) := by rw [quietP, if_neg (by omega), if_neg (fun h => ow_no (by omega) h.2), if_pos (.inl (ow_yes (by omega)))]
                  rw [hq]
                  refine DrawW.plan Tok mixed (.q 0 <| .q 1 <| .q 2 <| .q 3 <| .q 4 <| .q 5 <| .q 6 <| .e 7 [1, 3, 5] <| .e 8 [3, 5] <| .q 9 <| .done) (by kernel_rfl) (by kernel_rfl) ?_
                  simp only [↓sx0, sx1, encs, tys, sxR, sevalprocAttr]
                  exact EndW.fn (by simp only [sx4, encs, kpLL_map, sxR, sevalprocAttr] <;> (try simp [he]) <;> (try omega)) (by simp only [sx4, encs, kpLL_map, sxR, sevalprocAttr] <;> (try simp) <;> (try omega))
              · simp only [↓sx0, sx1, encs, tys, sxR, sevalprocAttr]
                repeat ((with_reducible refine BrW.no (by omega) ?_); simp only [↓sx0, sx1, encs, tys, sxR, sevalprocAttr])
                refine DrawW.plan Tok mixed (.q 0 <| .q 1 <| .q 2 <| .q 5 <| .q 6 <| .e 3 [1, 6] <| .q 4 <| .q 7 <| .done) (by kernel_rfl) (by kernel_rfl) ?_
                simp only [↓sx0, sx1, encs, tys, sxR, sevalprocAttr]
                refine CallI.fn (aheadR_s b (by omega)) (by simp only [sx3, encs, sxR, sevalprocAttr] <;> (try simp) <;> (try rfl)) ?_
                simp only [↓sx0, sx1, encs, tys, sxR, sevalprocAttr]
                repeat ((with_reducible refine Vc.go ?_ fun _ => ?_); (focus (first | omega | (simp only [InK]; omega) | (simp [InK]; done) | (simp [InK]; omega))); simp only [↓sx0, sx1, encs, tys, sxR, sevalprocAttr])
                refine BrW.dec (fun p2 => ?_) (fun p2 => ?_)
                · simp only [↓sx0, sx1, encs, tys, sxR, sevalprocAttr]
                  refine DrawW.plan Tok mixed (.q 0 <| .q 1 <| .q 2 <| .e 3 [1] <| .q 4 <| .q 5 <| .e 6 [] <| .done) (by kernel_rfl) (by kernel_rfl) ?_
                  simp only [↓sx0, sx1, encs, tys, sxR, sevalprocAttr]
                  refine CallI.fn (lengthensR_s b (by omega)) (by simp only [sx3, encs, sxR, sevalprocAttr] <;> (try simp) <;> (try rfl)) ?_
                  simp only [↓sx0, sx1, encs, tys, sxR, sevalprocAttr]
                  repeat ((with_reducible refine Vc.go ?_ fun _ => ?_); (focus (first | omega | (simp only [InK]; omega) | (simp [InK]; done) | (simp [InK]; omega))); simp only [↓sx0, sx1, encs, tys, sxR, sevalprocAttr])
                  have hq : quietP a b = some ({ a with word := a.word + lenM b }, b) := by rw [quietP, if_neg (by omega), if_pos ⟨ow_yes (by omega), ow_yes (by omega)⟩, wordsP, if_pos (by omega)]
                  rw [hq]
                  refine DrawW.plan Tok mixed (.q 0 <| .q 1 <| .e 2 [1] <| .e 3 [] <| .q 4 <| .done) (by kernel_rfl) (by kernel_rfl) ?_
                  simp only [↓sx0, sx1, encs, tys, sxR, sevalprocAttr]
                  exact EndW.fn (by simp only [sx4, encs, kpLL_map, sxR, sevalprocAttr] <;> (try simp) <;> (try omega)) (by simp only [sx4, encs, kpLL_map, sxR, sevalprocAttr] <;> (try simp) <;> (try omega))
                · simp only [↓sx0, sx1, encs, tys, sxR, sevalprocAttr]
                  refine DrawW.plan Tok mixed (.q 0 <| .q 1 <| .q 2 <| .q 3 <| .q 4 <| .e 5 [1, 3] <| .q 6 <| .q 7 <| .done) (by kernel_rfl) (by kernel_rfl) ?_
                  simp only [↓sx0, sx1, encs, tys, sxR, sevalprocAttr]
                  refine CallI.fn (behindR_s a (by omega)) (by simp only [sx3, encs, sxR, sevalprocAttr] <;> (try simp) <;> (try rfl)) ?_
                  simp only [↓sx0, sx1, encs, tys, sxR, sevalprocAttr]
                  repeat ((with_reducible refine Vc.go ?_ fun _ => ?_); (focus (first | omega | (simp only [InK]; omega) | (simp [InK]; done) | (simp [InK]; omega))); simp only [↓sx0, sx1, encs, tys, sxR, sevalprocAttr])
                  refine BrW.dec (fun p1 => ?_) (fun p1 => ?_)
                  · simp only [↓sx0, sx1, encs, tys, sxR, sevalprocAttr]
                    refine DrawW.plan Tok mixed (.q 0 <| .q 1 <| .q 2 <| .e 3 [1] <| .q 4 <| .q 5 <| .e 6 [] <| .done) (by kernel_rfl) (by kernel_rfl) ?_
                    simp only [↓sx0, sx1, encs, tys, sxR, sevalprocAttr]
                    refine CallI.fn (lengthensR_s a (by omega)) (by simp only [sx3, encs, sxR, sevalprocAttr] <;> (try simp) <;> (try rfl)) ?_
                    simp only [↓sx0, sx1, encs, tys, sxR, sevalprocAttr]
                    repeat ((with_reducible refine Vc.go ?_ fun _ => ?_); (focus (first | omega | (simp only [InK]; omega) | (simp [InK]; done) | (simp [InK]; omega))); simp only [↓sx0, sx1, encs, tys, sxR, sevalprocAttr])
                    have hq : quietP a b = some (a, { b with word := b.word - lenM a }) := by rw [quietP, if_neg (by omega), if_pos ⟨ow_yes (by omega), ow_yes (by omega)⟩, wordsP, if_neg (by omega), if_pos (by omega)]
                    rw [hq]
                    refine DrawW.plan Tok mixed (.q 0 <| .q 1 <| .e 2 [1] <| .e 3 [] <| .q 4 <| .done) (by kernel_rfl) (by kernel_rfl) ?_
                    simp only [↓sx0, sx1, encs, tys, sxR, sevalprocAttr]
                    exact EndW.fn (by simp only [sx4, encs, kpLL_map, sxR, sevalprocAttr] <;> (try simp) <;> (try omega)) (by simp only [sx4, encs, kpLL_map, sxR, sevalprocAttr] <;> (try simp) <;> (try omega))
                  · simp only [↓sx0, sx1, encs, tys, sxR, sevalprocAttr]
                    have hq : quietP a b = none := by rw [quietP, if_neg (by omega), if_pos ⟨ow_yes (by omega), ow_yes (by omega)⟩, wordsP, if_neg (by omega), if_neg (by omega)]
                    rw [hq]
                    refine DrawW.plan Tok mixed (.q 0 <| .q 1 <| .e 2 [1] <| .e 3 [] <| .q 4 <| .done) (by kernel_rfl) (by kernel_rfl) ?_
                    simp only [↓sx0, sx1, encs, tys, sxR, sevalprocAttr]
                    exact EndW.fn (by simp only [sx4, encs, kpLL_map, sxR, sevalprocAttr] <;> (try simp) <;> (try omega)) (by simp only [sx4, encs, kpLL_map, sxR, sevalprocAttr] <;> (try simp) <;> (try omega))
theorem swapped_s (a b : Mk) (ha : inR a = true) (hb : inR b = true) : Ctr Try.prog 66 [mV a, mV b] (fun rr => rr = ⟨.tup [prSV (swapF (orderP a b)).1, (.v (.int .i64 ((swapF (orderP a b)).2)))], []⟩) := by
  unfold orderP
  by_cases h1 : a.mark = 5
  · rw [if_pos h1]; exact swappedB_s a b ha hb h1
  rw [if_neg h1]
  by_cases h2 : a.mark = 6
  · rw [if_pos h2]; exact swappedJ_s a b ha hb h2
  rw [if_neg h2]
  by_cases h3 : b.mark = 5
  · rw [if_pos h3]; exact swappedK_s a b ha hb h1 h2 h3
  rw [if_neg h3]
  by_cases h4 : b.mark = 6
  · rw [if_pos h4]; exact swappedL_s a b ha hb h1 h2 h4
  rw [if_neg h4]
  exact swappedQ_s a b ha hb h1 h2 h3 h4
theorem placeR_s (m : Mk) : Ctr Try.prog 62 [mV m] (fun rr => rr = ⟨(.v (.int .i64 (if inR m = true then 0 else 2))), []⟩) := by
  refine Ctr.of (rs := [.tmp 2]) Tok true Try.func62 rfl rfl rfl rfl (by simp [ofDL]) (fun w0 kp => ?_)
  simp only [↓sx0, sx1, encs, tys, sxR, sevalprocAttr]
  refine CallI.fn (withinB_s m.part 0 59) (by simp only [sx3, encs, sxR, sevalprocAttr] <;> (try simp) <;> (try rfl)) ?_
  simp only [↓sx0, sx1, encs, tys, sxR, sevalprocAttr]
  refine BrW.of (fun h => ?_) (fun h => ?_)
  · simp only [↓sx0, sx1, encs, tys, sxR, sevalprocAttr]
    repeat ((with_reducible refine BrW.tt h ?_); simp only [↓sx0, sx1, encs, tys, sxR, sevalprocAttr])
    refine CallI.fn (withinB_s m.word 0 100) (by simp only [sx3, encs, sxR, sevalprocAttr] <;> (try simp) <;> (try rfl)) ?_
    simp only [↓sx0, sx1, encs, tys, sxR, sevalprocAttr]
    refine BrW.of (fun h2 => ?_) (fun h2 => ?_)
    · rw [if_pos (show inR m = true by rw [inR, h, h2]; rfl)]
      simp only [↓sx0, sx1, encs, tys, sxR, sevalprocAttr]
      repeat ((with_reducible refine BrW.tt h2 ?_); simp only [↓sx0, sx1, encs, tys, sxR, sevalprocAttr])
      exact EndW.fn (by simp only [sx4, encs, kpLL_map, sxR, sevalprocAttr] <;> (try simp) <;> (try omega)) (by simp only [sx4, encs, kpLL_map, sxR, sevalprocAttr] <;> (try simp) <;> (try omega))
    · rw [if_neg (show ¬ inR m = true by rw [inR, h, h2]; simp)]
      simp only [↓sx0, sx1, encs, tys, sxR, sevalprocAttr]
      repeat ((with_reducible refine BrW.ff h2 ?_); simp only [↓sx0, sx1, encs, tys, sxR, sevalprocAttr])
      exact EndW.fn (by simp only [sx4, encs, kpLL_map, sxR, sevalprocAttr] <;> (try simp) <;> (try omega)) (by simp only [sx4, encs, kpLL_map, sxR, sevalprocAttr] <;> (try simp) <;> (try omega))
  · rw [if_neg (show ¬ inR m = true by rw [inR, h]; simp)]
    simp only [↓sx0, sx1, encs, tys, sxR, sevalprocAttr]
    repeat ((with_reducible refine BrW.ff h ?_); simp only [↓sx0, sx1, encs, tys, sxR, sevalprocAttr])
    exact EndW.fn (by simp only [sx4, encs, kpLL_map, sxR, sevalprocAttr] <;> (try simp) <;> (try omega)) (by simp only [sx4, encs, kpLL_map, sxR, sevalprocAttr] <;> (try simp) <;> (try omega))
/-- what a mark must have at its word. -/
def bdE (m : Mk) : Int := if (ptsB m = true ∧ m.word = 0) ∨ (m.mark = 7 ∧ m.word ≠ 0) then 3 else 0
theorem boundsR_s (m : Mk) : Ctr Try.prog 64 [mV m] (fun rr => rr = ⟨(.v (.int .i64 (bdE m))), []⟩) := by
  have hp : ptsB m = true ↔ (m.mark = 5 ∨ m.mark = 6) := by simp [ptsB]
  refine Ctr.of (rs := [.tmp 2]) Tok true Try.func64 rfl rfl rfl rfl (by simp [ofDL]) (fun w0 kp => ?_)
  simp only [↓sx0, sx1, encs, tys, sxR, sevalprocAttr]
  have fin : ∀ c : Prop, [Decidable c] → True := fun _ _ => trivial
  by_cases h56 : m.mark = 5 ∨ m.mark = 6
  · by_cases hw : m.word = 0
    · rw [show bdE m = 3 by rw [bdE, if_pos (.inl ⟨hp.2 h56, hw⟩)]]
      rcases h56 with h5 | h6
      · repeat ((first | (with_reducible refine BrW.yes (by omega) ?_) | (with_reducible refine BrW.no (by omega) ?_)); (try simp only [↓sx0, sx1, encs, tys, sxR, sevalprocAttr]))
        exact EndW.fn (by simp only [sx4, encs, kpLL_map, sxR, sevalprocAttr] <;> (try simp) <;> (try omega)) (by simp only [sx4, encs, kpLL_map, sxR, sevalprocAttr] <;> (try simp) <;> (try omega))
      · repeat ((first | (with_reducible refine BrW.yes (by omega) ?_) | (with_reducible refine BrW.no (by omega) ?_)); (try simp only [↓sx0, sx1, encs, tys, sxR, sevalprocAttr]))
        exact EndW.fn (by simp only [sx4, encs, kpLL_map, sxR, sevalprocAttr] <;> (try simp) <;> (try omega)) (by simp only [sx4, encs, kpLL_map, sxR, sevalprocAttr] <;> (try simp) <;> (try omega))
    · rw [show bdE m = 0 by rw [bdE, if_neg (by rw [hp]; omega)]]
      rcases h56 with h5 | h6
      · repeat ((first | (with_reducible refine BrW.yes (by omega) ?_) | (with_reducible refine BrW.no (by omega) ?_)); (try simp only [↓sx0, sx1, encs, tys, sxR, sevalprocAttr]))
        exact EndW.fn (by simp only [sx4, encs, kpLL_map, sxR, sevalprocAttr] <;> (try simp) <;> (try omega)) (by simp only [sx4, encs, kpLL_map, sxR, sevalprocAttr] <;> (try simp) <;> (try omega))
      · repeat ((first | (with_reducible refine BrW.yes (by omega) ?_) | (with_reducible refine BrW.no (by omega) ?_)); (try simp only [↓sx0, sx1, encs, tys, sxR, sevalprocAttr]))
        exact EndW.fn (by simp only [sx4, encs, kpLL_map, sxR, sevalprocAttr] <;> (try simp) <;> (try omega)) (by simp only [sx4, encs, kpLL_map, sxR, sevalprocAttr] <;> (try simp) <;> (try omega))
  · by_cases h7 : m.mark = 7 ∧ m.word ≠ 0
    · rw [show bdE m = 3 by rw [bdE, if_pos (.inr h7)]]
      repeat ((first | (with_reducible refine BrW.yes (by omega) ?_) | (with_reducible refine BrW.no (by omega) ?_)); (try simp only [↓sx0, sx1, encs, tys, sxR, sevalprocAttr]))
      exact EndW.fn (by simp only [sx4, encs, kpLL_map, sxR, sevalprocAttr] <;> (try simp) <;> (try omega)) (by simp only [sx4, encs, kpLL_map, sxR, sevalprocAttr] <;> (try simp) <;> (try omega))
    · rw [show bdE m = 0 by rw [bdE, if_neg (by rw [hp]; omega)]]
      by_cases hm : m.mark = 7
      · repeat ((first | (with_reducible refine BrW.yes (by omega) ?_) | (with_reducible refine BrW.no (by omega) ?_)); (try simp only [↓sx0, sx1, encs, tys, sxR, sevalprocAttr]))
        exact EndW.fn (by simp only [sx4, encs, kpLL_map, sxR, sevalprocAttr] <;> (try simp) <;> (try omega)) (by simp only [sx4, encs, kpLL_map, sxR, sevalprocAttr] <;> (try simp) <;> (try omega))
      · repeat ((first | (with_reducible refine BrW.yes (by omega) ?_) | (with_reducible refine BrW.no (by omega) ?_)); (try simp only [↓sx0, sx1, encs, tys, sxR, sevalprocAttr]))
        exact EndW.fn (by simp only [sx4, encs, kpLL_map, sxR, sevalprocAttr] <;> (try simp) <;> (try omega)) (by simp only [sx4, encs, kpLL_map, sxR, sevalprocAttr] <;> (try simp) <;> (try omega))
end Go.Proofs.Ytenohgpackcjbaa
