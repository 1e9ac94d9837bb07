/-
  Chapter 8, walks: the law of edits.
-/
import Derived.Test.YtenohgpackcjbaaVGL
namespace Go.Proofs.Ytenohgpackcjbaa
open Go Go.Vx
set_option linter.unusedSimpArgs false
set_option linter.unusedVariables false
set_option maxRecDepth 20000
theorem slim_10 {l : List ByteArray} (h : slimB l = true) (h2 : l.length ≤ 40) : l.length ≤ 10 := by
  simp only [slimB, Bool.and_eq_true, lenS, Bool.or_eq_true, decide_eq_true_eq] at h
  omega
set_option maxHeartbeats 16000000 in
theorem editsLaw_s (a b : List ByteArray) (E : List Ed) (la : a.length ≤ maxLen) (lb' : b.length ≤ maxLen) : Ctr Try.prog 10 [.sl true 1 (a.map eS), .sl true 1 (b.map eS), .sl true 2 (E.map eE)] (fun rr => rr = ⟨(.v (.bool (true))), []⟩) := by
  refine Ctr.of (rs := [.tmp 6]) Tok true Try.func10 rfl rfl rfl rfl (by simp [ofDL]) (fun w0 kp => ?_)
  simp only [↓sx0, sx1, encs, tys, sxR, sevalprocAttr]
  refine CallI.fn (awake_s) (by simp only [sx3, encs, sxR, sevalprocAttr] <;> (try simp) <;> (try rfl)) ?_
  simp only [↓sx0, sx1, encs, tys, sxR, sevalprocAttr]
  refine CallI.fn (slim_s true a la) (by simp only [sx3, encs, sxR, sevalprocAttr] <;> (try simp) <;> (try rfl)) ?_
  simp only [↓sx0, sx1, encs, tys, sxR, sevalprocAttr]
  refine BrW.of (fun ha => ?_) (fun ha => ?_)
  · obtain ⟨za, na⟩ := slim_all ha
    simp only [↓sx0, sx1, encs, tys, sxR, sevalprocAttr]
    repeat ((with_reducible refine BrW.tt ha ?_); simp only [↓sx0, sx1, encs, tys, sxR, sevalprocAttr])
    refine CallI.fn (slim_s true b lb') (by simp only [sx3, encs, sxR, sevalprocAttr] <;> (try simp) <;> (try rfl)) ?_
    simp only [↓sx0, sx1, encs, tys, sxR, sevalprocAttr]
    refine BrW.of (fun hb => ?_) (fun hb => ?_)
    · obtain ⟨zb, nb⟩ := slim_all hb
      simp only [↓sx0, sx1, encs, tys, sxR, sevalprocAttr]
      repeat ((with_reducible refine BrW.tt hb ?_); simp only [↓sx0, sx1, encs, tys, sxR, sevalprocAttr])
      refine BrW.dec (fun h30 => ?_) (fun h30 => ?_)
      · simp only [↓sx0, sx1, encs, tys, sxR, sevalprocAttr]
        exact EndW.fn (by simp only [sx4, encs, kpLL_map, sxR, sevalprocAttr] <;> (try simp) <;> (try omega)) (by simp only [sx4, encs, kpLL_map, sxR, sevalprocAttr] <;> (try simp) <;> (try omega))
      · simp only [↓sx0, sx1, encs, tys, sxR, sevalprocAttr]
        have cE := checkEdits_s true true false a b E za zb (by omega)
        have cL := leastEdits_s a b za zb
        have cC := compared_s true true a b za zb
        refine CallI.fn (copyTexts_s true a (by omega)) (by simp only [sx3, encs, sxR, sevalprocAttr] <;> (try simp) <;> (try rfl)) ?_
        simp only [↓sx0, sx1, encs, tys, sxR, sevalprocAttr]
        refine CallI.fn (copyTexts_s true b (by omega)) (by simp only [sx3, encs, sxR, sevalprocAttr] <;> (try simp) <;> (try rfl)) ?_
        simp only [↓sx0, sx1, encs, tys, sxR, sevalprocAttr]
        by_cases he : wdsErr a b = 0
        · obtain ⟨h1, h2⟩ := wds_len he
          have a10 := slim_10 ha h1
          have b10 := slim_10 hb h2
          have hll := lsE_len a b
          have hdl := dL_len a b (nLab a b)
          have hm := Nat.mul_le_mul (show a.length + 1 ≤ 41 by omega) (show b.length + 1 ≤ 41 by omega)
          have hnl : nLab a b = (a.length + 1) * (b.length + 1) := rfl
          have cR := editsR_s true true true a b E h1 h2 (by omega)
          have cX := editsR_s true true true a b (lsE a b) h1 h2 (by omega)
          have cB := labelsR_s true true true a b (dL a b (nLab a b)) h1 h2 (by omega)
          have cD := least_s true true a b h1 h2
          rw [lsE_cost] at cX
          rw [labR_dL h1 h2] at cB
          rw [show lsV a b = (lsE a b, dL a b (nLab a b), 0) by rw [lsV, if_pos he]] at cL
          rw [show edV a b E = edF a b E 0 0 0 by rw [edV, if_pos he]] at cE
          rw [he] at cC
          generalize lsE a b = X at cL cX hll
          generalize dL a b (nLab a b) = L at cL cB hdl
          generalize edF a b E 0 0 0 = q at cE cR
          obtain ⟨m, f⟩ := q
          simp only at cL cE cR cX cB
          refine CallI.fn (cL) (by simp only [sx3, encs, sxR, sevalprocAttr] <;> (try simp) <;> (try rfl)) ?_
          simp only [↓sx0, sx1, encs, tys, sxR, sevalprocAttr]
          refine CallI.fn (copyTexts_s true a (by omega)) (by simp only [sx3, encs, sxR, sevalprocAttr] <;> (try simp) <;> (try rfl)) ?_
          simp only [↓sx0, sx1, encs, tys, sxR, sevalprocAttr]
          refine CallI.fn (copyTexts_s true b (by omega)) (by simp only [sx3, encs, sxR, sevalprocAttr] <;> (try simp) <;> (try rfl)) ?_
          simp only [↓sx0, sx1, encs, tys, sxR, sevalprocAttr]
          repeat ((with_reducible refine Vc.go ?_ fun _ => ?_); (focus (first | omega | (simp only [InK]; omega) | (simp [InK]; done) | (simp [InK]; omega))); simp only [↓sx0, sx1, encs, tys, sxR, sevalprocAttr])
          refine CallI.fn (cE) (by simp only [sx3, encs, sxR, sevalprocAttr] <;> (try simp) <;> (try rfl)) ?_
          simp only [↓sx0, sx1, encs, tys, sxR, sevalprocAttr]
          refine CallI.fn (cC) (by simp only [sx3, encs, sxR, sevalprocAttr] <;> (try simp) <;> (try rfl)) ?_
          simp only [↓sx0, sx1, encs, tys, sxR, sevalprocAttr]
          refine BrW.no (by simp) ?_
          simp only [↓sx0, sx1, encs, tys, sxR, sevalprocAttr]
          refine CallI.fn (cR) (by simp only [sx3, encs, sxR, sevalprocAttr] <;> (try simp) <;> (try rfl)) ?_
          simp only [↓sx0, sx1, encs, tys, sxR, sevalprocAttr]
          repeat ((with_reducible refine BrW.no (by first | omega | simp) ?_); simp only [↓sx0, sx1, encs, tys, sxR, sevalprocAttr])
          refine CallI.fn (cX) (by simp only [sx3, encs, sxR, sevalprocAttr] <;> (try simp) <;> (try rfl)) ?_
          simp only [↓sx0, sx1, encs, tys, sxR, sevalprocAttr]
          refine CallI.fn (cB) (by simp only [sx3, encs, sxR, sevalprocAttr] <;> (try simp) <;> (try rfl)) ?_
          simp only [↓sx0, sx1, encs, tys, sxR, sevalprocAttr]
          refine CallI.fn (cD) (by simp only [sx3, encs, sxR, sevalprocAttr] <;> (try simp) <;> (try rfl)) ?_
          simp only [↓sx0, sx1, encs, tys, sxR, sevalprocAttr]
          exact EndW.fn (by simp only [sx4, encs, kpLL_map, sxR, sevalprocAttr] <;> (try simp) <;> (try omega)) (by simp only [sx4, encs, kpLL_map, sxR, sevalprocAttr] <;> (try simp) <;> (try omega))
        · rw [show lsV a b = ([], [], wdsErr a b) by rw [lsV, if_neg he]] at cL
          rw [show edV a b E = (0, wdsErr a b) by rw [edV, if_neg he]] at cE
          refine CallI.fn (cL) (by simp only [sx3, encs, sxR, sevalprocAttr] <;> (try simp) <;> (try rfl)) ?_
          simp only [↓sx0, sx1, encs, tys, sxR, sevalprocAttr]
          refine CallI.fn (copyTexts_s true a (by omega)) (by simp only [sx3, encs, sxR, sevalprocAttr] <;> (try simp) <;> (try rfl)) ?_
          simp only [↓sx0, sx1, encs, tys, sxR, sevalprocAttr]
          refine CallI.fn (copyTexts_s true b (by omega)) (by simp only [sx3, encs, sxR, sevalprocAttr] <;> (try simp) <;> (try rfl)) ?_
          simp only [↓sx0, sx1, encs, tys, sxR, sevalprocAttr]
          repeat ((with_reducible refine Vc.go ?_ fun _ => ?_); (focus (first | omega | (simp only [InK]; omega) | (simp [InK]; done) | (simp [InK]; omega))); simp only [↓sx0, sx1, encs, tys, sxR, sevalprocAttr])
          refine CallI.fn (cE) (by simp only [sx3, encs, sxR, sevalprocAttr] <;> (try simp) <;> (try rfl)) ?_
          simp only [↓sx0, sx1, encs, tys, sxR, sevalprocAttr]
          refine CallI.fn (cC) (by simp only [sx3, encs, sxR, sevalprocAttr] <;> (try simp) <;> (try rfl)) ?_
          simp only [↓sx0, sx1, encs, tys, sxR, sevalprocAttr]
          refine BrW.yes he ?_
          simp only [↓sx0, sx1, encs, tys, sxR, sevalprocAttr]
          repeat ((with_reducible refine Vc.go ?_ fun _ => ?_); (focus (first | omega | (simp only [InK]; omega) | (simp [InK]; done) | (simp [InK]; omega))); simp only [↓sx0, sx1, encs, tys, sxR, sevalprocAttr])
          exact EndW.fn (by simp only [sx4, encs, kpLL_map, sxR, sevalprocAttr] <;> (try simp) <;> (try omega)) (by simp only [sx4, encs, kpLL_map, sxR, sevalprocAttr] <;> (try simp) <;> (try omega))
    · simp only [↓sx0, sx1, encs, tys, sxR, sevalprocAttr]
      repeat ((with_reducible refine BrW.ff hb ?_); simp only [↓sx0, sx1, encs, tys, sxR, sevalprocAttr])
      exact EndW.fn (by simp only [sx4, encs, kpLL_map, sxR, sevalprocAttr] <;> (try simp) <;> (try omega)) (by simp only [sx4, encs, kpLL_map, sxR, sevalprocAttr] <;> (try simp) <;> (try omega))
  · simp only [↓sx0, sx1, encs, tys, sxR, sevalprocAttr]
    repeat ((with_reducible refine BrW.ff ha ?_); simp only [↓sx0, sx1, encs, tys, sxR, sevalprocAttr])
    exact EndW.fn (by simp only [sx4, encs, kpLL_map, sxR, sevalprocAttr] <;> (try simp) <;> (try omega)) (by simp only [sx4, encs, kpLL_map, sxR, sevalprocAttr] <;> (try simp) <;> (try omega))
end Go.Proofs.Ytenohgpackcjbaa
