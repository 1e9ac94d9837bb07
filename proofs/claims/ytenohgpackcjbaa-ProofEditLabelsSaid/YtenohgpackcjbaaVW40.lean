/-
  Chapter 8, walks: the law of labels.
-/
import Derived.Test.YtenohgpackcjbaaVW39
namespace Go.Proofs.Ytenohgpackcjbaa
open Go Go.Vx
set_option linter.unusedSimpArgs false
set_option linter.unusedVariables false
set_option maxRecDepth 20000
set_option maxHeartbeats 64000000 in
theorem editLabelsLaw_s (a b : List ByteArray) (L : List Int) (E : List Ed) (la : a.length ≤ maxLen) (lb' : b.length ≤ maxLen) : Ctr Try.prog 8 [.sl true 1 (a.map eS), .sl true 1 (b.map eS), .agg [.sl true 1 (L.map eI), .sl true 2 (E.map eE)]] (fun rr => rr = ⟨(.v (.bool (true))), []⟩) := by
  refine Ctr.of (rs := [.tmp 6]) Tok true Try.func8 rfl rfl rfl rfl (by simp [ofDL]) (fun w0 kp => ?_)
  simp only [↓sx0, sx1, encs, tys, sxR, sevalprocAttr]
  refine CallI.fn (awake_s) (by simp only [sx3, encs, sxR, sevalprocAttr] <;> (try simp) <;> (try rfl)) ?_
  simp only [↓sx0, sx1, encs, tys, sxR, sevalprocAttr]
  refine CallI.fn (slim_s true a la) (by simp only [sx3, encs, sxR, sevalprocAttr] <;> (try simp) <;> (try rfl)) ?_
  simp only [↓sx0, sx1, encs, tys, sxR, sevalprocAttr]
  refine BrW.of (fun ha => ?_) (fun ha => ?_)
  · obtain ⟨za, na⟩ := slim_all ha
    simp only [↓sx0, sx1, encs, tys, sxR, sevalprocAttr]
    repeat ((with_reducible refine BrW.tt ha ?_); simp only [↓sx0, sx1, encs, tys, sxR, sevalprocAttr])
    refine CallI.fn (slim_s true b lb') (by simp only [sx3, encs, sxR, sevalprocAttr] <;> (try simp) <;> (try rfl)) ?_
    simp only [↓sx0, sx1, encs, tys, sxR, sevalprocAttr]
    refine BrW.of (fun hb => ?_) (fun hb => ?_)
    · obtain ⟨zb, nb⟩ := slim_all hb
      simp only [↓sx0, sx1, encs, tys, sxR, sevalprocAttr]
      repeat ((with_reducible refine BrW.tt hb ?_); simp only [↓sx0, sx1, encs, tys, sxR, sevalprocAttr])
      refine BrW.dec (fun h300 => ?_) (fun h300 => ?_)
      · simp only [↓sx0, sx1, encs, tys, sxR, sevalprocAttr]
        repeat ((with_reducible refine BrW.yes (by omega) ?_); simp only [↓sx0, sx1, encs, tys, sxR, sevalprocAttr])
        exact EndW.fn (by simp only [sx4, encs, kpLL_map, sxR, sevalprocAttr] <;> (try simp) <;> (try omega)) (by simp only [sx4, encs, kpLL_map, sxR, sevalprocAttr] <;> (try simp) <;> (try omega))
      · simp only [↓sx0, sx1, encs, tys, sxR, sevalprocAttr]
        repeat ((with_reducible refine BrW.no (by omega) ?_); simp only [↓sx0, sx1, encs, tys, sxR, sevalprocAttr])
        refine BrW.dec (fun h30 => ?_) (fun h30 => ?_)
        · simp only [↓sx0, sx1, encs, tys, sxR, sevalprocAttr]
          exact EndW.fn (by simp only [sx4, encs, kpLL_map, sxR, sevalprocAttr] <;> (try simp) <;> (try omega)) (by simp only [sx4, encs, kpLL_map, sxR, sevalprocAttr] <;> (try simp) <;> (try omega))
        · simp only [↓sx0, sx1, encs, tys, sxR, sevalprocAttr]
          have cL := checkLabels_s a b L za zb (by omega)
          have cE := checkEdits_s true true false a b E za zb (by omega)
          have cC := compared_s true true a b za zb
          have cTa := copyTexts_s true a (by omega)
          have cTb := copyTexts_s true b (by omega)
          have cI := copyInts_s true L (by omega)
          by_cases he : wdsErr a b = 0
          · have hlen : a.length ≤ 40 ∧ b.length ≤ 40 := by
              unfold wdsErr at he
              split at he
              · assumption
              · omega
            have cR := labelsR_s true true true a b L hlen.1 hlen.2 (by omega)
            have hfin := lab_le (a := a) (b := b) (L := L) (E := E)
            rw [show labV a b L = labR a b L by rw [labV, if_pos he, labE_eq]] at cL
            rw [show edV a b E = edF a b E 0 0 0 by rw [edV, if_pos he]] at cE
            rw [he] at cC
            generalize labR a b L = r at cL cR hfin
            generalize edF a b E 0 0 0 = q at cE hfin
            obtain ⟨n, e⟩ := r
            obtain ⟨m, f⟩ := q
            simp only at cL cR cE hfin
            refine DrawW.plan Tok mixed (.q 0 <| .q 2 <| .q 4 <| .q 5 <| .e 1 [5] <| .e 3 [5] <| .e 6 [] <| .e 7 [] <| .q 8 <| .q 9 <| .q 10 <| .q 11 <| .q 12 <| .done) (by kernel_rfl) (by kernel_rfl) ?_
            simp only [↓sx0, sx1, encs, tys, sxR, sevalprocAttr]
            repeat' (first | (with_reducible refine And.intro ?_ ?_) | ((with_reducible refine Vc.go ?_ fun _ => ?_); (focus (first | trivial | omega | (simp only [InK]; omega) | (simp [InK]; done) | (simp [InK]; omega))); (try simp only [↓sx0, sx1, encs, tys, sxR, sevalprocAttr])) | (refine CallI.fn (cTa) ?_ ?_; (focus ((simp only [sx3, encs, sxR, sevalprocAttr] <;> (try simp) <;> (try rfl)); done)); (try simp only [↓sx0, sx1, encs, tys, sxR, sevalprocAttr])) | (refine CallI.fn (cTb) ?_ ?_; (focus ((simp only [sx3, encs, sxR, sevalprocAttr] <;> (try simp) <;> (try rfl)); done)); (try simp only [↓sx0, sx1, encs, tys, sxR, sevalprocAttr])) | (refine CallI.fn (cI) ?_ ?_; (focus ((simp only [sx3, encs, sxR, sevalprocAttr] <;> (try simp) <;> (try rfl)); done)); (try simp only [↓sx0, sx1, encs, tys, sxR, sevalprocAttr])) | (refine CallI.fn (cL) ?_ ?_; (focus ((simp only [sx3, encs, sxR, sevalprocAttr] <;> (try simp) <;> (try rfl)); done)); (try simp only [↓sx0, sx1, encs, tys, sxR, sevalprocAttr])))
            all_goals (
              skip
              refine DrawW.plan Tok mixed (.q 0 <| .q 2 <| .q 5 <| .q 6 <| .e2 1 [6] (.e2 3 [6] (.e 4 [6] <| .e 7 [] <| .e 8 [] <| .q 9 <| .q 10 <| .q 11 <| .q 12 <| .q 13 <| .done) 4 [6] (.e 3 [6] <| .e 7 [] <| .e 8 [] <| .q 9 <| .q 10 <| .q 11 <| .q 12 <| .q 13 <| .done)) 4 [6] (.e 1 [6] <| .e 3 [6] <| .e 7 [] <| .e 8 [] <| .q 9 <| .q 10 <| .q 11 <| .q 12 <| .q 13 <| .done)) (by kernel_rfl) (by kernel_rfl) ?_
              simp only [↓sx0, sx1, encs, tys, sxR, sevalprocAttr]
              repeat ((with_reducible refine Vc.go ?_ fun _ => ?_); (focus (first | omega | (simp only [InK]; omega) | (simp [InK]; done) | (simp [InK]; omega))); simp only [↓sx0, sx1, encs, tys, sxR, sevalprocAttr])
              repeat' (first | (with_reducible refine And.intro ?_ ?_) | ((with_reducible refine Vc.go ?_ fun _ => ?_); (focus (first | trivial | omega | (simp only [InK]; omega) | (simp [InK]; done) | (simp [InK]; omega))); (try simp only [↓sx0, sx1, encs, tys, sxR, sevalprocAttr])) | (refine CallI.fn (cTa) ?_ ?_; (focus ((simp only [sx3, encs, sxR, sevalprocAttr] <;> (try simp) <;> (try rfl)); done)); (try simp only [↓sx0, sx1, encs, tys, sxR, sevalprocAttr])) | (refine CallI.fn (cTb) ?_ ?_; (focus ((simp only [sx3, encs, sxR, sevalprocAttr] <;> (try simp) <;> (try rfl)); done)); (try simp only [↓sx0, sx1, encs, tys, sxR, sevalprocAttr])) | (refine CallI.fn (cE) ?_ ?_; (focus ((simp only [sx3, encs, sxR, sevalprocAttr] <;> (try simp) <;> (try rfl)); done)); (try simp only [↓sx0, sx1, encs, tys, sxR, sevalprocAttr])))
              all_goals (
                skip
                refine CallI.fn (cC) (by simp only [sx3, encs, sxR, sevalprocAttr] <;> (try simp) <;> (try rfl)) ?_
                simp only [↓sx0, sx1, encs, tys, sxR, sevalprocAttr]
                repeat ((first | (with_reducible refine BrW.no (by simp) ?_) | (with_reducible refine BrW.yes (by simp) ?_)); (try simp only [↓sx0, sx1, encs, tys, sxR, sevalprocAttr]))
                refine CallI.fn (cR) (by simp only [sx3, encs, sxR, sevalprocAttr] <;> (try simp) <;> (try rfl)) ?_
                simp only [↓sx0, sx1, encs, tys, sxR, sevalprocAttr]
                by_cases e1 : e = 0
                · subst e1
                  refine BrW.no (by simp) ?_
                  simp only [↓sx0, sx1, encs, tys, sxR, sevalprocAttr]
                  by_cases e2 : f = 0
                  · have hle := hfin rfl e2
                    subst e2
                    refine BrW.no (by simp) ?_
                    simp only [↓sx0, sx1, encs, tys, sxR, sevalprocAttr]
                    exact EndW.fn (by simp only [sx4, encs, kpLL_map, sxR, sevalprocAttr] <;> (try simp [hle]) <;> (try omega)) (by simp only [sx4, encs, kpLL_map, sxR, sevalprocAttr] <;> (try simp) <;> (try omega))
                  · refine BrW.yes e2 ?_
                    simp only [↓sx0, sx1, encs, tys, sxR, sevalprocAttr]
                    exact EndW.fn (by simp only [sx4, encs, kpLL_map, sxR, sevalprocAttr] <;> (try simp) <;> (try omega)) (by simp only [sx4, encs, kpLL_map, sxR, sevalprocAttr] <;> (try simp) <;> (try omega))
                · refine BrW.yes e1 ?_
                  simp only [↓sx0, sx1, encs, tys, sxR, sevalprocAttr]
                  exact EndW.fn (by simp only [sx4, encs, kpLL_map, sxR, sevalprocAttr] <;> (try simp) <;> (try omega)) (by simp only [sx4, encs, kpLL_map, sxR, sevalprocAttr] <;> (try simp) <;> (try omega)) ) )
          · rw [show labV a b L = (0, wdsErr a b) by rw [labV, if_neg he]] at cL
            generalize edV a b E = q at cE
            obtain ⟨m, f⟩ := q
            simp only at cL cE
            refine DrawW.plan Tok mixed (.q 0 <| .q 2 <| .q 4 <| .q 5 <| .e 1 [5] <| .e 3 [5] <| .e 6 [] <| .e 7 [] <| .q 8 <| .q 9 <| .q 10 <| .q 11 <| .q 12 <| .done) (by kernel_rfl) (by kernel_rfl) ?_
            simp only [↓sx0, sx1, encs, tys, sxR, sevalprocAttr]
            repeat' (first | (with_reducible refine And.intro ?_ ?_) | ((with_reducible refine Vc.go ?_ fun _ => ?_); (focus (first | trivial | omega | (simp only [InK]; omega) | (simp [InK]; done) | (simp [InK]; omega))); (try simp only [↓sx0, sx1, encs, tys, sxR, sevalprocAttr])) | (refine CallI.fn (cTa) ?_ ?_; (focus ((simp only [sx3, encs, sxR, sevalprocAttr] <;> (try simp) <;> (try rfl)); done)); (try simp only [↓sx0, sx1, encs, tys, sxR, sevalprocAttr])) | (refine CallI.fn (cTb) ?_ ?_; (focus ((simp only [sx3, encs, sxR, sevalprocAttr] <;> (try simp) <;> (try rfl)); done)); (try simp only [↓sx0, sx1, encs, tys, sxR, sevalprocAttr])) | (refine CallI.fn (cI) ?_ ?_; (focus ((simp only [sx3, encs, sxR, sevalprocAttr] <;> (try simp) <;> (try rfl)); done)); (try simp only [↓sx0, sx1, encs, tys, sxR, sevalprocAttr])) | (refine CallI.fn (cL) ?_ ?_; (focus ((simp only [sx3, encs, sxR, sevalprocAttr] <;> (try simp) <;> (try rfl)); done)); (try simp only [↓sx0, sx1, encs, tys, sxR, sevalprocAttr])))
            all_goals (
              skip
              refine DrawW.plan Tok mixed (.q 0 <| .q 2 <| .q 5 <| .q 6 <| .e2 1 [6] (.e2 3 [6] (.e 4 [6] <| .e 7 [] <| .e 8 [] <| .q 9 <| .q 10 <| .q 11 <| .q 12 <| .q 13 <| .done) 4 [6] (.e 3 [6] <| .e 7 [] <| .e 8 [] <| .q 9 <| .q 10 <| .q 11 <| .q 12 <| .q 13 <| .done)) 4 [6] (.e 1 [6] <| .e 3 [6] <| .e 7 [] <| .e 8 [] <| .q 9 <| .q 10 <| .q 11 <| .q 12 <| .q 13 <| .done)) (by kernel_rfl) (by kernel_rfl) ?_
              simp only [↓sx0, sx1, encs, tys, sxR, sevalprocAttr]
              repeat ((with_reducible refine Vc.go ?_ fun _ => ?_); (focus (first | omega | (simp only [InK]; omega) | (simp [InK]; done) | (simp [InK]; omega))); simp only [↓sx0, sx1, encs, tys, sxR, sevalprocAttr])
              repeat' (first | (with_reducible refine And.intro ?_ ?_) | ((with_reducible refine Vc.go ?_ fun _ => ?_); (focus (first | trivial | omega | (simp only [InK]; omega) | (simp [InK]; done) | (simp [InK]; omega))); (try simp only [↓sx0, sx1, encs, tys, sxR, sevalprocAttr])) | (refine CallI.fn (cTa) ?_ ?_; (focus ((simp only [sx3, encs, sxR, sevalprocAttr] <;> (try simp) <;> (try rfl)); done)); (try simp only [↓sx0, sx1, encs, tys, sxR, sevalprocAttr])) | (refine CallI.fn (cTb) ?_ ?_; (focus ((simp only [sx3, encs, sxR, sevalprocAttr] <;> (try simp) <;> (try rfl)); done)); (try simp only [↓sx0, sx1, encs, tys, sxR, sevalprocAttr])) | (refine CallI.fn (cE) ?_ ?_; (focus ((simp only [sx3, encs, sxR, sevalprocAttr] <;> (try simp) <;> (try rfl)); done)); (try simp only [↓sx0, sx1, encs, tys, sxR, sevalprocAttr])))
              all_goals (
                skip
                refine CallI.fn (cC) (by simp only [sx3, encs, sxR, sevalprocAttr] <;> (try simp) <;> (try rfl)) ?_
                simp only [↓sx0, sx1, encs, tys, sxR, sevalprocAttr]
                refine BrW.no he ?_
                simp only [↓sx0, sx1, encs, tys, sxR, sevalprocAttr]
                refine BrW.yes he ?_
                simp only [↓sx0, sx1, encs, tys, sxR, sevalprocAttr]
                exact EndW.fn (by simp only [sx4, encs, kpLL_map, sxR, sevalprocAttr] <;> (try simp) <;> (try omega)) (by simp only [sx4, encs, kpLL_map, sxR, sevalprocAttr] <;> (try simp) <;> (try omega)) ) )
    · simp only [↓sx0, sx1, encs, tys, sxR, sevalprocAttr]
      repeat ((with_reducible refine BrW.ff hb ?_); simp only [↓sx0, sx1, encs, tys, sxR, sevalprocAttr])
      exact EndW.fn (by simp only [sx4, encs, kpLL_map, sxR, sevalprocAttr] <;> (try simp) <;> (try omega)) (by simp only [sx4, encs, kpLL_map, sxR, sevalprocAttr] <;> (try simp) <;> (try omega))
  · simp only [↓sx0, sx1, encs, tys, sxR, sevalprocAttr]
    repeat ((with_reducible refine BrW.ff ha ?_); simp only [↓sx0, sx1, encs, tys, sxR, sevalprocAttr])
    exact EndW.fn (by simp only [sx4, encs, kpLL_map, sxR, sevalprocAttr] <;> (try simp) <;> (try omega)) (by simp only [sx4, encs, kpLL_map, sxR, sevalprocAttr] <;> (try simp) <;> (try omega))
end Go.Proofs.Ytenohgpackcjbaa
