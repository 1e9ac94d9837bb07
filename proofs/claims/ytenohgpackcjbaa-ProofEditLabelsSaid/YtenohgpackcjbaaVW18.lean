/-
  Chapter 8, walks: marks are right (reference).
-/
import Derived.Test.YtenohgpackcjbaaVW17
namespace Go.Proofs.Ytenohgpackcjbaa
open Go Go.Vx
set_option linter.unusedSimpArgs false
set_option linter.unusedVariables false
set_option maxRecDepth 20000
set_option maxHeartbeats 4000000 in
theorem told1_s (m : Mk) (hz : MkSz m) (hm : m.mark = 1) : Ctr Try.prog 63 [mV m] (fun rr => rr = ⟨(.v (.bool (wantB m.mark m.old m.new m.was m.kind))), []⟩) := by
  rw [wantB, if_pos hm]
  have encs := And.intro encs hm
  refine Ctr.of (rs := [.tmp 2]) Tok true Try.func63 rfl rfl rfl rfl (by simp [ofDL]) (fun w0 kp => ?_)
  simp only [↓sx0, sx1, encs, tys, sxR, sevalprocAttr]
  refine DrawW.plan Tok mixed (.q 0 <| .q 1 <| .q 2 <| .q 3 <| .q 4 <| .q 5 <| .q 6 <| .q 7 <| .q 8 <| .q 9 <| .q 10 <| .q 11 <| .q 12 <| .q 13 <| .q 14 <| .q 15 <| .q 16 <| .q 17 <| .done) (by kernel_rfl) (by kernel_rfl) ?_
  simp only [↓sx0, sx1, encs, tys, sxR, sevalprocAttr]
  refine DrawW.plan Tok mixed (.q 0 <| .q 1 <| .q 3 <| .q 4 <| .q 5 <| .e 2 [4] <| .q 6 <| .q 7 <| .done) (by kernel_rfl) (by kernel_rfl) ?_
  simp only [↓sx0, sx1, encs, tys, sxR, sevalprocAttr]
  refine CallI.fn (withinB_s 1 5 7) (by simp only [sx3, encs, sxR, sevalprocAttr] <;> (try simp) <;> (try rfl)) ?_
  simp only [↓sx0, sx1, encs, tys, sxR, sevalprocAttr]
  refine CallI.fn ((isWordR_s m.old hz.1)) (by simp only [sx3, encs, sxR, sevalprocAttr] <;> (try simp) <;> (try rfl)) ?_
  simp only [↓sx0, sx1, encs, tys, sxR, sevalprocAttr]
  refine BrW.of (fun o1 => ?_) (fun o1 => ?_)
  · simp only [↓sx0, sx1, encs, tys, sxR, sevalprocAttr]
    iterate 6 (
      all_goals (try (with_reducible refine BrW.dec (fun h => ?_) (fun h => ?_)))
      all_goals (try simp only [↓sx0, sx1, encs, tys, sxR, sevalprocAttr]) )
    all_goals (
      skip
      refine EndW.fn ?_ (by simp only [sx4, encs, kpLL_map, sxR, sevalprocAttr] <;> (try simp) <;> (try omega))
      simp only [sx4, encs, kpLL_map, sxR, sevalprocAttr]
      clear encs
      simp_all [em] <;> (intros; omega) )
  · simp only [↓sx0, sx1, encs, tys, sxR, sevalprocAttr]
    iterate 6 (
      all_goals (try (with_reducible refine BrW.dec (fun h => ?_) (fun h => ?_)))
      all_goals (try simp only [↓sx0, sx1, encs, tys, sxR, sevalprocAttr]) )
    all_goals (
      skip
      refine EndW.fn ?_ (by simp only [sx4, encs, kpLL_map, sxR, sevalprocAttr] <;> (try simp) <;> (try omega))
      simp only [sx4, encs, kpLL_map, sxR, sevalprocAttr]
      clear encs
      simp_all [em] <;> (intros; omega) )
set_option maxHeartbeats 4000000 in
theorem told2_s (m : Mk) (hz : MkSz m) (hm : m.mark = 2) : Ctr Try.prog 63 [mV m] (fun rr => rr = ⟨(.v (.bool (wantB m.mark m.old m.new m.was m.kind))), []⟩) := by
  rw [wantB, if_neg (by omega), if_pos hm]
  have encs := And.intro encs hm
  refine Ctr.of (rs := [.tmp 2]) Tok true Try.func63 rfl rfl rfl rfl (by simp [ofDL]) (fun w0 kp => ?_)
  simp only [↓sx0, sx1, encs, tys, sxR, sevalprocAttr]
  refine DrawW.plan Tok mixed (.q 0 <| .q 1 <| .q 2 <| .q 3 <| .q 4 <| .q 5 <| .q 6 <| .q 7 <| .q 8 <| .q 9 <| .q 10 <| .q 11 <| .q 12 <| .q 13 <| .q 14 <| .q 15 <| .q 16 <| .q 17 <| .done) (by kernel_rfl) (by kernel_rfl) ?_
  simp only [↓sx0, sx1, encs, tys, sxR, sevalprocAttr]
  refine DrawW.plan Tok mixed (.q 0 <| .q 1 <| .q 3 <| .q 4 <| .q 5 <| .e 2 [4] <| .q 6 <| .q 7 <| .done) (by kernel_rfl) (by kernel_rfl) ?_
  simp only [↓sx0, sx1, encs, tys, sxR, sevalprocAttr]
  refine CallI.fn (withinB_s 2 5 7) (by simp only [sx3, encs, sxR, sevalprocAttr] <;> (try simp) <;> (try rfl)) ?_
  simp only [↓sx0, sx1, encs, tys, sxR, sevalprocAttr]
  refine BrW.dec (fun o2 => ?_) (fun o2 => ?_)
  · simp only [↓sx0, sx1, encs, tys, sxR, sevalprocAttr]
    iterate 6 (
      all_goals (try (with_reducible refine BrW.dec (fun h => ?_) (fun h => ?_)))
      all_goals (try simp only [↓sx0, sx1, encs, tys, sxR, sevalprocAttr]) )
    all_goals (
      skip
      refine EndW.fn ?_ (by simp only [sx4, encs, kpLL_map, sxR, sevalprocAttr] <;> (try simp) <;> (try omega))
      simp only [sx4, encs, kpLL_map, sxR, sevalprocAttr]
      clear encs
      simp_all [em] <;> (intros; omega) )
  · simp only [↓sx0, sx1, encs, tys, sxR, sevalprocAttr]
    refine CallI.fn ((isWordR_s m.new hz.2)) (by simp only [sx3, encs, sxR, sevalprocAttr] <;> (try simp) <;> (try rfl)) ?_
    simp only [↓sx0, sx1, encs, tys, sxR, sevalprocAttr]
    refine BrW.of (fun o1 => ?_) (fun o1 => ?_)
    · simp only [↓sx0, sx1, encs, tys, sxR, sevalprocAttr]
      iterate 6 (
        all_goals (try (with_reducible refine BrW.dec (fun h => ?_) (fun h => ?_)))
        all_goals (try simp only [↓sx0, sx1, encs, tys, sxR, sevalprocAttr]) )
      all_goals (
        skip
        refine EndW.fn ?_ (by simp only [sx4, encs, kpLL_map, sxR, sevalprocAttr] <;> (try simp) <;> (try omega))
        simp only [sx4, encs, kpLL_map, sxR, sevalprocAttr]
        clear encs
        simp_all [em] <;> (intros; omega) )
    · simp only [↓sx0, sx1, encs, tys, sxR, sevalprocAttr]
      iterate 6 (
        all_goals (try (with_reducible refine BrW.dec (fun h => ?_) (fun h => ?_)))
        all_goals (try simp only [↓sx0, sx1, encs, tys, sxR, sevalprocAttr]) )
      all_goals (
        skip
        refine EndW.fn ?_ (by simp only [sx4, encs, kpLL_map, sxR, sevalprocAttr] <;> (try simp) <;> (try omega))
        simp only [sx4, encs, kpLL_map, sxR, sevalprocAttr]
        clear encs
        simp_all [em] <;> (intros; omega) )
set_option maxHeartbeats 4000000 in
theorem told3_s (m : Mk) (hz : MkSz m) (hm : m.mark = 3) : Ctr Try.prog 63 [mV m] (fun rr => rr = ⟨(.v (.bool (wantB m.mark m.old m.new m.was m.kind))), []⟩) := by
  rw [wantB, if_neg (by omega), if_neg (by omega), if_pos hm]
  have encs := And.intro encs hm
  refine Ctr.of (rs := [.tmp 2]) Tok true Try.func63 rfl rfl rfl rfl (by simp [ofDL]) (fun w0 kp => ?_)
  simp only [↓sx0, sx1, encs, tys, sxR, sevalprocAttr]
  refine DrawW.plan Tok mixed (.q 0 <| .q 1 <| .q 2 <| .q 3 <| .q 4 <| .q 5 <| .q 6 <| .q 7 <| .q 8 <| .q 9 <| .q 10 <| .q 11 <| .q 12 <| .q 13 <| .q 14 <| .q 15 <| .q 16 <| .q 17 <| .done) (by kernel_rfl) (by kernel_rfl) ?_
  simp only [↓sx0, sx1, encs, tys, sxR, sevalprocAttr]
  refine DrawW.plan Tok mixed (.q 0 <| .q 1 <| .q 3 <| .q 4 <| .q 5 <| .e 2 [4] <| .q 6 <| .q 7 <| .done) (by kernel_rfl) (by kernel_rfl) ?_
  simp only [↓sx0, sx1, encs, tys, sxR, sevalprocAttr]
  refine CallI.fn (withinB_s 3 5 7) (by simp only [sx3, encs, sxR, sevalprocAttr] <;> (try simp) <;> (try rfl)) ?_
  simp only [↓sx0, sx1, encs, tys, sxR, sevalprocAttr]
  refine CallI.fn ((isWordR_s m.old hz.1)) (by simp only [sx3, encs, sxR, sevalprocAttr] <;> (try simp) <;> (try rfl)) ?_
  simp only [↓sx0, sx1, encs, tys, sxR, sevalprocAttr]
  refine BrW.of (fun o2 => ?_) (fun o2 => ?_)
  · simp only [↓sx0, sx1, encs, tys, sxR, sevalprocAttr]
    refine CallI.fn ((isWordR_s m.new hz.2)) (by simp only [sx3, encs, sxR, sevalprocAttr] <;> (try simp) <;> (try rfl)) ?_
    simp only [↓sx0, sx1, encs, tys, sxR, sevalprocAttr]
    refine BrW.of (fun o1 => ?_) (fun o1 => ?_)
    · simp only [↓sx0, sx1, encs, tys, sxR, sevalprocAttr]
      iterate 6 (
        all_goals (try (with_reducible refine BrW.dec (fun h => ?_) (fun h => ?_)))
        all_goals (try simp only [↓sx0, sx1, encs, tys, sxR, sevalprocAttr]) )
      all_goals (
        skip
        refine EndW.fn ?_ (by simp only [sx4, encs, kpLL_map, sxR, sevalprocAttr] <;> (try simp) <;> (try omega))
        simp only [sx4, encs, kpLL_map, sxR, sevalprocAttr]
        clear encs
        simp_all [em] <;> (intros; omega) )
    · simp only [↓sx0, sx1, encs, tys, sxR, sevalprocAttr]
      iterate 6 (
        all_goals (try (with_reducible refine BrW.dec (fun h => ?_) (fun h => ?_)))
        all_goals (try simp only [↓sx0, sx1, encs, tys, sxR, sevalprocAttr]) )
      all_goals (
        skip
        refine EndW.fn ?_ (by simp only [sx4, encs, kpLL_map, sxR, sevalprocAttr] <;> (try simp) <;> (try omega))
        simp only [sx4, encs, kpLL_map, sxR, sevalprocAttr]
        clear encs
        simp_all [em] <;> (intros; omega) )
  · simp only [↓sx0, sx1, encs, tys, sxR, sevalprocAttr]
    iterate 6 (
      all_goals (try (with_reducible refine BrW.dec (fun h => ?_) (fun h => ?_)))
      all_goals (try simp only [↓sx0, sx1, encs, tys, sxR, sevalprocAttr]) )
    all_goals (
      skip
      refine EndW.fn ?_ (by simp only [sx4, encs, kpLL_map, sxR, sevalprocAttr] <;> (try simp) <;> (try omega))
      simp only [sx4, encs, kpLL_map, sxR, sevalprocAttr]
      clear encs
      simp_all [em] <;> (intros; omega) )
set_option maxHeartbeats 4000000 in
theorem told4_s (m : Mk) (hz : MkSz m) (hm : m.mark = 4) : Ctr Try.prog 63 [mV m] (fun rr => rr = ⟨(.v (.bool (wantB m.mark m.old m.new m.was m.kind))), []⟩) := by
  rw [wantB, if_neg (by omega), if_neg (by omega), if_neg (by omega), if_neg (by omega), if_neg (by omega)]
  have encs := And.intro encs hm
  refine Ctr.of (rs := [.tmp 2]) Tok true Try.func63 rfl rfl rfl rfl (by simp [ofDL]) (fun w0 kp => ?_)
  simp only [↓sx0, sx1, encs, tys, sxR, sevalprocAttr]
  refine DrawW.plan Tok mixed (.q 0 <| .q 1 <| .q 2 <| .q 3 <| .q 4 <| .q 5 <| .q 6 <| .q 7 <| .q 8 <| .q 9 <| .q 10 <| .q 11 <| .q 12 <| .q 13 <| .q 14 <| .q 15 <| .q 16 <| .q 17 <| .done) (by kernel_rfl) (by kernel_rfl) ?_
  simp only [↓sx0, sx1, encs, tys, sxR, sevalprocAttr]
  refine DrawW.plan Tok mixed (.q 0 <| .q 1 <| .q 3 <| .q 4 <| .q 5 <| .e 2 [4] <| .q 6 <| .q 7 <| .done) (by kernel_rfl) (by kernel_rfl) ?_
  simp only [↓sx0, sx1, encs, tys, sxR, sevalprocAttr]
  refine CallI.fn (withinB_s 4 5 7) (by simp only [sx3, encs, sxR, sevalprocAttr] <;> (try simp) <;> (try rfl)) ?_
  simp only [↓sx0, sx1, encs, tys, sxR, sevalprocAttr]
  iterate 6 (
    all_goals (try (with_reducible refine BrW.dec (fun h => ?_) (fun h => ?_)))
    all_goals (try simp only [↓sx0, sx1, encs, tys, sxR, sevalprocAttr]) )
  all_goals (
    skip
    refine EndW.fn ?_ (by simp only [sx4, encs, kpLL_map, sxR, sevalprocAttr] <;> (try simp) <;> (try omega))
    simp only [sx4, encs, kpLL_map, sxR, sevalprocAttr]
    clear encs
    simp_all [em] <;> (intros; omega) )
set_option maxHeartbeats 4000000 in
theorem told5_s (m : Mk) (hz : MkSz m) (hm : m.mark = 5) : Ctr Try.prog 63 [mV m] (fun rr => rr = ⟨(.v (.bool (wantB m.mark m.old m.new m.was m.kind))), []⟩) := by
  rw [wantB, if_neg (by omega), if_neg (by omega), if_neg (by omega), if_pos (by omega)]
  have encs := And.intro encs hm
  refine Ctr.of (rs := [.tmp 2]) Tok true Try.func63 rfl rfl rfl rfl (by simp [ofDL]) (fun w0 kp => ?_)
  simp only [↓sx0, sx1, encs, tys, sxR, sevalprocAttr]
  refine DrawW.plan Tok mixed (.q 0 <| .q 1 <| .q 2 <| .q 3 <| .q 4 <| .q 5 <| .q 6 <| .q 7 <| .q 8 <| .q 9 <| .q 10 <| .q 11 <| .q 12 <| .q 13 <| .q 14 <| .q 15 <| .q 16 <| .q 17 <| .done) (by kernel_rfl) (by kernel_rfl) ?_
  simp only [↓sx0, sx1, encs, tys, sxR, sevalprocAttr]
  refine DrawW.plan Tok mixed (.q 0 <| .q 1 <| .q 3 <| .q 4 <| .q 5 <| .e 2 [4] <| .q 6 <| .q 7 <| .done) (by kernel_rfl) (by kernel_rfl) ?_
  simp only [↓sx0, sx1, encs, tys, sxR, sevalprocAttr]
  refine CallI.fn (withinB_s 5 5 7) (by simp only [sx3, encs, sxR, sevalprocAttr] <;> (try simp) <;> (try rfl)) ?_
  simp only [↓sx0, sx1, encs, tys, sxR, sevalprocAttr]
  refine BrW.dec (fun o3 => ?_) (fun o3 => ?_)
  · simp only [↓sx0, sx1, encs, tys, sxR, sevalprocAttr]
    iterate 6 (
      all_goals (try (with_reducible refine BrW.dec (fun h => ?_) (fun h => ?_)))
      all_goals (try simp only [↓sx0, sx1, encs, tys, sxR, sevalprocAttr]) )
    all_goals (
      skip
      refine EndW.fn ?_ (by simp only [sx4, encs, kpLL_map, sxR, sevalprocAttr] <;> (try simp) <;> (try omega))
      simp only [sx4, encs, kpLL_map, sxR, sevalprocAttr]
      clear encs
      simp_all [em] <;> (intros; omega) )
  · simp only [↓sx0, sx1, encs, tys, sxR, sevalprocAttr]
    refine BrW.dec (fun o2 => ?_) (fun o2 => ?_)
    · simp only [↓sx0, sx1, encs, tys, sxR, sevalprocAttr]
      iterate 6 (
        all_goals (try (with_reducible refine BrW.dec (fun h => ?_) (fun h => ?_)))
        all_goals (try simp only [↓sx0, sx1, encs, tys, sxR, sevalprocAttr]) )
      all_goals (
        skip
        refine EndW.fn ?_ (by simp only [sx4, encs, kpLL_map, sxR, sevalprocAttr] <;> (try simp) <;> (try omega))
        simp only [sx4, encs, kpLL_map, sxR, sevalprocAttr]
        clear encs
        simp_all [em] <;> (intros; omega) )
    · simp only [↓sx0, sx1, encs, tys, sxR, sevalprocAttr]
      refine CallI.fn ((isKindR_s m.kind)) (by simp only [sx3, encs, sxR, sevalprocAttr] <;> (try simp) <;> (try rfl)) ?_
      simp only [↓sx0, sx1, encs, tys, sxR, sevalprocAttr]
      refine BrW.of (fun o1 => ?_) (fun o1 => ?_)
      · simp only [↓sx0, sx1, encs, tys, sxR, sevalprocAttr]
        iterate 6 (
          all_goals (try (with_reducible refine BrW.dec (fun h => ?_) (fun h => ?_)))
          all_goals (try simp only [↓sx0, sx1, encs, tys, sxR, sevalprocAttr]) )
        all_goals (
          skip
          refine EndW.fn ?_ (by simp only [sx4, encs, kpLL_map, sxR, sevalprocAttr] <;> (try simp) <;> (try omega))
          simp only [sx4, encs, kpLL_map, sxR, sevalprocAttr]
          clear encs
          simp_all [em] <;> (intros; omega) )
      · simp only [↓sx0, sx1, encs, tys, sxR, sevalprocAttr]
        iterate 6 (
          all_goals (try (with_reducible refine BrW.dec (fun h => ?_) (fun h => ?_)))
          all_goals (try simp only [↓sx0, sx1, encs, tys, sxR, sevalprocAttr]) )
        all_goals (
          skip
          refine EndW.fn ?_ (by simp only [sx4, encs, kpLL_map, sxR, sevalprocAttr] <;> (try simp) <;> (try omega))
          simp only [sx4, encs, kpLL_map, sxR, sevalprocAttr]
          clear encs
          simp_all [em] <;> (intros; omega) )
set_option maxHeartbeats 4000000 in
theorem told6_s (m : Mk) (hz : MkSz m) (hm : m.mark = 6) : Ctr Try.prog 63 [mV m] (fun rr => rr = ⟨(.v (.bool (wantB m.mark m.old m.new m.was m.kind))), []⟩) := by
  rw [wantB, if_neg (by omega), if_neg (by omega), if_neg (by omega), if_pos (by omega)]
  have encs := And.intro encs hm
  refine Ctr.of (rs := [.tmp 2]) Tok true Try.func63 rfl rfl rfl rfl (by simp [ofDL]) (fun w0 kp => ?_)
  simp only [↓sx0, sx1, encs, tys, sxR, sevalprocAttr]
  refine DrawW.plan Tok mixed (.q 0 <| .q 1 <| .q 2 <| .q 3 <| .q 4 <| .q 5 <| .q 6 <| .q 7 <| .q 8 <| .q 9 <| .q 10 <| .q 11 <| .q 12 <| .q 13 <| .q 14 <| .q 15 <| .q 16 <| .q 17 <| .done) (by kernel_rfl) (by kernel_rfl) ?_
  simp only [↓sx0, sx1, encs, tys, sxR, sevalprocAttr]
  refine DrawW.plan Tok mixed (.q 0 <| .q 1 <| .q 3 <| .q 4 <| .q 5 <| .e 2 [4] <| .q 6 <| .q 7 <| .done) (by kernel_rfl) (by kernel_rfl) ?_
  simp only [↓sx0, sx1, encs, tys, sxR, sevalprocAttr]
  refine CallI.fn (withinB_s 6 5 7) (by simp only [sx3, encs, sxR, sevalprocAttr] <;> (try simp) <;> (try rfl)) ?_
  simp only [↓sx0, sx1, encs, tys, sxR, sevalprocAttr]
  refine BrW.dec (fun o3 => ?_) (fun o3 => ?_)
  · simp only [↓sx0, sx1, encs, tys, sxR, sevalprocAttr]
    iterate 6 (
      all_goals (try (with_reducible refine BrW.dec (fun h => ?_) (fun h => ?_)))
      all_goals (try simp only [↓sx0, sx1, encs, tys, sxR, sevalprocAttr]) )
    all_goals (
      skip
      refine EndW.fn ?_ (by simp only [sx4, encs, kpLL_map, sxR, sevalprocAttr] <;> (try simp) <;> (try omega))
      simp only [sx4, encs, kpLL_map, sxR, sevalprocAttr]
      clear encs
      simp_all [em] <;> (intros; omega) )
  · simp only [↓sx0, sx1, encs, tys, sxR, sevalprocAttr]
    refine BrW.dec (fun o2 => ?_) (fun o2 => ?_)
    · simp only [↓sx0, sx1, encs, tys, sxR, sevalprocAttr]
      iterate 6 (
        all_goals (try (with_reducible refine BrW.dec (fun h => ?_) (fun h => ?_)))
        all_goals (try simp only [↓sx0, sx1, encs, tys, sxR, sevalprocAttr]) )
      all_goals (
        skip
        refine EndW.fn ?_ (by simp only [sx4, encs, kpLL_map, sxR, sevalprocAttr] <;> (try simp) <;> (try omega))
        simp only [sx4, encs, kpLL_map, sxR, sevalprocAttr]
        clear encs
        simp_all [em] <;> (intros; omega) )
    · simp only [↓sx0, sx1, encs, tys, sxR, sevalprocAttr]
      refine CallI.fn ((isKindR_s m.kind)) (by simp only [sx3, encs, sxR, sevalprocAttr] <;> (try simp) <;> (try rfl)) ?_
      simp only [↓sx0, sx1, encs, tys, sxR, sevalprocAttr]
      refine BrW.of (fun o1 => ?_) (fun o1 => ?_)
      · simp only [↓sx0, sx1, encs, tys, sxR, sevalprocAttr]
        iterate 6 (
          all_goals (try (with_reducible refine BrW.dec (fun h => ?_) (fun h => ?_)))
          all_goals (try simp only [↓sx0, sx1, encs, tys, sxR, sevalprocAttr]) )
        all_goals (
          skip
          refine EndW.fn ?_ (by simp only [sx4, encs, kpLL_map, sxR, sevalprocAttr] <;> (try simp) <;> (try omega))
          simp only [sx4, encs, kpLL_map, sxR, sevalprocAttr]
          clear encs
          simp_all [em] <;> (intros; omega) )
      · simp only [↓sx0, sx1, encs, tys, sxR, sevalprocAttr]
        iterate 6 (
          all_goals (try (with_reducible refine BrW.dec (fun h => ?_) (fun h => ?_)))
          all_goals (try simp only [↓sx0, sx1, encs, tys, sxR, sevalprocAttr]) )
        all_goals (
          skip
          refine EndW.fn ?_ (by simp only [sx4, encs, kpLL_map, sxR, sevalprocAttr] <;> (try simp) <;> (try omega))
          simp only [sx4, encs, kpLL_map, sxR, sevalprocAttr]
          clear encs
          simp_all [em] <;> (intros; omega) )
set_option maxHeartbeats 4000000 in
theorem told7_s (m : Mk) (hz : MkSz m) (hm : m.mark = 7) : Ctr Try.prog 63 [mV m] (fun rr => rr = ⟨(.v (.bool (wantB m.mark m.old m.new m.was m.kind))), []⟩) := by
  rw [wantB, if_neg (by omega), if_neg (by omega), if_neg (by omega), if_neg (by omega), if_pos (by omega)]
  have encs := And.intro encs hm
  refine Ctr.of (rs := [.tmp 2]) Tok true Try.func63 rfl rfl rfl rfl (by simp [ofDL]) (fun w0 kp => ?_)
  simp only [↓sx0, sx1, encs, tys, sxR, sevalprocAttr]
  refine DrawW.plan Tok mixed (.q 0 <| .q 1 <| .q 2 <| .q 3 <| .q 4 <| .q 5 <| .q 6 <| .q 7 <| .q 8 <| .q 9 <| .q 10 <| .q 11 <| .q 12 <| .q 13 <| .q 14 <| .q 15 <| .q 16 <| .q 17 <| .done) (by kernel_rfl) (by kernel_rfl) ?_
  simp only [↓sx0, sx1, encs, tys, sxR, sevalprocAttr]
  refine DrawW.plan Tok mixed (.q 0 <| .q 1 <| .q 3 <| .q 4 <| .q 5 <| .e 2 [4] <| .q 6 <| .q 7 <| .done) (by kernel_rfl) (by kernel_rfl) ?_
  simp only [↓sx0, sx1, encs, tys, sxR, sevalprocAttr]
  refine CallI.fn (withinB_s 7 5 7) (by simp only [sx3, encs, sxR, sevalprocAttr] <;> (try simp) <;> (try rfl)) ?_
  simp only [↓sx0, sx1, encs, tys, sxR, sevalprocAttr]
  refine BrW.dec (fun o4 => ?_) (fun o4 => ?_)
  · simp only [↓sx0, sx1, encs, tys, sxR, sevalprocAttr]
    iterate 6 (
      all_goals (try (with_reducible refine BrW.dec (fun h => ?_) (fun h => ?_)))
      all_goals (try simp only [↓sx0, sx1, encs, tys, sxR, sevalprocAttr]) )
    all_goals (
      skip
      refine EndW.fn ?_ (by simp only [sx4, encs, kpLL_map, sxR, sevalprocAttr] <;> (try simp) <;> (try omega))
      simp only [sx4, encs, kpLL_map, sxR, sevalprocAttr]
      clear encs
      simp_all [em] <;> (intros; omega) )
  · simp only [↓sx0, sx1, encs, tys, sxR, sevalprocAttr]
    refine BrW.dec (fun o3 => ?_) (fun o3 => ?_)
    · simp only [↓sx0, sx1, encs, tys, sxR, sevalprocAttr]
      iterate 6 (
        all_goals (try (with_reducible refine BrW.dec (fun h => ?_) (fun h => ?_)))
        all_goals (try simp only [↓sx0, sx1, encs, tys, sxR, sevalprocAttr]) )
      all_goals (
        skip
        refine EndW.fn ?_ (by simp only [sx4, encs, kpLL_map, sxR, sevalprocAttr] <;> (try simp) <;> (try omega))
        simp only [sx4, encs, kpLL_map, sxR, sevalprocAttr]
        clear encs
        simp_all [em] <;> (intros; omega) )
    · simp only [↓sx0, sx1, encs, tys, sxR, sevalprocAttr]
      refine CallI.fn ((isKindR_s m.kind)) (by simp only [sx3, encs, sxR, sevalprocAttr] <;> (try simp) <;> (try rfl)) ?_
      simp only [↓sx0, sx1, encs, tys, sxR, sevalprocAttr]
      refine BrW.of (fun o2 => ?_) (fun o2 => ?_)
      · simp only [↓sx0, sx1, encs, tys, sxR, sevalprocAttr]
        refine CallI.fn ((isKindR_s m.was)) (by simp only [sx3, encs, sxR, sevalprocAttr] <;> (try simp) <;> (try rfl)) ?_
        simp only [↓sx0, sx1, encs, tys, sxR, sevalprocAttr]
        refine BrW.of (fun o1 => ?_) (fun o1 => ?_)
        · simp only [↓sx0, sx1, encs, tys, sxR, sevalprocAttr]
          iterate 6 (
            all_goals (try (with_reducible refine BrW.dec (fun h => ?_) (fun h => ?_)))
            all_goals (try simp only [↓sx0, sx1, encs, tys, sxR, sevalprocAttr]) )
          all_goals (
            skip
            refine EndW.fn ?_ (by simp only [sx4, encs, kpLL_map, sxR, sevalprocAttr] <;> (try simp) <;> (try omega))
            simp only [sx4, encs, kpLL_map, sxR, sevalprocAttr]
            clear encs
            simp_all [em] <;> (intros; omega) )
        · simp only [↓sx0, sx1, encs, tys, sxR, sevalprocAttr]
          iterate 6 (
            all_goals (try (with_reducible refine BrW.dec (fun h => ?_) (fun h => ?_)))
            all_goals (try simp only [↓sx0, sx1, encs, tys, sxR, sevalprocAttr]) )
          all_goals (
            skip
            refine EndW.fn ?_ (by simp only [sx4, encs, kpLL_map, sxR, sevalprocAttr] <;> (try simp) <;> (try omega))
            simp only [sx4, encs, kpLL_map, sxR, sevalprocAttr]
            clear encs
            simp_all [em] <;> (intros; omega) )
      · simp only [↓sx0, sx1, encs, tys, sxR, sevalprocAttr]
        iterate 6 (
          all_goals (try (with_reducible refine BrW.dec (fun h => ?_) (fun h => ?_)))
          all_goals (try simp only [↓sx0, sx1, encs, tys, sxR, sevalprocAttr]) )
        all_goals (
          skip
          refine EndW.fn ?_ (by simp only [sx4, encs, kpLL_map, sxR, sevalprocAttr] <;> (try simp) <;> (try omega))
          simp only [sx4, encs, kpLL_map, sxR, sevalprocAttr]
          clear encs
          simp_all [em] <;> (intros; omega) )
theorem toldR_s (m : Mk) (hz : MkSz m) (hk : 1 ≤ m.mark ∧ m.mark ≤ 7) : Ctr Try.prog 63 [mV m] (fun rr => rr = ⟨(.v (.bool (wantB m.mark m.old m.new m.was m.kind))), []⟩) := by
  rcases (show m.mark = 1 ∨ m.mark = 2 ∨ m.mark = 3 ∨ m.mark = 4 ∨ m.mark = 5 ∨ m.mark = 6 ∨ m.mark = 7 by omega) with h | h | h | h | h | h | h
  · exact told1_s m hz h
  · exact told2_s m hz h
  · exact told3_s m hz h
  · exact told4_s m hz h
  · exact told5_s m hz h
  · exact told6_s m hz h
  · exact told7_s m hz h
theorem checkMarkR_s (m : Mk) (hz : MkSz m) : Ctr Try.prog 21 [mV m] (fun rr => rr = ⟨(.v (.int .i64 (mkErr m))), []⟩) := by
  have hpl := placeR_s m
  refine Ctr.of (rs := [.tmp 2]) Tok true Try.func21 rfl rfl rfl rfl (by simp [ofDL]) (fun w0 kp => ?_)
  simp only [↓sx0, sx1, encs, tys, sxR, sevalprocAttr]
  refine CallI.fn (withinB_s m.mark 1 7) (by simp only [sx3, encs, sxR, sevalprocAttr] <;> (try simp) <;> (try rfl)) ?_
  simp only [↓sx0, sx1, encs, tys, sxR, sevalprocAttr]
  refine BrW.of (fun hk => ?_) (fun hk => ?_)
  · have hk : 1 ≤ m.mark ∧ m.mark ≤ 7 := by simpa using hk
    simp only [↓sx0, sx1, encs, tys, sxR, sevalprocAttr]
    by_cases hr : inR m = true
    · rw [if_pos hr] at hpl
      refine CallI.fn (hpl) (by simp only [sx3, encs, sxR, sevalprocAttr] <;> (try simp) <;> (try rfl)) ?_
      simp only [↓sx0, sx1, encs, tys, sxR, sevalprocAttr]
      refine BrW.no (by simp) ?_
      simp only [↓sx0, sx1, encs, tys, sxR, sevalprocAttr]
      have he : mkErr m = if wantB m.mark m.old m.new m.was m.kind = true then bdE m else 3 := by
        rw [mkErr, if_pos hk, if_pos hr, bdE]
        by_cases hw : wantB m.mark m.old m.new m.was m.kind = true
        · rw [if_pos hw]
          by_cases h1 : ptsB m = true ∧ m.word = 0
          · rw [if_neg (fun h => h.2.1 h1), if_pos (.inl h1)]
          · by_cases h2 : m.mark = 7 ∧ m.word ≠ 0
            · rw [if_neg (fun h => h.2.2 h2), if_pos (.inr h2)]
            · rw [if_pos ⟨hw, h1, h2⟩, if_neg (fun h => h.elim h1 h2)]
        · rw [if_neg hw, if_neg (fun h => hw h.1)]
      rw [he]
      refine CallI.fn (toldR_s m hz hk) (by simp only [sx3, encs, sxR, sevalprocAttr] <;> (try simp) <;> (try rfl)) ?_
      simp only [↓sx0, sx1, encs, tys, sxR, sevalprocAttr]
      refine BrW.of (fun ht => ?_) (fun ht => ?_)
      · rw [if_pos ht]
        simp only [↓sx0, sx1, encs, tys, sxR, sevalprocAttr]
        refine CallI.fn (boundsR_s m) (by simp only [sx3, encs, sxR, sevalprocAttr] <;> (try simp) <;> (try rfl)) ?_
        simp only [↓sx0, sx1, encs, tys, sxR, sevalprocAttr]
        exact EndW.fn (by simp only [sx4, encs, kpLL_map, sxR, sevalprocAttr] <;> (try simp) <;> (try omega)) (by simp only [sx4, encs, kpLL_map, sxR, sevalprocAttr] <;> (try simp) <;> (try omega))
      · rw [if_neg (by rw [ht]; simp)]
        simp only [↓sx0, sx1, encs, tys, sxR, sevalprocAttr]
        exact EndW.fn (by simp only [sx4, encs, kpLL_map, sxR, sevalprocAttr] <;> (try simp) <;> (try omega)) (by simp only [sx4, encs, kpLL_map, sxR, sevalprocAttr] <;> (try simp) <;> (try omega))
    · rw [if_neg hr] at hpl
      refine CallI.fn (hpl) (by simp only [sx3, encs, sxR, sevalprocAttr] <;> (try simp) <;> (try rfl)) ?_
      simp only [↓sx0, sx1, encs, tys, sxR, sevalprocAttr]
      rw [show mkErr m = 2 by rw [mkErr, if_pos hk, if_neg hr]]
      exact EndW.fn (by simp only [sx4, encs, kpLL_map, sxR, sevalprocAttr] <;> (try simp) <;> (try omega)) (by simp only [sx4, encs, kpLL_map, sxR, sevalprocAttr] <;> (try simp) <;> (try omega))
  · have hk : ¬ (1 ≤ m.mark ∧ m.mark ≤ 7) := by simpa using hk
    rw [show mkErr m = 15 by rw [mkErr, if_neg hk]]
    simp only [↓sx0, sx1, encs, tys, sxR, sevalprocAttr]
    exact EndW.fn (by simp only [sx4, encs, kpLL_map, sxR, sevalprocAttr] <;> (try simp) <;> (try omega)) (by simp only [sx4, encs, kpLL_map, sxR, sevalprocAttr] <;> (try simp) <;> (try omega))
end Go.Proofs.Ytenohgpackcjbaa
