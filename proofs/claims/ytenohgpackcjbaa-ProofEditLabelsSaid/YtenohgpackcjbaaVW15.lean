/-
  Chapter 8, walks: two marks in the other order (reference).
-/
import Derived.Test.YtenohgpackcjbaaVW12
import Derived.Test.YtenohgpackcjbaaVW13
import Derived.Test.YtenohgpackcjbaaVW14
namespace Go.Proofs.Ytenohgpackcjbaa
open Go Go.Vx
set_option linter.unusedSimpArgs false
set_option linter.unusedVariables false
set_option maxRecDepth 20000
def orR (r : Option (Mk × Mk)) (a b : Mk) : SV := match r with
  | some (x, y) => .tup [mV y, mV x, (.v (.bool (true)))]
  | none => .tup [mV b, mV a, (.v (.bool (false)))]
theorem orE : (∀ x y a b, orR (some (x, y)) a b = .tup [mV y, mV x, (.v (.bool (true)))]) ∧ (∀ a b, orR none a b = .tup [mV b, mV a, (.v (.bool (false)))]) := ⟨fun _ _ _ _ => rfl, fun _ _ => rfl⟩
theorem aheadR_s (m : Mk) (h : 1 ≤ m.mark ∧ m.mark ≤ 4) : Ctr Try.prog 106 [mV m] (fun rr => rr = ⟨(.v (.int .i64 (ahM m))), []⟩) := by
  refine Ctr.of (rs := [.tmp 2]) Tok true Try.func106 rfl rfl rfl rfl (by simp [ofDL]) (fun w0 kp => ?_)
  simp only [↓sx0, sx1, encs, tys, sxR, sevalprocAttr]
  refine BrW.dec (fun h2 => ?_) (fun h2 => ?_)
  · rw [show ahM m = 0 by rw [ahM, if_neg (by omega), if_neg (by omega), if_neg (by omega)]]
    simp only [↓sx0, sx1, encs, tys, sxR, sevalprocAttr]
    exact EndW.fn (by simp only [sx4, encs, kpLL_map, sxR, sevalprocAttr] <;> (try simp) <;> (try omega)) (by simp only [sx4, encs, kpLL_map, sxR, sevalprocAttr] <;> (try simp) <;> (try omega))
  · simp only [↓sx0, sx1, encs, tys, sxR, sevalprocAttr]
    refine BrW.dec (fun h4 => ?_) (fun h4 => ?_)
    · rw [show ahM m = 2 by rw [ahM, if_neg (by omega), if_neg (by omega), if_pos (by omega)]]
      simp only [↓sx0, sx1, encs, tys, sxR, sevalprocAttr]
      exact EndW.fn (by simp only [sx4, encs, kpLL_map, sxR, sevalprocAttr] <;> (try simp) <;> (try omega)) (by simp only [sx4, encs, kpLL_map, sxR, sevalprocAttr] <;> (try simp) <;> (try omega))
    · have e : ahM m = 1 := by
        by_cases h1 : m.mark = 1
        · rw [ahM, if_pos h1]
        · rw [ahM, if_neg h1, if_pos (by omega)]
      rw [e]
      simp only [↓sx0, sx1, encs, tys, sxR, sevalprocAttr]
      exact EndW.fn (by simp only [sx4, encs, kpLL_map, sxR, sevalprocAttr] <;> (try simp) <;> (try omega)) (by simp only [sx4, encs, kpLL_map, sxR, sevalprocAttr] <;> (try simp) <;> (try omega))
theorem behindR_s (m : Mk) (h : 1 ≤ m.mark ∧ m.mark ≤ 4) : Ctr Try.prog 108 [mV m] (fun rr => rr = ⟨(.v (.int .i64 (ahM m + lenM m))), []⟩) := by
  refine Ctr.of (rs := [.tmp 2]) Tok true Try.func108 rfl rfl rfl rfl (by simp [ofDL]) (fun w0 kp => ?_)
  simp only [↓sx0, sx1, encs, tys, sxR, sevalprocAttr]
  refine BrW.dec (fun h2 => ?_) (fun h2 => ?_)
  · rw [show ahM m + lenM m = 0 by rw [ahM, if_pos (by omega), lenM, if_pos (by omega)]; rfl]
    simp only [↓sx0, sx1, encs, tys, sxR, sevalprocAttr]
    exact EndW.fn (by simp only [sx4, encs, kpLL_map, sxR, sevalprocAttr] <;> (try simp) <;> (try omega)) (by simp only [sx4, encs, kpLL_map, sxR, sevalprocAttr] <;> (try simp) <;> (try omega))
  · simp only [↓sx0, sx1, encs, tys, sxR, sevalprocAttr]
    refine BrW.dec (fun h4 => ?_) (fun h4 => ?_)
    · rw [show ahM m + lenM m = 2 by rw [ahM, if_neg (by omega), if_neg (by omega), if_pos (by omega), lenM, if_neg (by omega), if_neg (by omega)]; rfl]
      simp only [↓sx0, sx1, encs, tys, sxR, sevalprocAttr]
      exact EndW.fn (by simp only [sx4, encs, kpLL_map, sxR, sevalprocAttr] <;> (try simp) <;> (try omega)) (by simp only [sx4, encs, kpLL_map, sxR, sevalprocAttr] <;> (try simp) <;> (try omega))
    · have e : ahM m + lenM m = 1 := by
        by_cases h1 : m.mark = 2
        · rw [ahM, if_neg (by omega), if_neg (by omega), if_neg (by omega), lenM, if_neg (by omega), if_pos (by omega)]; rfl
        · rw [ahM, if_neg (by omega), if_pos (by omega), lenM, if_neg (by omega), if_neg (by omega)]; rfl
      rw [e]
      simp only [↓sx0, sx1, encs, tys, sxR, sevalprocAttr]
      exact EndW.fn (by simp only [sx4, encs, kpLL_map, sxR, sevalprocAttr] <;> (try simp) <;> (try omega)) (by simp only [sx4, encs, kpLL_map, sxR, sevalprocAttr] <;> (try simp) <;> (try omega))
theorem lengthensR_s (m : Mk) (h : 1 ≤ m.mark ∧ m.mark ≤ 4) : Ctr Try.prog 107 [mV m] (fun rr => rr = ⟨(.v (.int .i64 (lenM m))), []⟩) := by
  have h1 := ahM_b m
  have h2 := lenM_b m
  refine Ctr.of (rs := [.tmp 2]) Tok true Try.func107 rfl rfl rfl rfl (by simp [ofDL]) (fun w0 kp => ?_)
  simp only [↓sx0, sx1, encs, tys, sxR, sevalprocAttr]
  refine DrawW.plan Tok mixed (.q 0 <| .q 2 <| .e 1 [2] <| .e 3 [] <| .q 4 <| .q 5 <| .done) (by kernel_rfl) (by kernel_rfl) ?_
  simp only [↓sx0, sx1, encs, tys, sxR, sevalprocAttr]
  refine CallI.fn (behindR_s m h) (by simp only [sx3, encs, sxR, sevalprocAttr] <;> (try simp) <;> (try rfl)) ?_
  simp only [↓sx0, sx1, encs, tys, sxR, sevalprocAttr]
  refine CallI.fn (aheadR_s m h) (by simp only [sx3, encs, sxR, sevalprocAttr] <;> (try simp) <;> (try rfl)) ?_
  simp only [↓sx0, sx1, encs, tys, sxR, sevalprocAttr]
  repeat ((with_reducible refine Vc.go ?_ fun _ => ?_); (focus (first | omega | (simp only [InK]; omega) | (simp [InK]; done) | (simp [InK]; omega))); simp only [↓sx0, sx1, encs, tys, sxR, sevalprocAttr])
  rw [show ahM m + lenM m - ahM m = lenM m by omega]
  exact EndW.fn (by simp only [sx4, encs, kpLL_map, sxR, sevalprocAttr] <;> (try simp) <;> (try omega)) (by simp only [sx4, encs, kpLL_map, sxR, sevalprocAttr] <;> (try simp) <;> (try omega))
theorem ow_yes {m : Mk} (h : 1 ≤ m.mark ∧ m.mark ≤ 4) : owB m = true := by simp [owB, h]
theorem ow_no {m : Mk} (h : ¬ (1 ≤ m.mark ∧ m.mark ≤ 4)) : ¬ owB m = true := by simp [owB]; omega
theorem pts_yes {m : Mk} (h : m.mark = 5 ∨ m.mark = 6) : ptsB m = true := by rcases h with h | h <;> simp [ptsB, h]
theorem pts_no {m : Mk} (h : ¬ (m.mark = 5 ∨ m.mark = 6)) : ¬ ptsB m = true := by simp [ptsB]; omega
theorem sh_5 {m : Mk} (h : m.mark = 5) : shM m = 1 := by rw [shM, if_pos h]
theorem sh_6 {m : Mk} (h : m.mark = 6) : shM m = -1 := by rw [shM, if_neg (by omega), if_pos h]
theorem sh_0 {m : Mk} (h5 : ¬ m.mark = 5) (h : ¬ m.mark = 6) : shM m = 0 := by rw [shM, if_neg h5, if_neg h]
set_option maxHeartbeats 8000000 in
theorem earlier_s (a b : Mk) (ha : inR a = true) (hb : inR b = true) (ma : 1 ≤ a.mark ∧ a.mark ≤ 7) (mb : 1 ≤ b.mark ∧ b.mark ≤ 7) : Ctr Try.prog 131 [mV a, mV b] (fun rr => rr = ⟨orR (befP a b) a b, []⟩) := by
  have encs := And.intro encs orE
  obtain ⟨⟨a1, a2⟩, a3, a4⟩ := inR_b ha
  obtain ⟨⟨b1, b2⟩, b3, b4⟩ := inR_b hb
  have la := lenM_b a
  have lb := lenM_b b
  have sb := shM_b b
  have ah := ahM_b a
  have bh := ahM_b b
  refine Ctr.of (rs := [.cell 4 24, .cell 5 24, .tmp 6]) Tok true Try.func131 rfl rfl rfl rfl (by simp [ofDL]) (fun w0 kp => ?_)
  simp only [↓sx0, sx1, encs, tys, sxR, sevalprocAttr]
  refine BrW.dec (fun p3 => ?_) (fun p3 => ?_)
  · simp only [↓sx0, sx1, encs, tys, sxR, sevalprocAttr]
    repeat ((with_reducible refine Vc.go ?_ fun _ => ?_); (focus (first | omega | (simp only [InK]; omega) | (simp [InK]; done) | (simp [InK]; omega))); simp only [↓sx0, sx1, encs, tys, sxR, sevalprocAttr])
    refine BrW.dec (fun p1 => ?_) (fun p1 => ?_)
    · simp only [↓sx0, sx1, encs, tys, sxR, sevalprocAttr]
      have hq : befP a b = none := by rw [befP, if_pos (by omega), if_pos (by omega)]
      rw [hq]
      refine DrawW.plan Tok mixed (.q 0 <| .q 1 <| .e 2 [1] <| .e 3 [] <| .q 4 <| .done) (by kernel_rfl) (by kernel_rfl) ?_
      simp only [↓sx0, sx1, encs, tys, sxR, sevalprocAttr]
      exact EndW.fn (by simp only [sx4, encs, kpLL_map, sxR, sevalprocAttr] <;> (try simp) <;> (try omega)) (by simp only [sx4, encs, kpLL_map, sxR, sevalprocAttr] <;> (try simp) <;> (try omega))
    · simp only [↓sx0, sx1, encs, tys, sxR, sevalprocAttr]
      refine BrW.no (by omega) ?_
      simp only [↓sx0, sx1, encs, tys, sxR, sevalprocAttr]
      refine BrW.yes (by omega) ?_
      simp only [↓sx0, sx1, encs, tys, sxR, sevalprocAttr]
      repeat ((with_reducible refine Vc.go ?_ fun _ => ?_); (focus (first | omega | (simp only [InK]; omega) | (simp [InK]; done) | (simp [InK]; omega))); simp only [↓sx0, sx1, encs, tys, sxR, sevalprocAttr])
      have hq : befP a b = some ({ a with part := a.part - 1 }, b) := by rw [befP, if_pos (by omega), if_neg (by omega)]; rw [sh_6 (by omega), Int.add_neg_one]
      rw [hq]
      refine DrawW.plan Tok mixed (.q 0 <| .q 1 <| .e 2 [1] <| .e 3 [] <| .q 4 <| .done) (by kernel_rfl) (by kernel_rfl) ?_
      simp only [↓sx0, sx1, encs, tys, sxR, sevalprocAttr]
      exact EndW.fn (by simp only [sx4, encs, kpLL_map, sxR, sevalprocAttr] <;> (try simp) <;> (try omega)) (by simp only [sx4, encs, kpLL_map, sxR, sevalprocAttr] <;> (try simp) <;> (try omega))
  · simp only [↓sx0, sx1, encs, tys, sxR, sevalprocAttr]
    refine BrW.dec (fun p2 => ?_) (fun p2 => ?_)
    · simp only [↓sx0, sx1, encs, tys, sxR, sevalprocAttr]
      repeat ((with_reducible refine Vc.go ?_ fun _ => ?_); (focus (first | omega | (simp only [InK]; omega) | (simp [InK]; done) | (simp [InK]; omega))); simp only [↓sx0, sx1, encs, tys, sxR, sevalprocAttr])
      refine BrW.no (by omega) ?_
      simp only [↓sx0, sx1, encs, tys, sxR, sevalprocAttr]
      have hq : befP a b = some ({ a with part := a.part + 1 }, b) := by rw [befP, if_neg (by omega)]; rw [sh_5 (by omega)]
      rw [hq]
      refine DrawW.plan Tok mixed (.q 0 <| .q 1 <| .e 2 [1] <| .e 3 [] <| .q 4 <| .done) (by kernel_rfl) (by kernel_rfl) ?_
      simp only [↓sx0, sx1, encs, tys, sxR, sevalprocAttr]
      exact EndW.fn (by simp only [sx4, encs, kpLL_map, sxR, sevalprocAttr] <;> (try simp) <;> (try omega)) (by simp only [sx4, encs, kpLL_map, sxR, sevalprocAttr] <;> (try simp) <;> (try omega))
    · simp only [↓sx0, sx1, encs, tys, sxR, sevalprocAttr]
      refine BrW.no (by omega) ?_
      simp only [↓sx0, sx1, encs, tys, sxR, sevalprocAttr]
      have hq : befP a b = some (a, b) := by rw [befP, if_neg (by omega)]; rw [sh_0 (by omega) (by omega), Int.add_zero]
      rw [hq]
      refine DrawW.plan Tok mixed (.q 0 <| .q 1 <| .e 2 [1] <| .e 3 [] <| .q 4 <| .done) (by kernel_rfl) (by kernel_rfl) ?_
      simp only [↓sx0, sx1, encs, tys, sxR, sevalprocAttr]
      exact EndW.fn (by simp only [sx4, encs, kpLL_map, sxR, sevalprocAttr] <;> (try simp) <;> (try omega)) (by simp only [sx4, encs, kpLL_map, sxR, sevalprocAttr] <;> (try simp) <;> (try omega))
set_option maxHeartbeats 8000000 in
theorem behindBreak_s (a b : Mk) (ha : inR a = true) (hb : inR b = true) (ma : 1 ≤ a.mark ∧ a.mark ≤ 7) (mb : 1 ≤ b.mark ∧ b.mark ≤ 7) : Ctr Try.prog 103 [mV a, mV b] (fun rr => rr = ⟨orR (brokenP a b) a b, []⟩) := by
  have encs := And.intro encs orE
  obtain ⟨⟨a1, a2⟩, a3, a4⟩ := inR_b ha
  obtain ⟨⟨b1, b2⟩, b3, b4⟩ := inR_b hb
  have la := lenM_b a
  have lb := lenM_b b
  have sb := shM_b b
  have ah := ahM_b a
  have bh := ahM_b b
  refine Ctr.of (rs := [.cell 4 24, .cell 5 24, .tmp 6]) Tok true Try.func103 rfl rfl rfl rfl (by simp [ofDL]) (fun w0 kp => ?_)
  simp only [↓sx0, sx1, encs, tys, sxR, sevalprocAttr]
  refine BrW.dec (fun p7 => ?_) (fun p7 => ?_)
  · simp only [↓sx0, sx1, encs, tys, sxR, sevalprocAttr]
    have hE := earlier_s a b ha hb ma mb
    have hP : brokenP a b = befP a b := by rw [brokenP, if_pos (by omega)]
    rw [hP]
    rcases hbe : befP a b with _ | ⟨x, y⟩
    · rw [hbe] at hE
      have encs := And.intro encs orE
      simp only [orE] at hE
      refine CallI.fn (hE) (by simp only [sx3, encs, sxR, sevalprocAttr] <;> (try simp) <;> (try rfl)) ?_
      simp only [↓sx0, sx1, encs, tys, sxR, sevalprocAttr]
      exact EndW.fn (by simp only [sx4, encs, kpLL_map, sxR, sevalprocAttr] <;> (try simp) <;> (try omega)) (by simp only [sx4, encs, kpLL_map, sxR, sevalprocAttr] <;> (try simp) <;> (try omega))
    · rw [hbe] at hE
      simp only [orE] at hE
      refine CallI.fn (hE) (by simp only [sx3, encs, sxR, sevalprocAttr] <;> (try simp) <;> (try rfl)) ?_
      simp only [↓sx0, sx1, encs, tys, sxR, sevalprocAttr]
      exact EndW.fn (by simp only [sx4, encs, kpLL_map, sxR, sevalprocAttr] <;> (try simp) <;> (try omega)) (by simp only [sx4, encs, kpLL_map, sxR, sevalprocAttr] <;> (try simp) <;> (try omega))
  · simp only [↓sx0, sx1, encs, tys, sxR, sevalprocAttr]
    repeat ((with_reducible refine Vc.go ?_ fun _ => ?_); (focus (first | omega | (simp only [InK]; omega) | (simp [InK]; done) | (simp [InK]; omega))); simp only [↓sx0, sx1, encs, tys, sxR, sevalprocAttr])
    refine BrW.dec (fun p6 => ?_) (fun p6 => ?_)
    · simp only [↓sx0, sx1, encs, tys, sxR, sevalprocAttr]
      repeat ((with_reducible refine Vc.go ?_ fun _ => ?_); (focus (first | omega | (simp only [InK]; omega) | (simp [InK]; done) | (simp [InK]; omega))); simp only [↓sx0, sx1, encs, tys, sxR, sevalprocAttr])
      have hq : brokenP a b = some (a, { b with part := b.part - 1 }) := by rw [brokenP, if_neg (by omega), if_pos (by omega)]
      rw [hq]
      refine DrawW.plan Tok mixed (.q 0 <| .q 1 <| .e 2 [1] <| .e 3 [] <| .q 4 <| .done) (by kernel_rfl) (by kernel_rfl) ?_
      simp only [↓sx0, sx1, encs, tys, sxR, sevalprocAttr]
      exact EndW.fn (by simp only [sx4, encs, kpLL_map, sxR, sevalprocAttr] <;> (try simp) <;> (try omega)) (by simp only [sx4, encs, kpLL_map, sxR, sevalprocAttr] <;> (try simp) <;> (try omega))
    · simp only [↓sx0, sx1, encs, tys, sxR, sevalprocAttr]
      refine BrW.dec (fun p5 => ?_) (fun p5 => ?_)
      · simp only [↓sx0, sx1, encs, tys, sxR, sevalprocAttr]
        repeat ((with_reducible refine BrW.yes (by omega) ?_); simp only [↓sx0, sx1, encs, tys, sxR, sevalprocAttr])
        have hq : brokenP a b = none := by rw [brokenP, if_neg (by omega), if_neg (by omega), if_pos (pts_yes (by omega))]
        rw [hq]
        refine DrawW.plan Tok mixed (.q 0 <| .q 1 <| .e 2 [1] <| .e 3 [] <| .q 4 <| .done) (by kernel_rfl) (by kernel_rfl) ?_
        simp only [↓sx0, sx1, encs, tys, sxR, sevalprocAttr]
        exact EndW.fn (by simp only [sx4, encs, kpLL_map, sxR, sevalprocAttr] <;> (try simp) <;> (try omega)) (by simp only [sx4, encs, kpLL_map, sxR, sevalprocAttr] <;> (try simp) <;> (try omega))
      · simp only [↓sx0, sx1, encs, tys, sxR, sevalprocAttr]
        refine BrW.dec (fun p4 => ?_) (fun p4 => ?_)
        · simp only [↓sx0, sx1, encs, tys, sxR, sevalprocAttr]
          repeat ((with_reducible refine BrW.yes (by omega) ?_); simp only [↓sx0, sx1, encs, tys, sxR, sevalprocAttr])
          have hq : brokenP a b = none := by rw [brokenP, if_neg (by omega), if_neg (by omega), if_pos (pts_yes (by omega))]
          rw [hq]
          refine DrawW.plan Tok mixed (.q 0 <| .q 1 <| .e 2 [1] <| .e 3 [] <| .q 4 <| .done) (by kernel_rfl) (by kernel_rfl) ?_
          simp only [↓sx0, sx1, encs, tys, sxR, sevalprocAttr]
          exact EndW.fn (by simp only [sx4, encs, kpLL_map, sxR, sevalprocAttr] <;> (try simp) <;> (try omega)) (by simp only [sx4, encs, kpLL_map, sxR, sevalprocAttr] <;> (try simp) <;> (try omega))
        · simp only [↓sx0, sx1, encs, tys, sxR, sevalprocAttr]
          refine BrW.dec (fun p3 => ?_) (fun p3 => ?_)
          · simp only [↓sx0, sx1, encs, tys, sxR, sevalprocAttr]
            repeat ((with_reducible refine Vc.go ?_ fun _ => ?_); (focus (first | omega | (simp only [InK]; omega) | (simp [InK]; done) | (simp [InK]; omega))); simp only [↓sx0, sx1, encs, tys, sxR, sevalprocAttr])
            refine BrW.dec (fun p2 => ?_) (fun p2 => ?_)
            · simp only [↓sx0, sx1, encs, tys, sxR, sevalprocAttr]
              repeat ((with_reducible refine BrW.yes (by omega) ?_); simp only [↓sx0, sx1, encs, tys, sxR, sevalprocAttr])
              have hq : brokenP a b = none := by rw [brokenP, if_neg (by omega), if_neg (by omega), if_neg (pts_no (by omega)), if_neg (by omega), if_neg (ow_no (by omega))]
              rw [hq]
              refine DrawW.plan Tok mixed (.q 0 <| .q 1 <| .e 2 [1] <| .e 3 [] <| .q 4 <| .done) (by kernel_rfl) (by kernel_rfl) ?_
              simp only [↓sx0, sx1, encs, tys, sxR, sevalprocAttr]
              exact EndW.fn (by simp only [sx4, encs, kpLL_map, sxR, sevalprocAttr] <;> (try simp) <;> (try omega)) (by simp only [sx4, encs, kpLL_map, sxR, sevalprocAttr] <;> (try simp) <;> (try omega))
            · simp only [↓sx0, sx1, encs, tys, sxR, sevalprocAttr]
              repeat ((with_reducible refine BrW.yes (by omega) ?_); simp only [↓sx0, sx1, encs, tys, sxR, sevalprocAttr])
              have hq : brokenP a b = some (a, b) := by rw [brokenP, if_neg (by omega), if_neg (by omega), if_neg (pts_no (by omega)), if_pos (by omega), if_neg (ow_no (by omega))]
              rw [hq]
              refine DrawW.plan Tok mixed (.q 0 <| .q 1 <| .e 2 [1] <| .e 3 [] <| .q 4 <| .done) (by kernel_rfl) (by kernel_rfl) ?_
              simp only [↓sx0, sx1, encs, tys, sxR, sevalprocAttr]
              exact EndW.fn (by simp only [sx4, encs, kpLL_map, sxR, sevalprocAttr] <;> (try simp) <;> (try omega)) (by simp only [sx4, encs, kpLL_map, sxR, sevalprocAttr] <;> (try simp) <;> (try omega))
          · simp only [↓sx0, sx1, encs, tys, sxR, sevalprocAttr]
            repeat ((with_reducible refine BrW.no (by omega) ?_); simp only [↓sx0, sx1, encs, tys, sxR, sevalprocAttr])
            refine BrW.dec (fun p1 => ?_) (fun p1 => ?_)
            · simp only [↓sx0, sx1, encs, tys, sxR, sevalprocAttr]
              refine DrawW.plan Tok mixed (.q 0 <| .q 1 <| .q 2 <| .e 3 [1] <| .q 4 <| .q 5 <| .e 6 [] <| .done) (by kernel_rfl) (by kernel_rfl) ?_
              simp only [↓sx0, sx1, encs, tys, sxR, sevalprocAttr]
              refine CallI.fn (lengthensR_s b (by omega)) (by simp only [sx3, encs, sxR, sevalprocAttr] <;> (try simp) <;> (try rfl)) ?_
              simp only [↓sx0, sx1, encs, tys, sxR, sevalprocAttr]
              repeat ((with_reducible refine Vc.go ?_ fun _ => ?_); (focus (first | omega | (simp only [InK]; omega) | (simp [InK]; done) | (simp [InK]; omega))); simp only [↓sx0, sx1, encs, tys, sxR, sevalprocAttr])
              have hq : brokenP a b = some ({ a with word := a.word + lenM b }, b) := by rw [brokenP, if_neg (by omega), if_neg (by omega), if_neg (pts_no (by omega)), if_pos (by omega), if_pos (ow_yes (by omega))]
              rw [hq]
              refine DrawW.plan Tok mixed (.q 0 <| .q 1 <| .e 2 [1] <| .e 3 [] <| .q 4 <| .done) (by kernel_rfl) (by kernel_rfl) ?_
              simp only [↓sx0, sx1, encs, tys, sxR, sevalprocAttr]
              exact EndW.fn (by simp only [sx4, encs, kpLL_map, sxR, sevalprocAttr] <;> (try simp) <;> (try omega)) (by simp only [sx4, encs, kpLL_map, sxR, sevalprocAttr] <;> (try simp) <;> (try omega))
            · simp only [↓sx0, sx1, encs, tys, sxR, sevalprocAttr]
              refine DrawW.plan Tok mixed (.q 0 <| .q 1 <| .q 2 <| .q 3 <| .q 4 <| .q 5 <| .q 6 <| .q 7 <| .e 8 [5] <| .q 9 <| .e 10 [] <| .done) (by kernel_rfl) (by kernel_rfl) ?_
              simp only [↓sx0, sx1, encs, tys, sxR, sevalprocAttr]
              repeat ((with_reducible refine Vc.go ?_ fun _ => ?_); (focus (first | omega | (simp only [InK]; omega) | (simp [InK]; done) | (simp [InK]; omega))); simp only [↓sx0, sx1, encs, tys, sxR, sevalprocAttr])
              have hq : brokenP a b = some (a, { b with part := a.part, word := b.word + a.word }) := by rw [brokenP, if_neg (by omega), if_neg (by omega), if_neg (pts_no (by omega)), if_neg (by omega), if_pos (ow_yes (by omega))]; rw [show b.part - 1 = a.part by omega]
              rw [hq]
              refine DrawW.plan Tok mixed (.q 0 <| .q 1 <| .e 2 [1] <| .e 3 [] <| .q 4 <| .done) (by kernel_rfl) (by kernel_rfl) ?_
              simp only [↓sx0, sx1, encs, tys, sxR, sevalprocAttr]
              exact EndW.fn (by simp only [sx4, encs, kpLL_map, sxR, sevalprocAttr] <;> (try simp) <;> (try omega)) (by simp only [sx4, encs, kpLL_map, sxR, sevalprocAttr] <;> (try simp) <;> (try omega))
set_option maxHeartbeats 8000000 in
theorem behindJoin_s (a b : Mk) (ha : inR a = true) (hb : inR b = true) (ma : 1 ≤ a.mark ∧ a.mark ≤ 7) (mb : 1 ≤ b.mark ∧ b.mark ≤ 7) : Ctr Try.prog 104 [mV a, mV b] (fun rr => rr = ⟨orR (joinedP a b) a b, []⟩) := by
  have encs := And.intro encs orE
  obtain ⟨⟨a1, a2⟩, a3, a4⟩ := inR_b ha
  obtain ⟨⟨b1, b2⟩, b3, b4⟩ := inR_b hb
  have la := lenM_b a
  have lb := lenM_b b
  have sb := shM_b b
  have ah := ahM_b a
  have bh := ahM_b b
  refine Ctr.of (rs := [.cell 4 24, .cell 5 24, .tmp 6]) Tok true Try.func104 rfl rfl rfl rfl (by simp [ofDL]) (fun w0 kp => ?_)
  simp only [↓sx0, sx1, encs, tys, sxR, sevalprocAttr]
  refine BrW.dec (fun p7 => ?_) (fun p7 => ?_)
  · simp only [↓sx0, sx1, encs, tys, sxR, sevalprocAttr]
    have hE := earlier_s a b ha hb ma mb
    have hP : joinedP a b = befP a b := by rw [joinedP, if_pos (by omega)]
    rw [hP]
    rcases hbe : befP a b with _ | ⟨x, y⟩
    · rw [hbe] at hE
      have encs := And.intro encs orE
      simp only [orE] at hE
      refine CallI.fn (hE) (by simp only [sx3, encs, sxR, sevalprocAttr] <;> (try simp) <;> (try rfl)) ?_
      simp only [↓sx0, sx1, encs, tys, sxR, sevalprocAttr]
      exact EndW.fn (by simp only [sx4, encs, kpLL_map, sxR, sevalprocAttr] <;> (try simp) <;> (try omega)) (by simp only [sx4, encs, kpLL_map, sxR, sevalprocAttr] <;> (try simp) <;> (try omega))
    · rw [hbe] at hE
      simp only [orE] at hE
      refine CallI.fn (hE) (by simp only [sx3, encs, sxR, sevalprocAttr] <;> (try simp) <;> (try rfl)) ?_
      simp only [↓sx0, sx1, encs, tys, sxR, sevalprocAttr]
      exact EndW.fn (by simp only [sx4, encs, kpLL_map, sxR, sevalprocAttr] <;> (try simp) <;> (try omega)) (by simp only [sx4, encs, kpLL_map, sxR, sevalprocAttr] <;> (try simp) <;> (try omega))
  · simp only [↓sx0, sx1, encs, tys, sxR, sevalprocAttr]
    refine BrW.dec (fun p6 => ?_) (fun p6 => ?_)
    · simp only [↓sx0, sx1, encs, tys, sxR, sevalprocAttr]
      repeat ((with_reducible refine Vc.go ?_ fun _ => ?_); (focus (first | omega | (simp only [InK]; omega) | (simp [InK]; done) | (simp [InK]; omega))); simp only [↓sx0, sx1, encs, tys, sxR, sevalprocAttr])
      have hq : joinedP a b = some (a, { b with part := b.part + 1 }) := by rw [joinedP, if_neg (by omega), if_pos (by omega)]
      rw [hq]
      refine DrawW.plan Tok mixed (.q 0 <| .q 1 <| .e 2 [1] <| .e 3 [] <| .q 4 <| .done) (by kernel_rfl) (by kernel_rfl) ?_
      simp only [↓sx0, sx1, encs, tys, sxR, sevalprocAttr]
      exact EndW.fn (by simp only [sx4, encs, kpLL_map, sxR, sevalprocAttr] <;> (try simp) <;> (try omega)) (by simp only [sx4, encs, kpLL_map, sxR, sevalprocAttr] <;> (try simp) <;> (try omega))
    · simp only [↓sx0, sx1, encs, tys, sxR, sevalprocAttr]
      refine BrW.dec (fun p5 => ?_) (fun p5 => ?_)
      · simp only [↓sx0, sx1, encs, tys, sxR, sevalprocAttr]
        repeat ((with_reducible refine BrW.yes (by omega) ?_); simp only [↓sx0, sx1, encs, tys, sxR, sevalprocAttr])
        have hq : joinedP a b = none := by rw [joinedP, if_neg (by omega), if_neg (by omega), if_pos (pts_yes (by omega))]
        rw [hq]
        refine DrawW.plan Tok mixed (.q 0 <| .q 1 <| .e 2 [1] <| .e 3 [] <| .q 4 <| .done) (by kernel_rfl) (by kernel_rfl) ?_
        simp only [↓sx0, sx1, encs, tys, sxR, sevalprocAttr]
        exact EndW.fn (by simp only [sx4, encs, kpLL_map, sxR, sevalprocAttr] <;> (try simp) <;> (try omega)) (by simp only [sx4, encs, kpLL_map, sxR, sevalprocAttr] <;> (try simp) <;> (try omega))
      · simp only [↓sx0, sx1, encs, tys, sxR, sevalprocAttr]
        refine BrW.dec (fun p4 => ?_) (fun p4 => ?_)
        · simp only [↓sx0, sx1, encs, tys, sxR, sevalprocAttr]
          repeat ((with_reducible refine BrW.yes (by omega) ?_); simp only [↓sx0, sx1, encs, tys, sxR, sevalprocAttr])
          have hq : joinedP a b = none := by rw [joinedP, if_neg (by omega), if_neg (by omega), if_pos (pts_yes (by omega))]
          rw [hq]
          refine DrawW.plan Tok mixed (.q 0 <| .q 1 <| .e 2 [1] <| .e 3 [] <| .q 4 <| .done) (by kernel_rfl) (by kernel_rfl) ?_
          simp only [↓sx0, sx1, encs, tys, sxR, sevalprocAttr]
          exact EndW.fn (by simp only [sx4, encs, kpLL_map, sxR, sevalprocAttr] <;> (try simp) <;> (try omega)) (by simp only [sx4, encs, kpLL_map, sxR, sevalprocAttr] <;> (try simp) <;> (try omega))
        · simp only [↓sx0, sx1, encs, tys, sxR, sevalprocAttr]
          repeat ((with_reducible refine BrW.no (by omega) ?_); simp only [↓sx0, sx1, encs, tys, sxR, sevalprocAttr])
          refine BrW.dec (fun p3 => ?_) (fun p3 => ?_)
          · simp only [↓sx0, sx1, encs, tys, sxR, sevalprocAttr]
            have hq : joinedP a b = some (a, b) := by rw [joinedP, if_neg (by omega), if_neg (by omega), if_neg (pts_no (by omega)), if_neg (ow_no (by omega))]
            rw [hq]
            refine DrawW.plan Tok mixed (.q 0 <| .q 1 <| .e 2 [1] <| .e 3 [] <| .q 4 <| .done) (by kernel_rfl) (by kernel_rfl) ?_
            simp only [↓sx0, sx1, encs, tys, sxR, sevalprocAttr]
            exact EndW.fn (by simp only [sx4, encs, kpLL_map, sxR, sevalprocAttr] <;> (try simp) <;> (try omega)) (by simp only [sx4, encs, kpLL_map, sxR, sevalprocAttr] <;> (try simp) <;> (try omega))
          · simp only [↓sx0, sx1, encs, tys, sxR, sevalprocAttr]
            refine DrawW.plan Tok mixed (.q 0 <| .q 1 <| .q 2 <| .q 5 <| .q 6 <| .e 3 [1, 6] <| .q 4 <| .q 7 <| .done) (by kernel_rfl) (by kernel_rfl) ?_
            simp only [↓sx0, sx1, encs, tys, sxR, sevalprocAttr]
            refine CallI.fn (aheadR_s b (by omega)) (by simp only [sx3, encs, sxR, sevalprocAttr] <;> (try simp) <;> (try rfl)) ?_
            simp only [↓sx0, sx1, encs, tys, sxR, sevalprocAttr]
            repeat ((with_reducible refine Vc.go ?_ fun _ => ?_); (focus (first | omega | (simp only [InK]; omega) | (simp [InK]; done) | (simp [InK]; omega))); simp only [↓sx0, sx1, encs, tys, sxR, sevalprocAttr])
            refine BrW.dec (fun p2 => ?_) (fun p2 => ?_)
            · simp only [↓sx0, sx1, encs, tys, sxR, sevalprocAttr]
              refine DrawW.plan Tok mixed (.q 0 <| .q 1 <| .q 2 <| .e 3 [1] <| .q 4 <| .q 5 <| .e 6 [] <| .done) (by kernel_rfl) (by kernel_rfl) ?_
              simp only [↓sx0, sx1, encs, tys, sxR, sevalprocAttr]
              refine CallI.fn (lengthensR_s b (by omega)) (by simp only [sx3, encs, sxR, sevalprocAttr] <;> (try simp) <;> (try rfl)) ?_
              simp only [↓sx0, sx1, encs, tys, sxR, sevalprocAttr]
              repeat ((with_reducible refine Vc.go ?_ fun _ => ?_); (focus (first | omega | (simp only [InK]; omega) | (simp [InK]; done) | (simp [InK]; omega))); simp only [↓sx0, sx1, encs, tys, sxR, sevalprocAttr])
              have hq : joinedP a b = some ({ a with word := a.word + lenM b }, b) := by rw [joinedP, if_neg (by omega), if_neg (by omega), if_neg (pts_no (by omega)), if_pos (ow_yes (by omega)), if_pos (by omega)]
              rw [hq]
              refine DrawW.plan Tok mixed (.q 0 <| .q 1 <| .e 2 [1] <| .e 3 [] <| .q 4 <| .done) (by kernel_rfl) (by kernel_rfl) ?_
              simp only [↓sx0, sx1, encs, tys, sxR, sevalprocAttr]
              exact EndW.fn (by simp only [sx4, encs, kpLL_map, sxR, sevalprocAttr] <;> (try simp) <;> (try omega)) (by simp only [sx4, encs, kpLL_map, sxR, sevalprocAttr] <;> (try simp) <;> (try omega))
            · simp only [↓sx0, sx1, encs, tys, sxR, sevalprocAttr]
              refine BrW.dec (fun p1 => ?_) (fun p1 => ?_)
              · simp only [↓sx0, sx1, encs, tys, sxR, sevalprocAttr]
                refine DrawW.plan Tok mixed (.q 0 <| .q 1 <| .q 2 <| .q 3 <| .q 4 <| .q 5 <| .q 6 <| .q 7 <| .q 8 <| .e 9 [6] <| .q 10 <| .e 11 [] <| .done) (by kernel_rfl) (by kernel_rfl) ?_
                simp only [↓sx0, sx1, encs, tys, sxR, sevalprocAttr]
                repeat ((with_reducible refine Vc.go ?_ fun _ => ?_); (focus (first | omega | (simp only [InK]; omega) | (simp [InK]; done) | (simp [InK]; omega))); simp only [↓sx0, sx1, encs, tys, sxR, sevalprocAttr])
                have hq : joinedP a b = some (a, { b with part := b.part + 1, word := b.word - a.word }) := by rw [joinedP, if_neg (by omega), if_neg (by omega), if_neg (pts_no (by omega)), if_pos (ow_yes (by omega)), if_neg (by omega), if_pos (by omega)]
                rw [hq]
                refine DrawW.plan Tok mixed (.q 0 <| .q 1 <| .e 2 [1] <| .e 3 [] <| .q 4 <| .done) (by kernel_rfl) (by kernel_rfl) ?_
                simp only [↓sx0, sx1, encs, tys, sxR, sevalprocAttr]
                exact EndW.fn (by simp only [sx4, encs, kpLL_map, sxR, sevalprocAttr] <;> (try simp) <;> (try omega)) (by simp only [sx4, encs, kpLL_map, sxR, sevalprocAttr] <;> (try simp) <;> (try omega))
              · simp only [↓sx0, sx1, encs, tys, sxR, sevalprocAttr]
                have hq : joinedP a b = none := by rw [joinedP, if_neg (by omega), if_neg (by omega), if_neg (pts_no (by omega)), if_pos (ow_yes (by omega)), if_neg (by omega), if_neg (by omega)]
                rw [hq]
                refine DrawW.plan Tok mixed (.q 0 <| .q 1 <| .e 2 [1] <| .e 3 [] <| .q 4 <| .done) (by kernel_rfl) (by kernel_rfl) ?_
                simp only [↓sx0, sx1, encs, tys, sxR, sevalprocAttr]
                exact EndW.fn (by simp only [sx4, encs, kpLL_map, sxR, sevalprocAttr] <;> (try simp) <;> (try omega)) (by simp only [sx4, encs, kpLL_map, sxR, sevalprocAttr] <;> (try simp) <;> (try omega))
end Go.Proofs.Ytenohgpackcjbaa
