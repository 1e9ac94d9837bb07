/-
  Chapter 8, walks: marks are right.
-/
import Derived.Test.YtenohgpackcjbaaVW3
namespace Go.Proofs.Ytenohgpackcjbaa
open Go Go.Vx
set_option linter.unusedSimpArgs false
set_option linter.unusedVariables false
set_option maxRecDepth 20000
def inR (m : Mk) : Bool := decide (0 ≤ m.part ∧ m.part ≤ 59) && decide (0 ≤ m.word ∧ m.word ≤ 100)
theorem inRange_s (m : Mk) : Ctr Try.prog 93 [mV m] (fun rr => rr = ⟨(.v (.bool (inR m))), []⟩) := by
  refine Ctr.of (rs := [.tmp 2]) Tok true Try.func93 rfl rfl rfl rfl (by simp [ofDL]) (fun w0 kp => ?_)
  simp only [↓sx0, sx1, encs, tys, sxR, sevalprocAttr]
  refine CallI.fn (within_s m.part 0 59) (by simp only [sx3, encs, sxR, sevalprocAttr] <;> (try simp) <;> (try rfl)) ?_
  simp only [↓sx0, sx1, encs, tys, sxR, sevalprocAttr]
  refine BrW.of (fun h => ?_) (fun h => ?_)
  · simp only [↓sx0, sx1, encs, tys, sxR, sevalprocAttr]
    refine CallI.fn (within_s m.word 0 100) (by simp only [sx3, encs, sxR, sevalprocAttr] <;> (try simp) <;> (try rfl)) ?_
    simp only [↓sx0, sx1, encs, tys, sxR, sevalprocAttr]
    have : inR m = decide (0 ≤ m.word ∧ m.word ≤ 100) := by rw [inR, h, Bool.true_and]
    exact EndW.fn (by simp only [sx4, encs, kpLL_map, sxR, sevalprocAttr] <;> (try simp [this]) <;> (try omega)) (by simp only [sx4, encs, kpLL_map, sxR, sevalprocAttr] <;> (try simp) <;> (try omega))
  · simp only [↓sx0, sx1, encs, tys, sxR, sevalprocAttr]
    have : inR m = false := by rw [inR, h, Bool.false_and]
    exact EndW.fn (by simp only [sx4, encs, kpLL_map, sxR, sevalprocAttr] <;> (try simp [this]) <;> (try omega)) (by simp only [sx4, encs, kpLL_map, sxR, sevalprocAttr] <;> (try simp) <;> (try omega))
def ptsB (m : Mk) : Bool := decide (m.mark = 5) || decide (m.mark = 6)
theorem parts_s (m : Mk) : Ctr Try.prog 96 [mV m] (fun rr => rr = ⟨(.v (.bool (ptsB m))), []⟩) := by
  refine Ctr.of (rs := [.tmp 2]) Tok true Try.func96 rfl rfl rfl rfl (by simp [ofDL]) (fun w0 kp => ?_)
  simp only [↓sx0, sx1, encs, tys, sxR, sevalprocAttr]
  refine BrW.dec (fun h => ?_) (fun h => ?_)
  · simp only [↓sx0, sx1, encs, tys, sxR, sevalprocAttr]
    have : ptsB m = true := by simp [ptsB, h]
    exact EndW.fn (by simp only [sx4, encs, kpLL_map, sxR, sevalprocAttr] <;> (try simp [this]) <;> (try omega)) (by simp only [sx4, encs, kpLL_map, sxR, sevalprocAttr] <;> (try simp) <;> (try omega))
  · simp only [↓sx0, sx1, encs, tys, sxR, sevalprocAttr]
    have : ptsB m = decide (m.mark = 6) := by simp [ptsB, h]
    exact EndW.fn (by simp only [sx4, encs, kpLL_map, sxR, sevalprocAttr] <;> (try simp [this]) <;> (try omega)) (by simp only [sx4, encs, kpLL_map, sxR, sevalprocAttr] <;> (try simp) <;> (try omega))
theorem toldBy_s (m : Mk) : Ctr Try.prog 94 [mV m] (fun rr => rr = ⟨.agg [(.v (.string (m.old))), (.v (.string (m.new))), (.v (.int .i64 m.was)), (.v (.int .i64 m.kind))], []⟩) := by
  refine Ctr.of (rs := [.cell 2 136]) Tok true Try.func94 rfl rfl rfl rfl (by simp [ofDL]) (fun w0 kp => ?_)
  simp only [↓sx0, sx1, encs, tys, sxR, sevalprocAttr]
  exact EndW.fn (by simp only [sx4, encs, kpLL_map, sxR, sevalprocAttr] <;> (try simp) <;> (try omega)) (by simp only [sx4, encs, kpLL_map, sxR, sevalprocAttr] <;> (try simp) <;> (try omega))
def em : ByteArray := ⟨#[]⟩
def wantB (mark : Int) (o n : ByteArray) (w k : Int) : Bool :=
  if mark = 1 then isWd o && decide (n = em ∧ w = 0 ∧ k = 0)
  else if mark = 2 then isWd n && decide (o = em ∧ w = 0 ∧ k = 0)
  else if mark = 3 then (isWd o && isWd n && decide (o ≠ n)) && decide (w = 0 ∧ k = 0)
  else if mark = 5 ∨ mark = 6 then decide (1 ≤ k ∧ k ≤ 3) && decide (o = em ∧ n = em ∧ w = 0)
  else if mark = 7 then (decide (1 ≤ w ∧ w ≤ 3) && decide (1 ≤ k ∧ k ≤ 3) && decide (w ≠ k)) && decide (o = em ∧ n = em)
  else decide (o = em ∧ n = em ∧ w = 0 ∧ k = 0)
set_option maxHeartbeats 4000000 in
theorem fits_s (mark : Int) (o n : ByteArray) (w k : Int) (ho : o.size ≤ 1000000000) (hn : n.size ≤ 1000000000) : Ctr Try.prog 95 [.agg [(.v (.string (o))), (.v (.string (n))), (.v (.int .i64 w)), (.v (.int .i64 k))], (.v (.int .i64 mark))] (fun rr => rr = ⟨(.v (.bool (wantB mark o n w k))), []⟩) := by
  refine Ctr.of (rs := [.tmp 4]) Tok true Try.func95 rfl rfl rfl rfl (by simp [ofDL]) (fun w0 kp => ?_)
  simp only [↓sx0, sx1, encs, tys, sxR, sevalprocAttr]
  refine BrW.dec (fun h1 => ?_) (fun h1 => ?_)
  · have hw : wantB mark o n w k = (isWd o && decide (n = em ∧ w = 0 ∧ k = 0)) := by rw [wantB, if_pos h1]
    rw [hw]
    simp only [↓sx0, sx1, encs, tys, sxR, sevalprocAttr]
    refine DrawW.plan Tok mixed (.q 0 <| .q 1 <| .q 2 <| .q 3 <| .q 5 <| .e 4 [1] <| .e 6 [] <| .q 7 <| .done) (by kernel_rfl) (by kernel_rfl) ?_
    simp only [↓sx0, sx1, encs, tys, sxR, sevalprocAttr]
    refine CallI.fn (isWord_s o ho) (by simp only [sx3, encs, sxR, sevalprocAttr] <;> (try simp) <;> (try rfl)) ?_
    simp only [↓sx0, sx1, encs, tys, sxR, sevalprocAttr]
    refine BrW.of (fun hb => ?_) (fun hb => ?_)
    · simp only [↓sx0, sx1, encs, tys, sxR, sevalprocAttr]
      rw [show (isWd o && decide (n = em ∧ w = 0 ∧ k = 0)) = decide ([Sc.s o, Sc.s n, Sc.i w, Sc.i k] = [Sc.s o, Sc.s ⟨#[]⟩, Sc.i 0, Sc.i 0]) by rw [hb, Bool.eq_iff_iff]; simp [em]; exact decide_eq_true_iff]
      exact EndW.fn (by simp only [sx4, encs, kpLL_map, sxR, sevalprocAttr] <;> (try simp) <;> (try omega)) (by simp only [sx4, encs, kpLL_map, sxR, sevalprocAttr] <;> (try simp) <;> (try omega))
    · simp only [↓sx0, sx1, encs, tys, sxR, sevalprocAttr]
      rw [hb]
      exact EndW.fn (by simp only [sx4, encs, kpLL_map, sxR, sevalprocAttr] <;> (try simp) <;> (try omega)) (by simp only [sx4, encs, kpLL_map, sxR, sevalprocAttr] <;> (try simp) <;> (try omega))
  · simp only [↓sx0, sx1, encs, tys, sxR, sevalprocAttr]
    refine BrW.dec (fun h2 => ?_) (fun h2 => ?_)
    · have hw : wantB mark o n w k = (isWd n && decide (o = em ∧ w = 0 ∧ k = 0)) := by rw [wantB, if_neg h1, if_pos h2]
      rw [hw]
      simp only [↓sx0, sx1, encs, tys, sxR, sevalprocAttr]
      refine DrawW.plan Tok mixed (.q 0 <| .q 1 <| .q 2 <| .q 3 <| .q 5 <| .e 4 [1] <| .e 6 [] <| .q 7 <| .done) (by kernel_rfl) (by kernel_rfl) ?_
      simp only [↓sx0, sx1, encs, tys, sxR, sevalprocAttr]
      refine CallI.fn (isWord_s n hn) (by simp only [sx3, encs, sxR, sevalprocAttr] <;> (try simp) <;> (try rfl)) ?_
      simp only [↓sx0, sx1, encs, tys, sxR, sevalprocAttr]
      refine BrW.of (fun hb => ?_) (fun hb => ?_)
      · simp only [↓sx0, sx1, encs, tys, sxR, sevalprocAttr]
        rw [show (isWd n && decide (o = em ∧ w = 0 ∧ k = 0)) = decide ([Sc.s o, Sc.s n, Sc.i w, Sc.i k] = [Sc.s ⟨#[]⟩, Sc.s n, Sc.i 0, Sc.i 0]) by rw [hb, Bool.eq_iff_iff]; simp [em]; exact decide_eq_true_iff]
        exact EndW.fn (by simp only [sx4, encs, kpLL_map, sxR, sevalprocAttr] <;> (try simp) <;> (try omega)) (by simp only [sx4, encs, kpLL_map, sxR, sevalprocAttr] <;> (try simp) <;> (try omega))
      · simp only [↓sx0, sx1, encs, tys, sxR, sevalprocAttr]
        rw [hb]
        exact EndW.fn (by simp only [sx4, encs, kpLL_map, sxR, sevalprocAttr] <;> (try simp) <;> (try omega)) (by simp only [sx4, encs, kpLL_map, sxR, sevalprocAttr] <;> (try simp) <;> (try omega))
    · simp only [↓sx0, sx1, encs, tys, sxR, sevalprocAttr]
      refine BrW.dec (fun h3 => ?_) (fun h3 => ?_)
      · have hw : wantB mark o n w k = ((isWd o && isWd n && decide (o ≠ n)) && decide (w = 0 ∧ k = 0)) := by rw [wantB, if_neg h1, if_neg h2, if_pos h3]
        rw [hw]
        simp only [↓sx0, sx1, encs, tys, sxR, sevalprocAttr]
        refine DrawW.plan Tok mixed (.q 0 <| .q 1 <| .q 2 <| .q 3 <| .q 4 <| .q 5 <| .q 19 <| .e 6 [1, 3] <| .q 7 <| .q 8 <| .q 9 <| .e 10 [1, 3] <| .q 11 <| .q 12 <| .q 13 <| .q 14 <| .q 15 <| .q 16 <| .q 17 <| .q 18 <| .e 20 [3, 14, 16] <| .q 21 <| .e 22 [14, 16] <| .q 23 <| .done) (by kernel_rfl) (by kernel_rfl) ?_
        simp only [↓sx0, sx1, encs, tys, sxR, sevalprocAttr]
        refine CallI.fn (isWord_s o ho) (by simp only [sx3, encs, sxR, sevalprocAttr] <;> (try simp) <;> (try rfl)) ?_
        simp only [↓sx0, sx1, encs, tys, sxR, sevalprocAttr]
        refine BrW.of (fun hb => ?_) (fun hb => ?_)
        · simp only [↓sx0, sx1, encs, tys, sxR, sevalprocAttr]
          repeat ((with_reducible refine BrW.tt hb ?_); simp only [↓sx0, sx1, encs, tys, sxR, sevalprocAttr])
          refine CallI.fn (isWord_s n hn) (by simp only [sx3, encs, sxR, sevalprocAttr] <;> (try simp) <;> (try rfl)) ?_
          simp only [↓sx0, sx1, encs, tys, sxR, sevalprocAttr]
          refine BrW.of (fun hc => ?_) (fun hc => ?_)
          · simp only [↓sx0, sx1, encs, tys, sxR, sevalprocAttr]
            repeat ((with_reducible refine BrW.tt hc ?_); simp only [↓sx0, sx1, encs, tys, sxR, sevalprocAttr])
            refine BrW.dec (fun hd => ?_) (fun hd => ?_)
            · simp only [↓sx0, sx1, encs, tys, sxR, sevalprocAttr]
              rw [show ((isWd o && isWd n && decide (o ≠ n)) && decide (w = 0 ∧ k = 0)) = decide ([Sc.s o, Sc.s n, Sc.i w, Sc.i k] = [Sc.s o, Sc.s n, Sc.i 0, Sc.i 0]) by rw [hb, hc, decide_eq_true hd]; simp]
              exact EndW.fn (by simp only [sx4, encs, kpLL_map, sxR, sevalprocAttr] <;> (try simp) <;> (try omega)) (by simp only [sx4, encs, kpLL_map, sxR, sevalprocAttr] <;> (try simp) <;> (try omega))
            · simp only [↓sx0, sx1, encs, tys, sxR, sevalprocAttr]
              rw [hb, hc, decide_eq_false hd]
              exact EndW.fn (by simp only [sx4, encs, kpLL_map, sxR, sevalprocAttr] <;> (try simp) <;> (try omega)) (by simp only [sx4, encs, kpLL_map, sxR, sevalprocAttr] <;> (try simp) <;> (try omega))
          · simp only [↓sx0, sx1, encs, tys, sxR, sevalprocAttr]
            repeat ((with_reducible refine BrW.ff hc ?_); simp only [↓sx0, sx1, encs, tys, sxR, sevalprocAttr])
            rw [hb, hc]
            exact EndW.fn (by simp only [sx4, encs, kpLL_map, sxR, sevalprocAttr] <;> (try simp) <;> (try omega)) (by simp only [sx4, encs, kpLL_map, sxR, sevalprocAttr] <;> (try simp) <;> (try omega))
        · simp only [↓sx0, sx1, encs, tys, sxR, sevalprocAttr]
          repeat ((with_reducible refine BrW.ff hb ?_); simp only [↓sx0, sx1, encs, tys, sxR, sevalprocAttr])
          rw [hb]
          exact EndW.fn (by simp only [sx4, encs, kpLL_map, sxR, sevalprocAttr] <;> (try simp) <;> (try omega)) (by simp only [sx4, encs, kpLL_map, sxR, sevalprocAttr] <;> (try simp) <;> (try omega))
      · simp only [↓sx0, sx1, encs, tys, sxR, sevalprocAttr]
        have bj : mark = 5 ∨ mark = 6 → wantB mark o n w k = (decide (1 ≤ k ∧ k ≤ 3) && decide (o = em ∧ n = em ∧ w = 0)) := fun h => by rw [wantB, if_neg h1, if_neg h2, if_neg h3, if_pos h]
        refine BrW.dec (fun h5 => ?_) (fun h5 => ?_)
        · rw [bj (.inl h5)]
          simp only [↓sx0, sx1, encs, tys, sxR, sevalprocAttr]
          refine BrW.yes h5 ?_
          simp only [↓sx0, sx1, encs, tys, sxR, sevalprocAttr]
          refine DrawW.plan Tok mixed (.q 0 <| .q 1 <| .q 2 <| .q 3 <| .q 5 <| .e 4 [1] <| .e 6 [] <| .q 7 <| .done) (by kernel_rfl) (by kernel_rfl) ?_
          simp only [↓sx0, sx1, encs, tys, sxR, sevalprocAttr]
          refine CallI.fn (isKind_s k) (by simp only [sx3, encs, sxR, sevalprocAttr] <;> (try simp) <;> (try rfl)) ?_
          simp only [↓sx0, sx1, encs, tys, sxR, sevalprocAttr]
          refine BrW.of (fun hb => ?_) (fun hb => ?_)
          · simp only [↓sx0, sx1, encs, tys, sxR, sevalprocAttr]
            rw [show (decide (1 ≤ k ∧ k ≤ 3) && decide (o = em ∧ n = em ∧ w = 0)) = decide ([Sc.s o, Sc.s n, Sc.i w, Sc.i k] = [Sc.s ⟨#[]⟩, Sc.s ⟨#[]⟩, Sc.i 0, Sc.i k]) by rw [hb, Bool.eq_iff_iff]; simp [em]; exact decide_eq_true_iff]
            exact EndW.fn (by simp only [sx4, encs, kpLL_map, sxR, sevalprocAttr] <;> (try simp) <;> (try omega)) (by simp only [sx4, encs, kpLL_map, sxR, sevalprocAttr] <;> (try simp) <;> (try omega))
          · simp only [↓sx0, sx1, encs, tys, sxR, sevalprocAttr]
            rw [hb]
            exact EndW.fn (by simp only [sx4, encs, kpLL_map, sxR, sevalprocAttr] <;> (try simp) <;> (try omega)) (by simp only [sx4, encs, kpLL_map, sxR, sevalprocAttr] <;> (try simp) <;> (try omega))
        · simp only [↓sx0, sx1, encs, tys, sxR, sevalprocAttr]
          refine BrW.dec (fun h6 => ?_) (fun h6 => ?_)
          · rw [bj (.inr h6)]
            simp only [↓sx0, sx1, encs, tys, sxR, sevalprocAttr]
            refine DrawW.plan Tok mixed (.q 0 <| .q 1 <| .q 2 <| .q 3 <| .q 5 <| .e 4 [1] <| .e 6 [] <| .q 7 <| .done) (by kernel_rfl) (by kernel_rfl) ?_
            simp only [↓sx0, sx1, encs, tys, sxR, sevalprocAttr]
            refine CallI.fn (isKind_s k) (by simp only [sx3, encs, sxR, sevalprocAttr] <;> (try simp) <;> (try rfl)) ?_
            simp only [↓sx0, sx1, encs, tys, sxR, sevalprocAttr]
            refine BrW.of (fun hb => ?_) (fun hb => ?_)
            · simp only [↓sx0, sx1, encs, tys, sxR, sevalprocAttr]
              rw [show (decide (1 ≤ k ∧ k ≤ 3) && decide (o = em ∧ n = em ∧ w = 0)) = decide ([Sc.s o, Sc.s n, Sc.i w, Sc.i k] = [Sc.s ⟨#[]⟩, Sc.s ⟨#[]⟩, Sc.i 0, Sc.i k]) by rw [hb, Bool.eq_iff_iff]; simp [em]; exact decide_eq_true_iff]
              exact EndW.fn (by simp only [sx4, encs, kpLL_map, sxR, sevalprocAttr] <;> (try simp) <;> (try omega)) (by simp only [sx4, encs, kpLL_map, sxR, sevalprocAttr] <;> (try simp) <;> (try omega))
            · simp only [↓sx0, sx1, encs, tys, sxR, sevalprocAttr]
              rw [hb]
              exact EndW.fn (by simp only [sx4, encs, kpLL_map, sxR, sevalprocAttr] <;> (try simp) <;> (try omega)) (by simp only [sx4, encs, kpLL_map, sxR, sevalprocAttr] <;> (try simp) <;> (try omega))
          · simp only [↓sx0, sx1, encs, tys, sxR, sevalprocAttr]
            have h56 : ¬ (mark = 5 ∨ mark = 6) := fun h => h.elim h5 h6
            refine BrW.dec (fun h7 => ?_) (fun h7 => ?_)
            · have hw : wantB mark o n w k = ((decide (1 ≤ w ∧ w ≤ 3) && decide (1 ≤ k ∧ k ≤ 3) && decide (w ≠ k)) && decide (o = em ∧ n = em)) := by rw [wantB, if_neg h1, if_neg h2, if_neg h3, if_neg h56, if_pos h7]
              rw [hw]
              simp only [↓sx0, sx1, encs, tys, sxR, sevalprocAttr]
              refine DrawW.plan Tok mixed (.q 0 <| .q 1 <| .q 2 <| .q 3 <| .q 4 <| .q 5 <| .q 19 <| .e 6 [1, 3] <| .q 7 <| .q 8 <| .q 9 <| .e 10 [1, 3] <| .q 11 <| .q 12 <| .q 13 <| .q 14 <| .q 15 <| .q 16 <| .q 17 <| .q 18 <| .e 20 [3, 14, 16] <| .q 21 <| .e 22 [14, 16] <| .q 23 <| .done) (by kernel_rfl) (by kernel_rfl) ?_
              simp only [↓sx0, sx1, encs, tys, sxR, sevalprocAttr]
              refine CallI.fn (isKind_s w) (by simp only [sx3, encs, sxR, sevalprocAttr] <;> (try simp) <;> (try rfl)) ?_
              simp only [↓sx0, sx1, encs, tys, sxR, sevalprocAttr]
              refine BrW.of (fun hb => ?_) (fun hb => ?_)
              · simp only [↓sx0, sx1, encs, tys, sxR, sevalprocAttr]
                repeat ((with_reducible refine BrW.tt hb ?_); simp only [↓sx0, sx1, encs, tys, sxR, sevalprocAttr])
                refine CallI.fn (isKind_s k) (by simp only [sx3, encs, sxR, sevalprocAttr] <;> (try simp) <;> (try rfl)) ?_
                simp only [↓sx0, sx1, encs, tys, sxR, sevalprocAttr]
                refine BrW.of (fun hc => ?_) (fun hc => ?_)
                · simp only [↓sx0, sx1, encs, tys, sxR, sevalprocAttr]
                  repeat ((with_reducible refine BrW.tt hc ?_); simp only [↓sx0, sx1, encs, tys, sxR, sevalprocAttr])
                  refine BrW.dec (fun hd => ?_) (fun hd => ?_)
                  · simp only [↓sx0, sx1, encs, tys, sxR, sevalprocAttr]
                    rw [show ((decide (1 ≤ w ∧ w ≤ 3) && decide (1 ≤ k ∧ k ≤ 3) && decide (w ≠ k)) && decide (o = em ∧ n = em)) = decide ([Sc.s o, Sc.s n, Sc.i w, Sc.i k] = [Sc.s ⟨#[]⟩, Sc.s ⟨#[]⟩, Sc.i w, Sc.i k]) by rw [hb, hc, decide_eq_true hd, Bool.eq_iff_iff]; simp [em]; exact decide_eq_true_iff]
                    exact EndW.fn (by simp only [sx4, encs, kpLL_map, sxR, sevalprocAttr] <;> (try simp) <;> (try omega)) (by simp only [sx4, encs, kpLL_map, sxR, sevalprocAttr] <;> (try simp) <;> (try omega))
                  · simp only [↓sx0, sx1, encs, tys, sxR, sevalprocAttr]
                    rw [hb, hc, decide_eq_false hd]
                    exact EndW.fn (by simp only [sx4, encs, kpLL_map, sxR, sevalprocAttr] <;> (try simp) <;> (try omega)) (by simp only [sx4, encs, kpLL_map, sxR, sevalprocAttr] <;> (try simp) <;> (try omega))
                · simp only [↓sx0, sx1, encs, tys, sxR, sevalprocAttr]
                  repeat ((with_reducible refine BrW.ff hc ?_); simp only [↓sx0, sx1, encs, tys, sxR, sevalprocAttr])
                  rw [hb, hc]
                  exact EndW.fn (by simp only [sx4, encs, kpLL_map, sxR, sevalprocAttr] <;> (try simp) <;> (try omega)) (by simp only [sx4, encs, kpLL_map, sxR, sevalprocAttr] <;> (try simp) <;> (try omega))
              · simp only [↓sx0, sx1, encs, tys, sxR, sevalprocAttr]
                repeat ((with_reducible refine BrW.ff hb ?_); simp only [↓sx0, sx1, encs, tys, sxR, sevalprocAttr])
                rw [hb]
                exact EndW.fn (by simp only [sx4, encs, kpLL_map, sxR, sevalprocAttr] <;> (try simp) <;> (try omega)) (by simp only [sx4, encs, kpLL_map, sxR, sevalprocAttr] <;> (try simp) <;> (try omega))
            · have hw : wantB mark o n w k = decide ([Sc.s o, Sc.s n, Sc.i w, Sc.i k] = [Sc.s ⟨#[]⟩, Sc.s ⟨#[]⟩, Sc.i 0, Sc.i 0]) := by
                rw [wantB, if_neg h1, if_neg h2, if_neg h3, if_neg h56, if_neg h7, Bool.eq_iff_iff]; simp [em]; exact decide_eq_true_iff
              rw [hw]
              simp only [↓sx0, sx1, encs, tys, sxR, sevalprocAttr]
              exact EndW.fn (by simp only [sx4, encs, kpLL_map, sxR, sevalprocAttr] <;> (try simp) <;> (try omega)) (by simp only [sx4, encs, kpLL_map, sxR, sevalprocAttr] <;> (try simp) <;> (try omega))
/-- the error of a mark. -/
def mkErr (m : Mk) : Int :=
  if 1 ≤ m.mark ∧ m.mark ≤ 7 then (if inR m = true then (if wantB m.mark m.old m.new m.was m.kind = true ∧ ¬ (ptsB m = true ∧ m.word = 0) ∧ ¬ (m.mark = 7 ∧ m.word ≠ 0) then 0 else 3) else 2) else 15
def MkSz (m : Mk) : Prop := m.old.size ≤ 1000000000 ∧ m.new.size ≤ 1000000000
set_option maxHeartbeats 4000000 in
theorem checkMark_s (m : Mk) (hz : MkSz m) : Ctr Try.prog 57 [mV m] (fun rr => rr = ⟨(.v (.int .i64 (mkErr m))), []⟩) := by
  refine Ctr.of (rs := [.tmp 2]) Tok true Try.func57 rfl rfl rfl rfl (by simp [ofDL]) (fun w0 kp => ?_)
  simp only [↓sx0, sx1, encs, tys, sxR, sevalprocAttr]
  refine CallI.fn (within_s m.mark 1 7) (by simp only [sx3, encs, sxR, sevalprocAttr] <;> (try simp) <;> (try rfl)) ?_
  simp only [↓sx0, sx1, encs, tys, sxR, sevalprocAttr]
  refine BrW.of (fun hk => ?_) (fun hk => ?_)
  · have hk : 1 ≤ m.mark ∧ m.mark ≤ 7 := by simpa using hk
    simp only [↓sx0, sx1, encs, tys, sxR, sevalprocAttr]
    refine CallI.fn (inRange_s m) (by simp only [sx3, encs, sxR, sevalprocAttr] <;> (try simp) <;> (try rfl)) ?_
    simp only [↓sx0, sx1, encs, tys, sxR, sevalprocAttr]
    refine BrW.of (fun hr => ?_) (fun hr => ?_)
    · have he : mkErr m = if wantB m.mark m.old m.new m.was m.kind = true ∧ ¬ (ptsB m = true ∧ m.word = 0) ∧ ¬ (m.mark = 7 ∧ m.word ≠ 0) then 0 else 3 := by rw [mkErr, if_pos hk, if_pos hr]
      rw [he]
      simp only [↓sx0, sx1, encs, tys, sxR, sevalprocAttr]
      refine DrawW.plan Tok mixed (.q 0 <| .q 2 <| .q 3 <| .e 1 [3] <| .e 4 [] <| .q 5 <| .q 6 <| .q 7 <| .e 8 [] <| .q 9 <| .q 10 <| .q 11 <| .q 12 <| .q 13 <| .q 14 <| .q 15 <| .q 16 <| .q 17 <| .q 18 <| .q 19 <| .q 20 <| .q 21 <| .q 22 <| .q 23 <| .q 24 <| .q 25 <| .done) (by kernel_rfl) (by kernel_rfl) ?_
      simp only [↓sx0, sx1, encs, tys, sxR, sevalprocAttr]
      refine CallI.fn (toldBy_s m) (by simp only [sx3, encs, sxR, sevalprocAttr] <;> (try simp) <;> (try rfl)) ?_
      simp only [↓sx0, sx1, encs, tys, sxR, sevalprocAttr]
      refine CallI.fn (fits_s m.mark m.old m.new m.was m.kind hz.1 hz.2) (by simp only [sx3, encs, sxR, sevalprocAttr] <;> (try simp) <;> (try rfl)) ?_
      simp only [↓sx0, sx1, encs, tys, sxR, sevalprocAttr]
      refine BrW.of (fun hf => ?_) (fun hf => ?_)
      · simp only [↓sx0, sx1, encs, tys, sxR, sevalprocAttr]
        repeat ((with_reducible refine BrW.tt hf ?_); simp only [↓sx0, sx1, encs, tys, sxR, sevalprocAttr])
        refine CallI.fn (parts_s m) (by simp only [sx3, encs, sxR, sevalprocAttr] <;> (try simp) <;> (try rfl)) ?_
        simp only [↓sx0, sx1, encs, tys, sxR, sevalprocAttr]
        refine BrW.of (fun hp => ?_) (fun hp => ?_)
        · simp only [↓sx0, sx1, encs, tys, sxR, sevalprocAttr]
          have h7 : ¬ m.mark = 7 := fun h => by rw [ptsB, h] at hp; simp at hp
          repeat ((with_reducible refine BrW.tt hp ?_); simp only [↓sx0, sx1, encs, tys, sxR, sevalprocAttr])
          refine BrW.dec (fun hw0 => ?_) (fun hw0 => ?_)
          · simp only [↓sx0, sx1, encs, tys, sxR, sevalprocAttr]
            repeat ((with_reducible refine BrW.yes hw0 ?_); simp only [↓sx0, sx1, encs, tys, sxR, sevalprocAttr])
            rw [if_neg fun h => h.2.1 ⟨hp, hw0⟩]
            exact EndW.fn (by simp only [sx4, encs, kpLL_map, sxR, sevalprocAttr] <;> (try simp) <;> (try omega)) (by simp only [sx4, encs, kpLL_map, sxR, sevalprocAttr] <;> (try simp) <;> (try omega))
          · simp only [↓sx0, sx1, encs, tys, sxR, sevalprocAttr]
            repeat ((with_reducible refine BrW.no hw0 ?_); simp only [↓sx0, sx1, encs, tys, sxR, sevalprocAttr])
            repeat ((with_reducible refine BrW.no h7 ?_); simp only [↓sx0, sx1, encs, tys, sxR, sevalprocAttr])
            rw [if_pos ⟨hf, fun h => hw0 h.2, fun h => h7 h.1⟩]
            exact EndW.fn (by simp only [sx4, encs, kpLL_map, sxR, sevalprocAttr] <;> (try simp) <;> (try omega)) (by simp only [sx4, encs, kpLL_map, sxR, sevalprocAttr] <;> (try simp) <;> (try omega))
        · simp only [↓sx0, sx1, encs, tys, sxR, sevalprocAttr]
          repeat ((with_reducible refine BrW.ff hp ?_); simp only [↓sx0, sx1, encs, tys, sxR, sevalprocAttr])
          refine BrW.dec (fun h7 => ?_) (fun h7 => ?_)
          · simp only [↓sx0, sx1, encs, tys, sxR, sevalprocAttr]
            repeat ((with_reducible refine BrW.yes h7 ?_); simp only [↓sx0, sx1, encs, tys, sxR, sevalprocAttr])
            refine BrW.dec (fun hw0 => ?_) (fun hw0 => ?_)
            · simp only [↓sx0, sx1, encs, tys, sxR, sevalprocAttr]
              rw [if_neg fun h => h.2.2 ⟨h7, hw0⟩]
              exact EndW.fn (by simp only [sx4, encs, kpLL_map, sxR, sevalprocAttr] <;> (try simp) <;> (try omega)) (by simp only [sx4, encs, kpLL_map, sxR, sevalprocAttr] <;> (try simp) <;> (try omega))
            · simp only [↓sx0, sx1, encs, tys, sxR, sevalprocAttr]
              rw [if_pos ⟨hf, fun h => by rw [hp] at h; simp at h, fun h => hw0 h.2⟩]
              exact EndW.fn (by simp only [sx4, encs, kpLL_map, sxR, sevalprocAttr] <;> (try simp) <;> (try omega)) (by simp only [sx4, encs, kpLL_map, sxR, sevalprocAttr] <;> (try simp) <;> (try omega))
          · simp only [↓sx0, sx1, encs, tys, sxR, sevalprocAttr]
            repeat ((with_reducible refine BrW.no h7 ?_); simp only [↓sx0, sx1, encs, tys, sxR, sevalprocAttr])
            rw [if_pos ⟨hf, fun h => by rw [hp] at h; simp at h, fun h => h7 h.1⟩]
            exact EndW.fn (by simp only [sx4, encs, kpLL_map, sxR, sevalprocAttr] <;> (try simp) <;> (try omega)) (by simp only [sx4, encs, kpLL_map, sxR, sevalprocAttr] <;> (try simp) <;> (try omega))
      · simp only [↓sx0, sx1, encs, tys, sxR, sevalprocAttr]
        repeat ((with_reducible refine BrW.ff hf ?_); simp only [↓sx0, sx1, encs, tys, sxR, sevalprocAttr])
        rw [if_neg (by rw [hf]; simp)]
        exact EndW.fn (by simp only [sx4, encs, kpLL_map, sxR, sevalprocAttr] <;> (try simp) <;> (try omega)) (by simp only [sx4, encs, kpLL_map, sxR, sevalprocAttr] <;> (try simp) <;> (try omega))
    · simp only [↓sx0, sx1, encs, tys, sxR, sevalprocAttr]
      rw [show mkErr m = 2 by rw [mkErr, if_pos hk, if_neg (by simp [hr])]]
      exact EndW.fn (by simp only [sx4, encs, kpLL_map, sxR, sevalprocAttr] <;> (try simp) <;> (try omega)) (by simp only [sx4, encs, kpLL_map, sxR, sevalprocAttr] <;> (try simp) <;> (try omega))
  · have hk : ¬ (1 ≤ m.mark ∧ m.mark ≤ 7) := by simpa using hk
    simp only [↓sx0, sx1, encs, tys, sxR, sevalprocAttr]
    rw [show mkErr m = 15 by rw [mkErr, if_neg hk]]
    exact EndW.fn (by simp only [sx4, encs, kpLL_map, sxR, sevalprocAttr] <;> (try simp) <;> (try omega)) (by simp only [sx4, encs, kpLL_map, sxR, sevalprocAttr] <;> (try simp) <;> (try omega))
end Go.Proofs.Ytenohgpackcjbaa
