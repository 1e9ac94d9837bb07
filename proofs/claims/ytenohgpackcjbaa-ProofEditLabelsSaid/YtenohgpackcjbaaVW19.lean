/-
  Chapter 8, walks: both marks in the other order, if they are right.
-/
import Derived.Test.YtenohgpackcjbaaVW18
namespace Go.Proofs.Ytenohgpackcjbaa
open Go Go.Vx
set_option linter.unusedSimpArgs false
set_option linter.unusedVariables false
set_option maxRecDepth 20000
def swE (a b : Mk) : (Mk × Mk) × Int := if mkErr a = 0 then (if mkErr b = 0 then swapF (orderP a b) else ((mk0, mk0), mkErr b)) else ((mk0, mk0), mkErr a)
theorem mk_ok {m : Mk} (h : mkErr m = 0) : (1 ≤ m.mark ∧ m.mark ≤ 7) ∧ inR m = true ∧ wantB m.mark m.old m.new m.was m.kind = true ∧ bdE m = 0 := by
  unfold mkErr at h
  split at h
  · rename_i h1
    split at h
    · rename_i h2
      split at h
      · rename_i h3
        exact ⟨h1, h2, h3.1, by rw [bdE, if_neg (fun h => h.elim h3.2.1 h3.2.2)]⟩
      · omega
    · omega
  · omega
set_option maxHeartbeats 4000000 in
theorem Swapped_s (a b : Mk) (za : MkSz a) (zb : MkSz b) : Ctr Try.prog 24 [mV a, mV b] (fun rr => rr = ⟨.tup [prSV (swE a b).1, (.v (.int .i64 ((swE a b).2)))], []⟩) := by
  have encs := And.intro encs prE
  refine Ctr.of (rs := [.cell 4 39, .tmp 5]) Tok true Try.func24 rfl rfl rfl rfl (by simp [ofDL]) (fun w0 kp => ?_)
  simp only [↓sx0, sx1, encs, tys, sxR, sevalprocAttr]
  refine LoopW.comp [2, 3, 4, 11, 12] (by simp only [sx2, encs, sxR, sevalprocAttr] <;> (try simp) <;> (try omega)) ?_
  simp only [sx2, sxR, sevalprocAttr]
  refine LoopW.up Tok (fun k : Nat => [(12, (.v (.int .i64 k)))]) (fun k => []) (fun k => []) (fun k => []) (fun k => k ≤ 2 ∧ (0 < k → mkErr a = 0) ∧ (1 < k → mkErr b = 0)) (fun k => 2 - k) (0) (by simp only [sx2, encs, sxR, sevalprocAttr] <;> (try simp) <;> (try omega)) ?_ ?_
  · exact ⟨by omega, fun h => absurd h (by omega), fun h => absurd h (by omega)⟩
  rintro k ⟨hk, h1, h2⟩
  simp only [↓sx0, sx1, encs, tys, sxR, sevalprocAttr]
  refine BrW.dec (fun hlt => ?_) (fun hlt => ?_)
  · have hk2 : k = 0 ∨ k = 1 := by omega
    rcases hk2 with rfl | rfl
    · simp only [↓sx0, sx1, encs, tys, sxR, sevalprocAttr]
      refine ArrIx.go (by simp) ?_
      simp only [↓sx0, sx1, encs, tys, sxR, sevalprocAttr]
      refine CallI.fn (checkMark_s a za) (by simp only [sx3, encs, sxR, sevalprocAttr] <;> (try simp) <;> (try rfl)) ?_
      simp only [↓sx0, sx1, encs, tys, sxR, sevalprocAttr]
      refine BrW.dec (fun he => ?_) (fun he => ?_)
      · rw [show swE a b = ((mk0, mk0), mkErr a) by rw [swE, if_neg he]]
        simp only [↓sx0, sx1, encs, tys, sxR, sevalprocAttr]
        exact EndW.fn (by simp only [sx4, encs, kpLL_map, sxR, sevalprocAttr] <;> (try simp) <;> (try omega)) (by simp only [sx4, encs, kpLL_map, sxR, sevalprocAttr] <;> (try simp) <;> (try omega))
      · simp only [↓sx0, sx1, encs, tys, sxR, sevalprocAttr]
        repeat ((with_reducible refine Vc.go ?_ fun _ => ?_); (focus (first | omega | (simp only [InK]; omega) | (simp [InK]; done) | (simp [InK]; omega))); simp only [↓sx0, sx1, encs, tys, sxR, sevalprocAttr])
        refine ⟨1, StLe.auto (by simp only [sx2, encs, sxR, sevalprocAttr] <;> (try simp) <;> (try omega)), ?_, ?_⟩
        · exact ⟨by omega, fun _ => by omega, fun h => absurd h (by omega)⟩
        · omega
    · simp only [↓sx0, sx1, encs, tys, sxR, sevalprocAttr]
      refine ArrIx.go (by simp) ?_
      simp only [↓sx0, sx1, encs, tys, sxR, sevalprocAttr]
      refine CallI.fn (checkMark_s b zb) (by simp only [sx3, encs, sxR, sevalprocAttr] <;> (try simp) <;> (try rfl)) ?_
      simp only [↓sx0, sx1, encs, tys, sxR, sevalprocAttr]
      refine BrW.dec (fun he => ?_) (fun he => ?_)
      · rw [show swE a b = ((mk0, mk0), mkErr b) by rw [swE, if_pos (h1 (by omega)), if_neg he]]
        simp only [↓sx0, sx1, encs, tys, sxR, sevalprocAttr]
        exact EndW.fn (by simp only [sx4, encs, kpLL_map, sxR, sevalprocAttr] <;> (try simp) <;> (try omega)) (by simp only [sx4, encs, kpLL_map, sxR, sevalprocAttr] <;> (try simp) <;> (try omega))
      · simp only [↓sx0, sx1, encs, tys, sxR, sevalprocAttr]
        repeat ((with_reducible refine Vc.go ?_ fun _ => ?_); (focus (first | omega | (simp only [InK]; omega) | (simp [InK]; done) | (simp [InK]; omega))); simp only [↓sx0, sx1, encs, tys, sxR, sevalprocAttr])
        refine ⟨2, StLe.auto (by simp only [sx2, encs, sxR, sevalprocAttr] <;> (try simp) <;> (try omega)), ?_, ?_⟩
        · exact ⟨by omega, fun _ => h1 (by omega), fun h => by omega⟩
        · omega
  · have e1 := h1 (by omega)
    have e2 := h2 (by omega)
    simp only [↓sx0, sx1, encs, tys, sxR, sevalprocAttr]
    refine CallI.fn (swapped_s a b (mk_ok e1).2.1 (mk_ok e2).2.1) (by simp only [sx3, encs, sxR, sevalprocAttr] <;> (try simp) <;> (try rfl)) ?_
    simp only [↓sx0, sx1, encs, tys, sxR, sevalprocAttr]
    rw [show swE a b = swapF (orderP a b) by rw [swE, if_pos e1, if_pos e2]]
    exact EndW.fn (by simp only [sx4, encs, kpLL_map, sxR, sevalprocAttr] <;> (try simp) <;> (try omega)) (by simp only [sx4, encs, kpLL_map, sxR, sevalprocAttr] <;> (try simp) <;> (try omega))
theorem order_keep {a b x y : Mk} (h : orderP a b = some (x, y)) : (x.mark = a.mark ∧ x.old = a.old ∧ x.new = a.new ∧ x.was = a.was ∧ x.kind = a.kind ∧ (a.mark = 7 → x.word = a.word)) ∧ (y.mark = b.mark ∧ y.old = b.old ∧ y.new = b.new ∧ y.was = b.was ∧ y.kind = b.kind ∧ (b.mark = 7 → y.word = b.word)) := by
  unfold orderP brokenP joinedP breaksP joinsP quietP befP wordsP at h
  repeat' split at h
  all_goals first | (cases h; done) | skip
  all_goals (
    injection h with h
    injection h with h1 h2
    subst h1 h2
    refine ⟨⟨rfl, rfl, rfl, rfl, rfl, fun h7 => ?_⟩, rfl, rfl, rfl, rfl, rfl, fun h7 => ?_⟩
    all_goals first | rfl | (exfalso; simp [owB] at *; omega) | (simp [lenM, h7]; done) )
theorem bd_keep {m : Mk} (h : m.mark = 7 → m.word = 0) : bdE m = if p0B m = true then 3 else 0 := by
  unfold bdE p0B
  by_cases h7 : m.mark = 7
  · have := h h7
    simp [h7, this, ptsB]
  · simp [h7]
theorem SwappedR_s (a b : Mk) (e1 : mkErr a = 0) (e2 : mkErr b = 0) : Ctr Try.prog 25 [mV a, mV b] (fun rr => rr = ⟨.tup [mV (swapF (orderP a b)).1.1, mV (swapF (orderP a b)).1.2, (.v (.int .i64 ((swapF (orderP a b)).2)))], []⟩) := by
  have encs := And.intro encs prE
  have hO := orderR_s a b (mk_ok e1).2.1 (mk_ok e2).2.1 (mk_ok e1).1 (mk_ok e2).1
  refine Ctr.of (rs := [.cell 4 24, .cell 5 24, .tmp 6]) Tok true Try.func25 rfl rfl rfl rfl (by simp [ofDL]) (fun w0 kp => ?_)
  simp only [↓sx0, sx1, encs, tys, sxR, sevalprocAttr]
  rcases hor : orderP a b with _ | ⟨x, y⟩
  · rw [hor] at hO
    simp only [orE] at hO
    refine CallI.fn (hO) (by simp only [sx3, encs, sxR, sevalprocAttr] <;> (try simp) <;> (try rfl)) ?_
    simp only [↓sx0, sx1, encs, tys, sxR, sevalprocAttr]
    rw [show swapF none = ((mk0, mk0), 13) from rfl]
    refine DrawW.plan Tok mixed (.q 0 <| .q 1 <| .e 2 [1] <| .e 3 [] <| .q 4 <| .done) (by kernel_rfl) (by kernel_rfl) ?_
    simp only [↓sx0, sx1, encs, tys, sxR, sevalprocAttr]
    exact EndW.fn (by simp only [sx4, encs, kpLL_map, sxR, sevalprocAttr] <;> (try simp) <;> (try omega)) (by simp only [sx4, encs, kpLL_map, sxR, sevalprocAttr] <;> (try simp) <;> (try omega))
  · rw [hor] at hO
    simp only [orE] at hO
    refine CallI.fn (hO) (by simp only [sx3, encs, sxR, sevalprocAttr] <;> (try simp) <;> (try rfl)) ?_
    simp only [↓sx0, sx1, encs, tys, sxR, sevalprocAttr]
    obtain ⟨⟨k1, -, -, -, -, k2⟩, k3, -, -, -, -, k4⟩ := order_keep hor
    have bx : bdE x = if p0B x = true then 3 else 0 := bd_keep fun h => by
      have h0 := (mk_ok e1).2.2.2
      rw [k2 (by omega)]
      unfold bdE at h0
      split at h0
      · omega
      · rename_i hn; exact Decidable.byContradiction fun hc => hn (.inr ⟨by omega, hc⟩)
    have by' : bdE y = if p0B y = true then 3 else 0 := bd_keep fun h => by
      have h0 := (mk_ok e2).2.2.2
      rw [k4 (by omega)]
      unfold bdE at h0
      split at h0
      · omega
      · rename_i hn; exact Decidable.byContradiction fun hc => hn (.inr ⟨by omega, hc⟩)
    have px := placeR_s x
    have py := placeR_s y
    have qx := boundsR_s x
    have qy := boundsR_s y
    rw [bx] at qx
    rw [by'] at qy
    by_cases r1 : inR y = true
    · rw [if_pos r1] at py
      refine CallI.fn (py) (by simp only [sx3, encs, sxR, sevalprocAttr] <;> (try simp) <;> (try rfl)) ?_
      simp only [↓sx0, sx1, encs, tys, sxR, sevalprocAttr]
      repeat ((with_reducible refine BrW.no (by simp) ?_); simp only [↓sx0, sx1, encs, tys, sxR, sevalprocAttr])
      by_cases r2 : inR x = true
      · rw [if_pos r2] at px
        refine CallI.fn (px) (by simp only [sx3, encs, sxR, sevalprocAttr] <;> (try simp) <;> (try rfl)) ?_
        simp only [↓sx0, sx1, encs, tys, sxR, sevalprocAttr]
        repeat ((with_reducible refine BrW.no (by simp) ?_); simp only [↓sx0, sx1, encs, tys, sxR, sevalprocAttr])
        by_cases r3 : p0B y = true
        · rw [if_pos r3] at qy
          refine CallI.fn (qy) (by simp only [sx3, encs, sxR, sevalprocAttr] <;> (try simp) <;> (try rfl)) ?_
          simp only [↓sx0, sx1, encs, tys, sxR, sevalprocAttr]
          rw [show swapF (some (x, y)) = ((mk0, mk0), 3) by simp only [swapF]; rw [if_pos ⟨r2, r1⟩, if_pos (.inl r3)]]
          refine DrawW.plan Tok mixed (.q 0 <| .q 1 <| .e 2 [1] <| .e 3 [] <| .q 4 <| .done) (by kernel_rfl) (by kernel_rfl) ?_
          simp only [↓sx0, sx1, encs, tys, sxR, sevalprocAttr]
          exact EndW.fn (by simp only [sx4, encs, kpLL_map, sxR, sevalprocAttr] <;> (try simp) <;> (try omega)) (by simp only [sx4, encs, kpLL_map, sxR, sevalprocAttr] <;> (try simp) <;> (try omega))
        · rw [if_neg r3] at qy
          refine CallI.fn (qy) (by simp only [sx3, encs, sxR, sevalprocAttr] <;> (try simp) <;> (try rfl)) ?_
          simp only [↓sx0, sx1, encs, tys, sxR, sevalprocAttr]
          repeat ((with_reducible refine BrW.no (by simp) ?_); simp only [↓sx0, sx1, encs, tys, sxR, sevalprocAttr])
          by_cases r4 : p0B x = true
          · rw [if_pos r4] at qx
            refine CallI.fn (qx) (by simp only [sx3, encs, sxR, sevalprocAttr] <;> (try simp) <;> (try rfl)) ?_
            simp only [↓sx0, sx1, encs, tys, sxR, sevalprocAttr]
            rw [show swapF (some (x, y)) = ((mk0, mk0), 3) by simp only [swapF]; rw [if_pos ⟨r2, r1⟩, if_pos (.inr r4)]]
            refine DrawW.plan Tok mixed (.q 0 <| .q 1 <| .e 2 [1] <| .e 3 [] <| .q 4 <| .done) (by kernel_rfl) (by kernel_rfl) ?_
            simp only [↓sx0, sx1, encs, tys, sxR, sevalprocAttr]
            exact EndW.fn (by simp only [sx4, encs, kpLL_map, sxR, sevalprocAttr] <;> (try simp) <;> (try omega)) (by simp only [sx4, encs, kpLL_map, sxR, sevalprocAttr] <;> (try simp) <;> (try omega))
          · rw [if_neg r4] at qx
            refine CallI.fn (qx) (by simp only [sx3, encs, sxR, sevalprocAttr] <;> (try simp) <;> (try rfl)) ?_
            simp only [↓sx0, sx1, encs, tys, sxR, sevalprocAttr]
            repeat ((with_reducible refine BrW.no (by simp) ?_); simp only [↓sx0, sx1, encs, tys, sxR, sevalprocAttr])
            rw [show swapF (some (x, y)) = ((y, x), 0) by simp only [swapF]; rw [if_pos ⟨r2, r1⟩, if_neg (fun h => h.elim r3 r4)]]
            refine DrawW.plan Tok mixed (.q 0 <| .q 1 <| .e 2 [1] <| .e 3 [] <| .q 4 <| .done) (by kernel_rfl) (by kernel_rfl) ?_
            simp only [↓sx0, sx1, encs, tys, sxR, sevalprocAttr]
            exact EndW.fn (by simp only [sx4, encs, kpLL_map, sxR, sevalprocAttr] <;> (try simp) <;> (try omega)) (by simp only [sx4, encs, kpLL_map, sxR, sevalprocAttr] <;> (try simp) <;> (try omega))
      · rw [if_neg r2] at px
        refine CallI.fn (px) (by simp only [sx3, encs, sxR, sevalprocAttr] <;> (try simp) <;> (try rfl)) ?_
        simp only [↓sx0, sx1, encs, tys, sxR, sevalprocAttr]
        rw [show swapF (some (x, y)) = ((mk0, mk0), 2) by simp only [swapF]; rw [if_neg (fun h => r2 h.1)]]
        refine DrawW.plan Tok mixed (.q 0 <| .q 1 <| .e 2 [1] <| .e 3 [] <| .q 4 <| .done) (by kernel_rfl) (by kernel_rfl) ?_
        simp only [↓sx0, sx1, encs, tys, sxR, sevalprocAttr]
        exact EndW.fn (by simp only [sx4, encs, kpLL_map, sxR, sevalprocAttr] <;> (try simp) <;> (try omega)) (by simp only [sx4, encs, kpLL_map, sxR, sevalprocAttr] <;> (try simp) <;> (try omega))
    · rw [if_neg r1] at py
      refine CallI.fn (py) (by simp only [sx3, encs, sxR, sevalprocAttr] <;> (try simp) <;> (try rfl)) ?_
      simp only [↓sx0, sx1, encs, tys, sxR, sevalprocAttr]
      rw [show swapF (some (x, y)) = ((mk0, mk0), 2) by simp only [swapF]; rw [if_neg (fun h => r1 h.2)]]
      refine DrawW.plan Tok mixed (.q 0 <| .q 1 <| .e 2 [1] <| .e 3 [] <| .q 4 <| .done) (by kernel_rfl) (by kernel_rfl) ?_
      simp only [↓sx0, sx1, encs, tys, sxR, sevalprocAttr]
      exact EndW.fn (by simp only [sx4, encs, kpLL_map, sxR, sevalprocAttr] <;> (try simp) <;> (try omega)) (by simp only [sx4, encs, kpLL_map, sxR, sevalprocAttr] <;> (try simp) <;> (try omega))
theorem brief_s (m : Mk) : Ctr Try.prog 17 [mV m] (fun rr => rr = ⟨(.v (.bool (decide (m.old.size ≤ 40 ∧ m.new.size ≤ 40)))), []⟩) := by
  refine Ctr.of (rs := [.tmp 2]) Tok true Try.func17 rfl rfl rfl rfl (by simp [ofDL]) (fun w0 kp => ?_)
  simp only [↓sx0, sx1, encs, tys, sxR, sevalprocAttr]
  refine BrW.dec (fun h => ?_) (fun h => ?_)
  · rw [show decide (m.old.size ≤ 40 ∧ m.new.size ≤ 40) = decide ((m.new.size : Int) ≤ 40) by rw [decide_eq_decide]; omega]
    simp only [↓sx0, sx1, encs, tys, sxR, sevalprocAttr]
    exact EndW.fn (by simp only [sx4, encs, kpLL_map, sxR, sevalprocAttr] <;> (try simp) <;> (try omega)) (by simp only [sx4, encs, kpLL_map, sxR, sevalprocAttr] <;> (try simp) <;> (try omega))
  · rw [show decide (m.old.size ≤ 40 ∧ m.new.size ≤ 40) = false by rw [decide_eq_false_iff_not]; omega]
    simp only [↓sx0, sx1, encs, tys, sxR, sevalprocAttr]
    exact EndW.fn (by simp only [sx4, encs, kpLL_map, sxR, sevalprocAttr] <;> (try simp) <;> (try omega)) (by simp only [sx4, encs, kpLL_map, sxR, sevalprocAttr] <;> (try simp) <;> (try omega))
end Go.Proofs.Ytenohgpackcjbaa
