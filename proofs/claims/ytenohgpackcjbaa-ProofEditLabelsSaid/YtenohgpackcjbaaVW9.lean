/-
  Chapter 8, walks: what a mark moves.
-/
import Derived.Test.YtenohgpackcjbaaVW8
namespace Go.Proofs.Ytenohgpackcjbaa
open Go Go.Vx
set_option linter.unusedSimpArgs false
set_option linter.unusedVariables false
set_option maxRecDepth 20000
def lenM (m : Mk) : Int := if m.mark = 1 then -1 else if m.mark = 2 then 1 else 0
def shM (m : Mk) : Int := if m.mark = 5 then 1 else if m.mark = 6 then -1 else 0
def ahM (m : Mk) : Int := if m.mark = 1 then 1 else if m.mark = 3 then 1 else if m.mark = 4 then 2 else 0
def owB (m : Mk) : Bool := decide (1 ≤ m.mark ∧ m.mark ≤ 4)
theorem lengthens_s (m : Mk) : Ctr Try.prog 143 [mV m] (fun rr => rr = ⟨(.v (.int .i64 (lenM m))), []⟩) := by
  have encs := And.intro encs mapE
  by_cases h1 : m.mark = 1
  · rw [show lenM m = -1 by rw [lenM, if_pos h1]]
    refine Ctr.of (rs := [.tmp 2]) Tok true Try.func143 rfl rfl rfl rfl (by simp [ofDL]) (fun w0 kp => ?_)
    simp only [↓sx0, sx1, encs, tys, sxR, sevalprocAttr]
    rw [h1]
    simp only [↓sx0, sx1, encs, tys, sxR, sevalprocAttr]
    exact EndW.fn (by simp only [sx4, encs, kpLL_map, sxR, sevalprocAttr] <;> (try simp) <;> (try omega)) (by simp only [sx4, encs, kpLL_map, sxR, sevalprocAttr] <;> (try simp) <;> (try omega))
  · have encs := And.intro encs (eq_false h1)
    by_cases h2 : m.mark = 2
    · rw [show lenM m = 1 by rw [lenM, if_neg h1, if_pos h2]]
      refine Ctr.of (rs := [.tmp 2]) Tok true Try.func143 rfl rfl rfl rfl (by simp [ofDL]) (fun w0 kp => ?_)
      simp only [↓sx0, sx1, encs, tys, sxR, sevalprocAttr]
      rw [h2]
      simp only [↓sx0, sx1, encs, tys, sxR, sevalprocAttr]
      exact EndW.fn (by simp only [sx4, encs, kpLL_map, sxR, sevalprocAttr] <;> (try simp) <;> (try omega)) (by simp only [sx4, encs, kpLL_map, sxR, sevalprocAttr] <;> (try simp) <;> (try omega))
    · have encs := And.intro encs (eq_false h2)
      rw [show lenM m = 0 by rw [lenM, if_neg h1, if_neg h2]]
      refine Ctr.of (rs := [.tmp 2]) Tok true Try.func143 rfl rfl rfl rfl (by simp [ofDL]) (fun w0 kp => ?_)
      simp only [↓sx0, sx1, encs, tys, sxR, sevalprocAttr]
      exact EndW.fn (by simp only [sx4, encs, kpLL_map, sxR, sevalprocAttr] <;> (try simp) <;> (try omega)) (by simp only [sx4, encs, kpLL_map, sxR, sevalprocAttr] <;> (try simp) <;> (try omega))
theorem shift_s (m : Mk) : Ctr Try.prog 151 [mV m] (fun rr => rr = ⟨(.v (.int .i64 (shM m))), []⟩) := by
  have encs := And.intro encs mapE
  by_cases h1 : m.mark = 5
  · rw [show shM m = 1 by rw [shM, if_pos h1]]
    refine Ctr.of (rs := [.tmp 2]) Tok true Try.func151 rfl rfl rfl rfl (by simp [ofDL]) (fun w0 kp => ?_)
    simp only [↓sx0, sx1, encs, tys, sxR, sevalprocAttr]
    rw [h1]
    simp only [↓sx0, sx1, encs, tys, sxR, sevalprocAttr]
    exact EndW.fn (by simp only [sx4, encs, kpLL_map, sxR, sevalprocAttr] <;> (try simp) <;> (try omega)) (by simp only [sx4, encs, kpLL_map, sxR, sevalprocAttr] <;> (try simp) <;> (try omega))
  · have encs := And.intro encs (eq_false h1)
    by_cases h2 : m.mark = 6
    · rw [show shM m = -1 by rw [shM, if_neg h1, if_pos h2]]
      refine Ctr.of (rs := [.tmp 2]) Tok true Try.func151 rfl rfl rfl rfl (by simp [ofDL]) (fun w0 kp => ?_)
      simp only [↓sx0, sx1, encs, tys, sxR, sevalprocAttr]
      rw [h2]
      simp only [↓sx0, sx1, encs, tys, sxR, sevalprocAttr]
      exact EndW.fn (by simp only [sx4, encs, kpLL_map, sxR, sevalprocAttr] <;> (try simp) <;> (try omega)) (by simp only [sx4, encs, kpLL_map, sxR, sevalprocAttr] <;> (try simp) <;> (try omega))
    · have encs := And.intro encs (eq_false h2)
      rw [show shM m = 0 by rw [shM, if_neg h1, if_neg h2]]
      refine Ctr.of (rs := [.tmp 2]) Tok true Try.func151 rfl rfl rfl rfl (by simp [ofDL]) (fun w0 kp => ?_)
      simp only [↓sx0, sx1, encs, tys, sxR, sevalprocAttr]
      exact EndW.fn (by simp only [sx4, encs, kpLL_map, sxR, sevalprocAttr] <;> (try simp) <;> (try omega)) (by simp only [sx4, encs, kpLL_map, sxR, sevalprocAttr] <;> (try simp) <;> (try omega))
theorem ofWords_s (m : Mk) : Ctr Try.prog 142 [mV m] (fun rr => rr = ⟨(.v (.bool (owB m))), []⟩) := by
  refine Ctr.of (rs := [.tmp 2]) Tok true Try.func142 rfl rfl rfl rfl (by simp [ofDL]) (fun w0 kp => ?_)
  simp only [↓sx0, sx1, encs, tys, sxR, sevalprocAttr]
  refine CallI.fn (within_s m.mark 1 4) (by simp only [sx3, encs, sxR, sevalprocAttr] <;> (try simp) <;> (try rfl)) ?_
  simp only [↓sx0, sx1, encs, tys, sxR, sevalprocAttr]
  exact EndW.fn (by simp only [sx4, encs, kpLL_map, sxR, sevalprocAttr] <;> (try simp [owB]) <;> (try omega)) (by simp only [sx4, encs, kpLL_map, sxR, sevalprocAttr] <;> (try simp) <;> (try omega))
theorem ahead_s (m : Mk) (hw : 0 ≤ m.word ∧ m.word ≤ 1000) : Ctr Try.prog 144 [mV m] (fun rr => rr = ⟨.agg [(.v (.int .i64 m.word)), (.v (.int .i64 (m.word + ahM m)))], []⟩) := by
  have encs := And.intro encs mapE
  by_cases h1 : m.mark = 1
  · rw [show ahM m = 1 by rw [ahM, if_pos h1]]
    refine Ctr.of (rs := [.cell 2 166]) Tok true Try.func144 rfl rfl rfl rfl (by simp [ofDL]) (fun w0 kp => ?_)
    simp only [↓sx0, sx1, encs, tys, sxR, sevalprocAttr]
    rw [h1]
    simp only [↓sx0, sx1, encs, tys, sxR, sevalprocAttr]
    repeat ((with_reducible refine Vc.go ?_ fun _ => ?_); (focus (first | omega | (simp only [InK]; omega) | (simp [InK]; done) | (simp [InK]; omega))); simp only [↓sx0, sx1, encs, tys, sxR, sevalprocAttr])
    exact EndW.fn (by simp only [sx4, encs, kpLL_map, sxR, sevalprocAttr] <;> (try simp) <;> (try omega)) (by simp only [sx4, encs, kpLL_map, sxR, sevalprocAttr] <;> (try simp) <;> (try omega))
  · have encs := And.intro encs (eq_false h1)
    by_cases h2 : m.mark = 3
    · rw [show ahM m = 1 by rw [ahM, if_neg h1, if_pos h2]]
      refine Ctr.of (rs := [.cell 2 166]) Tok true Try.func144 rfl rfl rfl rfl (by simp [ofDL]) (fun w0 kp => ?_)
      simp only [↓sx0, sx1, encs, tys, sxR, sevalprocAttr]
      rw [h2]
      simp only [↓sx0, sx1, encs, tys, sxR, sevalprocAttr]
      repeat ((with_reducible refine Vc.go ?_ fun _ => ?_); (focus (first | omega | (simp only [InK]; omega) | (simp [InK]; done) | (simp [InK]; omega))); simp only [↓sx0, sx1, encs, tys, sxR, sevalprocAttr])
      exact EndW.fn (by simp only [sx4, encs, kpLL_map, sxR, sevalprocAttr] <;> (try simp) <;> (try omega)) (by simp only [sx4, encs, kpLL_map, sxR, sevalprocAttr] <;> (try simp) <;> (try omega))
    · have encs := And.intro encs (eq_false h2)
      by_cases h3 : m.mark = 4
      · rw [show ahM m = 2 by rw [ahM, if_neg h1, if_neg h2, if_pos h3]]
        refine Ctr.of (rs := [.cell 2 166]) Tok true Try.func144 rfl rfl rfl rfl (by simp [ofDL]) (fun w0 kp => ?_)
        simp only [↓sx0, sx1, encs, tys, sxR, sevalprocAttr]
        rw [h3]
        simp only [↓sx0, sx1, encs, tys, sxR, sevalprocAttr]
        repeat ((with_reducible refine Vc.go ?_ fun _ => ?_); (focus (first | omega | (simp only [InK]; omega) | (simp [InK]; done) | (simp [InK]; omega))); simp only [↓sx0, sx1, encs, tys, sxR, sevalprocAttr])
        exact EndW.fn (by simp only [sx4, encs, kpLL_map, sxR, sevalprocAttr] <;> (try simp) <;> (try omega)) (by simp only [sx4, encs, kpLL_map, sxR, sevalprocAttr] <;> (try simp) <;> (try omega))
      · have encs := And.intro encs (eq_false h3)
        rw [show ahM m = 0 by rw [ahM, if_neg h1, if_neg h2, if_neg h3]]
        refine Ctr.of (rs := [.cell 2 166]) Tok true Try.func144 rfl rfl rfl rfl (by simp [ofDL]) (fun w0 kp => ?_)
        simp only [↓sx0, sx1, encs, tys, sxR, sevalprocAttr]
        repeat ((with_reducible refine Vc.go ?_ fun _ => ?_); (focus (first | omega | (simp only [InK]; omega) | (simp [InK]; done) | (simp [InK]; omega))); simp only [↓sx0, sx1, encs, tys, sxR, sevalprocAttr])
        exact EndW.fn (by simp only [sx4, encs, kpLL_map, sxR, sevalprocAttr] <;> (try simp) <;> (try omega)) (by simp only [sx4, encs, kpLL_map, sxR, sevalprocAttr] <;> (try simp) <;> (try omega))
theorem ahM_b (m : Mk) : 0 ≤ ahM m ∧ ahM m ≤ 2 := by unfold ahM; repeat' split <;> omega
theorem lenM_b (m : Mk) : -1 ≤ lenM m ∧ lenM m ≤ 1 := by unfold lenM; repeat' split <;> omega
theorem shM_b (m : Mk) : -1 ≤ shM m ∧ shM m ≤ 1 := by unfold shM; repeat' split <;> omega
theorem behind_s (m : Mk) (hw : 0 ≤ m.word ∧ m.word ≤ 1000) : Ctr Try.prog 145 [mV m] (fun rr => rr = ⟨.agg [(.v (.int .i64 m.word)), (.v (.int .i64 (m.word + ahM m + lenM m)))], []⟩) := by
  have h1 := ahM_b m
  have h2 := lenM_b m
  refine Ctr.of (rs := [.cell 2 166]) Tok true Try.func145 rfl rfl rfl rfl (by simp [ofDL]) (fun w0 kp => ?_)
  simp only [↓sx0, sx1, encs, tys, sxR, sevalprocAttr]
  refine CallI.fn (ahead_s m hw) (by simp only [sx3, encs, sxR, sevalprocAttr] <;> (try simp) <;> (try rfl)) ?_
  simp only [↓sx0, sx1, encs, tys, sxR, sevalprocAttr]
  refine DrawW.plan Tok mixed (.q 0 <| .q 1 <| .q 2 <| .e 3 [1] <| .q 4 <| .q 5 <| .e 6 [] <| .done) (by kernel_rfl) (by kernel_rfl) ?_
  simp only [↓sx0, sx1, encs, tys, sxR, sevalprocAttr]
  refine CallI.fn (lengthens_s m) (by simp only [sx3, encs, sxR, sevalprocAttr] <;> (try simp) <;> (try rfl)) ?_
  simp only [↓sx0, sx1, encs, tys, sxR, sevalprocAttr]
  repeat ((with_reducible refine Vc.go ?_ fun _ => ?_); (focus (first | omega | (simp only [InK]; omega) | (simp [InK]; done) | (simp [InK]; omega))); simp only [↓sx0, sx1, encs, tys, sxR, sevalprocAttr])
  exact EndW.fn (by simp only [sx4, encs, kpLL_map, sxR, sevalprocAttr] <;> (try simp) <;> (try omega)) (by simp only [sx4, encs, kpLL_map, sxR, sevalprocAttr] <;> (try simp) <;> (try omega))
theorem indexM_s (b : Bool) (f : Nat) (p : Mk → Bool) (l : List Mk) (hl : l.length ≤ 1000000000) (hof : ∀ x ∈ l, Ctr Try.prog f [mV x] (fun rr => rr = ⟨(.v (.bool (p x))), []⟩)) : Ctr Try.prog 130 [.sl b 7 (l.map eM), .clo f []] (fun rr => rr = ⟨(.v (.int .i64 (ixG p l))), []⟩) := by
  refine Ctr.of (rs := [.tmp 4]) Tok true Try.func130 rfl rfl rfl rfl (by simp [ofDL]) (fun w0 kp => ?_)
  simp only [↓sx0, sx1, encs, tys, sxR, sevalprocAttr]
  refine LoopW.comp [0, 1, 7, 8] (by simp only [sx2, encs, sxR, sevalprocAttr] <;> (try simp) <;> (try omega)) ?_
  simp only [sx2, sxR, sevalprocAttr]
  refine LoopW.up Tok (fun k : Nat => [(8, (.v (.int .i64 k)))]) (fun k => []) (fun k => []) (fun k => []) (fun k => k ≤ l.length ∧ ∀ j (_ : j < k) (h2 : j < l.length), p l[j] = false) (fun k => l.length - k) (0) (by simp only [sx2, encs, sxR, sevalprocAttr] <;> (try simp) <;> (try omega)) ?_ ?_
  · exact ⟨by omega, fun j h => absurd h (Nat.not_lt_zero _)⟩
  rintro k ⟨hk, ht⟩
  simp only [↓sx0, sx1, encs, tys, sxR, sevalprocAttr]
  refine BrW.dec (fun hlt => ?_) (fun hlt => ?_)
  · simp only [↓sx0, sx1, encs, tys, sxR, sevalprocAttr]
    have hlt : k < l.length := by omega
    refine IxW.nat hlt ?_
    simp only [↓sx0, sx1, encs, tys, sxR, sevalprocAttr]
    refine CallI.fn (hof l[k] (List.getElem_mem hlt)) (by simp only [sx3, encs, sxR, sevalprocAttr] <;> (try simp) <;> (try rfl)) ?_
    simp only [↓sx0, sx1, encs, tys, sxR, sevalprocAttr]
    refine BrW.of (fun hb => ?_) (fun hb => ?_)
    · simp only [↓sx0, sx1, encs, tys, sxR, sevalprocAttr]
      have := ixG_at hlt hb ht
      exact EndW.fn (by simp only [sx4, encs, kpLL_map, sxR, sevalprocAttr] <;> (try simp [this]) <;> (try omega)) (by simp only [sx4, encs, kpLL_map, sxR, sevalprocAttr] <;> (try simp) <;> (try omega))
    · simp only [↓sx0, sx1, encs, tys, sxR, sevalprocAttr]
      (with_reducible refine Vc.go ?_ fun _ => ?_); focus (first | omega | (simp only [InK]; omega) | (simp [InK]; done) | (simp [InK]; omega))
      simp only [↓sx0, sx1, encs, tys, sxR, sevalprocAttr]
      refine ⟨k + 1, StLe.auto (by simp only [sx2, encs, sxR, sevalprocAttr] <;> (try simp) <;> (try omega)), ?_, ?_⟩
      · refine ⟨hlt, fun j h h2 => ?_⟩
        by_cases e : j = k
        · subst e; exact hb
        · exact ht j (by omega) h2
      · omega
  · simp only [↓sx0, sx1, encs, tys, sxR, sevalprocAttr]
    have hke : k = l.length := by omega
    subst hke
    have := ixG_no (l := l) (p := p) fun j h => ht j h h
    exact EndW.fn (by simp only [sx4, encs, kpLL_map, sxR, sevalprocAttr] <;> (try simp [this]) <;> (try omega)) (by simp only [sx4, encs, kpLL_map, sxR, sevalprocAttr] <;> (try simp) <;> (try omega))
theorem containsM_s (b : Bool) (f : Nat) (p : Mk → Bool) (l : List Mk) (hl : l.length ≤ 1000000000) (hof : ∀ x ∈ l, Ctr Try.prog f [mV x] (fun rr => rr = ⟨(.v (.bool (p x))), []⟩)) : Ctr Try.prog 101 [.sl b 7 (l.map eM), .clo f []] (fun rr => rr = ⟨(.v (.bool (l.any p))), []⟩) := by
  refine Ctr.of (rs := [.tmp 4]) Tok true Try.func101 rfl rfl rfl rfl (by simp [ofDL]) (fun w0 kp => ?_)
  simp only [↓sx0, sx1, encs, tys, sxR, sevalprocAttr]
  refine CallI.fn (indexM_s b f p l hl hof) (by simp only [sx3, encs, sxR, sevalprocAttr] <;> (try simp) <;> (try rfl)) ?_
  simp only [↓sx0, sx1, encs, tys, sxR, sevalprocAttr]
  rw [ixG_any]
  exact EndW.fn (by simp only [sx4, encs, kpLL_map, sxR, sevalprocAttr] <;> (try simp) <;> (try omega)) (by simp only [sx4, encs, kpLL_map, sxR, sevalprocAttr] <;> (try simp) <;> (try omega))
def p0B (m : Mk) : Bool := ptsB m && decide (m.word = 0)
theorem swapped1_s (m : Mk) : Ctr Try.prog 102 [mV m] (fun rr => rr = ⟨(.v (.bool (p0B m))), []⟩) := by
  refine Ctr.of (rs := [.tmp 2]) Tok true Try.func102 rfl rfl rfl rfl (by simp [ofDL]) (fun w0 kp => ?_)
  simp only [↓sx0, sx1, encs, tys, sxR, sevalprocAttr]
  refine CallI.fn (parts_s m) (by simp only [sx3, encs, sxR, sevalprocAttr] <;> (try simp) <;> (try rfl)) ?_
  simp only [↓sx0, sx1, encs, tys, sxR, sevalprocAttr]
  refine BrW.of (fun h => ?_) (fun h => ?_)
  · simp only [↓sx0, sx1, encs, tys, sxR, sevalprocAttr]
    rw [show p0B m = decide (m.word = 0) by rw [p0B, h, Bool.true_and]]
    exact EndW.fn (by simp only [sx4, encs, kpLL_map, sxR, sevalprocAttr] <;> (try simp) <;> (try omega)) (by simp only [sx4, encs, kpLL_map, sxR, sevalprocAttr] <;> (try simp) <;> (try omega))
  · simp only [↓sx0, sx1, encs, tys, sxR, sevalprocAttr]
    rw [show p0B m = false by rw [p0B, h, Bool.false_and]]
    exact EndW.fn (by simp only [sx4, encs, kpLL_map, sxR, sevalprocAttr] <;> (try simp) <;> (try omega)) (by simp only [sx4, encs, kpLL_map, sxR, sevalprocAttr] <;> (try simp) <;> (try omega))
end Go.Proofs.Ytenohgpackcjbaa
