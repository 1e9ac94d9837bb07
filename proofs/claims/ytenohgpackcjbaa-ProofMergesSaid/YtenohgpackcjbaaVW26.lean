/-
  Chapter 8, walks: inverses.
-/
import Derived.Test.YtenohgpackcjbaaVW25
namespace Go.Proofs.Ytenohgpackcjbaa
open Go Go.Vx
set_option linter.unusedSimpArgs false
set_option linter.unusedVariables false
set_option maxRecDepth 20000
def invK (n : Int) : Int := if n = 1 then 2 else if n = 2 then 1 else if n = 5 then 6 else if n = 6 then 5 else n
def invM (m : Mk) : Mk := ⟨invK m.mark, m.part, m.word, m.new, m.old, if m.mark = 7 then m.kind else m.was, if m.mark = 7 then m.was else m.kind⟩
theorem invE (m : Mk) : invM m = ⟨invK m.mark, m.part, m.word, m.new, m.old, if m.mark = 7 then m.kind else m.was, if m.mark = 7 then m.was else m.kind⟩ := rfl
set_option maxHeartbeats 4000000 in
theorem inverse_s (m : Mk) : Ctr Try.prog 80 [mV m] (fun rr => rr = ⟨mV (invM m), []⟩) := by
  by_cases h1 : m.mark = 1
  · rw [show invM m = ⟨2, m.part, m.word, m.new, m.old, m.was, m.kind⟩ by rw [invE, h1]; rfl]
    have encs := And.intro encs h1
    refine Ctr.of (rs := [.cell 2 24]) Tok true Try.func80 rfl rfl rfl rfl (by simp [ofDL]) (fun w0 kp => ?_)
    simp only [↓sx0, sx1, encs, tys, sxR, sevalprocAttr]
    exact EndW.fn (by simp only [sx4, encs, kpLL_map, sxR, sevalprocAttr] <;> (try simp) <;> (try omega)) (by simp only [sx4, encs, kpLL_map, sxR, sevalprocAttr] <;> (try simp) <;> (try omega))
  by_cases h2 : m.mark = 2
  · rw [show invM m = ⟨1, m.part, m.word, m.new, m.old, m.was, m.kind⟩ by rw [invE, h2]; rfl]
    have encs := And.intro encs h2
    refine Ctr.of (rs := [.cell 2 24]) Tok true Try.func80 rfl rfl rfl rfl (by simp [ofDL]) (fun w0 kp => ?_)
    simp only [↓sx0, sx1, encs, tys, sxR, sevalprocAttr]
    exact EndW.fn (by simp only [sx4, encs, kpLL_map, sxR, sevalprocAttr] <;> (try simp) <;> (try omega)) (by simp only [sx4, encs, kpLL_map, sxR, sevalprocAttr] <;> (try simp) <;> (try omega))
  by_cases h5 : m.mark = 5
  · rw [show invM m = ⟨6, m.part, m.word, m.new, m.old, m.was, m.kind⟩ by rw [invE, h5]; rfl]
    have encs := And.intro encs h5
    refine Ctr.of (rs := [.cell 2 24]) Tok true Try.func80 rfl rfl rfl rfl (by simp [ofDL]) (fun w0 kp => ?_)
    simp only [↓sx0, sx1, encs, tys, sxR, sevalprocAttr]
    exact EndW.fn (by simp only [sx4, encs, kpLL_map, sxR, sevalprocAttr] <;> (try simp) <;> (try omega)) (by simp only [sx4, encs, kpLL_map, sxR, sevalprocAttr] <;> (try simp) <;> (try omega))
  by_cases h6 : m.mark = 6
  · rw [show invM m = ⟨5, m.part, m.word, m.new, m.old, m.was, m.kind⟩ by rw [invE, h6]; rfl]
    have encs := And.intro encs h6
    refine Ctr.of (rs := [.cell 2 24]) Tok true Try.func80 rfl rfl rfl rfl (by simp [ofDL]) (fun w0 kp => ?_)
    simp only [↓sx0, sx1, encs, tys, sxR, sevalprocAttr]
    exact EndW.fn (by simp only [sx4, encs, kpLL_map, sxR, sevalprocAttr] <;> (try simp) <;> (try omega)) (by simp only [sx4, encs, kpLL_map, sxR, sevalprocAttr] <;> (try simp) <;> (try omega))
  by_cases h7 : m.mark = 7
  · rw [show invM m = ⟨7, m.part, m.word, m.new, m.old, m.kind, m.was⟩ by rw [invE, h7]; rfl]
    have encs := And.intro encs h7
    refine Ctr.of (rs := [.cell 2 24]) Tok true Try.func80 rfl rfl rfl rfl (by simp [ofDL]) (fun w0 kp => ?_)
    simp only [↓sx0, sx1, encs, tys, sxR, sevalprocAttr]
    exact EndW.fn (by simp only [sx4, encs, kpLL_map, sxR, sevalprocAttr] <;> (try simp) <;> (try omega)) (by simp only [sx4, encs, kpLL_map, sxR, sevalprocAttr] <;> (try simp) <;> (try omega))
  rw [show invM m = ⟨m.mark, m.part, m.word, m.new, m.old, m.was, m.kind⟩ by rw [invE, invK, if_neg h1, if_neg h2, if_neg h5, if_neg h6, if_neg h7, if_neg h7]]
  have encs := And.intro encs (And.intro (eq_false h1) (And.intro (eq_false h2) (And.intro (eq_false h5) (And.intro (eq_false h6) (eq_false h7)))))
  refine Ctr.of (rs := [.cell 2 24]) Tok true Try.func80 rfl rfl rfl rfl (by simp [ofDL]) (fun w0 kp => ?_)
  simp only [↓sx0, sx1, encs, tys, sxR, sevalprocAttr]
  exact EndW.fn (by simp only [sx4, encs, kpLL_map, sxR, sevalprocAttr] <;> (try simp) <;> (try omega)) (by simp only [sx4, encs, kpLL_map, sxR, sevalprocAttr] <;> (try simp) <;> (try omega))
set_option maxHeartbeats 4000000 in
theorem inverseR_s (m : Mk) : Ctr Try.prog 44 [mV m] (fun rr => rr = ⟨mV (invM m), []⟩) := by
  by_cases h1 : m.mark = 1
  · rw [show invM m = ⟨2, m.part, m.word, m.new, m.old, m.was, m.kind⟩ by rw [invE, h1]; rfl]
    have encs := And.intro encs h1
    refine Ctr.of (rs := [.cell 2 24]) Tok true Try.func44 rfl rfl rfl rfl (by simp [ofDL]) (fun w0 kp => ?_)
    simp only [↓sx0, sx1, encs, tys, sxR, sevalprocAttr]
    exact EndW.fn (by simp only [sx4, encs, kpLL_map, sxR, sevalprocAttr] <;> (try simp) <;> (try omega)) (by simp only [sx4, encs, kpLL_map, sxR, sevalprocAttr] <;> (try simp) <;> (try omega))
  by_cases h2 : m.mark = 2
  · rw [show invM m = ⟨1, m.part, m.word, m.new, m.old, m.was, m.kind⟩ by rw [invE, h2]; rfl]
    have encs := And.intro encs h2
    refine Ctr.of (rs := [.cell 2 24]) Tok true Try.func44 rfl rfl rfl rfl (by simp [ofDL]) (fun w0 kp => ?_)
    simp only [↓sx0, sx1, encs, tys, sxR, sevalprocAttr]
    exact EndW.fn (by simp only [sx4, encs, kpLL_map, sxR, sevalprocAttr] <;> (try simp) <;> (try omega)) (by simp only [sx4, encs, kpLL_map, sxR, sevalprocAttr] <;> (try simp) <;> (try omega))
  by_cases h5 : m.mark = 5
  · rw [show invM m = ⟨6, m.part, m.word, m.new, m.old, m.was, m.kind⟩ by rw [invE, h5]; rfl]
    have encs := And.intro encs h5
    refine Ctr.of (rs := [.cell 2 24]) Tok true Try.func44 rfl rfl rfl rfl (by simp [ofDL]) (fun w0 kp => ?_)
    simp only [↓sx0, sx1, encs, tys, sxR, sevalprocAttr]
    exact EndW.fn (by simp only [sx4, encs, kpLL_map, sxR, sevalprocAttr] <;> (try simp) <;> (try omega)) (by simp only [sx4, encs, kpLL_map, sxR, sevalprocAttr] <;> (try simp) <;> (try omega))
  by_cases h6 : m.mark = 6
  · rw [show invM m = ⟨5, m.part, m.word, m.new, m.old, m.was, m.kind⟩ by rw [invE, h6]; rfl]
    have encs := And.intro encs h6
    refine Ctr.of (rs := [.cell 2 24]) Tok true Try.func44 rfl rfl rfl rfl (by simp [ofDL]) (fun w0 kp => ?_)
    simp only [↓sx0, sx1, encs, tys, sxR, sevalprocAttr]
    exact EndW.fn (by simp only [sx4, encs, kpLL_map, sxR, sevalprocAttr] <;> (try simp) <;> (try omega)) (by simp only [sx4, encs, kpLL_map, sxR, sevalprocAttr] <;> (try simp) <;> (try omega))
  by_cases h7 : m.mark = 7
  · rw [show invM m = ⟨7, m.part, m.word, m.new, m.old, m.kind, m.was⟩ by rw [invE, h7]; rfl]
    have encs := And.intro encs h7
    refine Ctr.of (rs := [.cell 2 24]) Tok true Try.func44 rfl rfl rfl rfl (by simp [ofDL]) (fun w0 kp => ?_)
    simp only [↓sx0, sx1, encs, tys, sxR, sevalprocAttr]
    exact EndW.fn (by simp only [sx4, encs, kpLL_map, sxR, sevalprocAttr] <;> (try simp) <;> (try omega)) (by simp only [sx4, encs, kpLL_map, sxR, sevalprocAttr] <;> (try simp) <;> (try omega))
  rw [show invM m = ⟨m.mark, m.part, m.word, m.new, m.old, m.was, m.kind⟩ by rw [invE, invK, if_neg h1, if_neg h2, if_neg h5, if_neg h6, if_neg h7, if_neg h7]]
  have encs := And.intro encs (And.intro (eq_false h1) (And.intro (eq_false h2) (And.intro (eq_false h5) (And.intro (eq_false h6) (eq_false h7)))))
  refine Ctr.of (rs := [.cell 2 24]) Tok true Try.func44 rfl rfl rfl rfl (by simp [ofDL]) (fun w0 kp => ?_)
  simp only [↓sx0, sx1, encs, tys, sxR, sevalprocAttr]
  exact EndW.fn (by simp only [sx4, encs, kpLL_map, sxR, sevalprocAttr] <;> (try simp) <;> (try omega)) (by simp only [sx4, encs, kpLL_map, sxR, sevalprocAttr] <;> (try simp) <;> (try omega))
theorem invM_sz {m : Mk} (h : MkSz m) : MkSz (invM m) := ⟨h.2, h.1⟩
theorem invM_inv (m : Mk) : invM (invM m) = m := by
  have h1 : invK (invK m.mark) = m.mark := by unfold invK; repeat' split <;> omega
  have h2 : (invM m).mark = 7 ↔ m.mark = 7 := by simp only [invM, invK]; repeat' split <;> omega
  cases m
  simp only [invM] at h1 h2 ⊢
  by_cases h : (‹Int› : Int) = 7
  all_goals simp_all
def mkI (m : Mk) : Mk × Int := if mkErr m = 0 then (invM m, 0) else (mk0, mkErr m)
theorem Inverse_s (m : Mk) (hz : MkSz m) : Ctr Try.prog 43 [mV m] (fun rr => rr = ⟨.tup [mV (mkI m).1, (.v (.int .i64 ((mkI m).2)))], []⟩) := by
  have encs := And.intro encs prE
  refine Ctr.of (rs := [.cell 2 24, .tmp 3]) Tok true Try.func43 rfl rfl rfl rfl (by simp [ofDL]) (fun w0 kp => ?_)
  simp only [↓sx0, sx1, encs, tys, sxR, sevalprocAttr]
  refine CallI.fn (checkMark_s m hz) (by simp only [sx3, encs, sxR, sevalprocAttr] <;> (try simp) <;> (try rfl)) ?_
  simp only [↓sx0, sx1, encs, tys, sxR, sevalprocAttr]
  refine BrW.dec (fun he => ?_) (fun he => ?_)
  · rw [show mkI m = (mk0, mkErr m) by rw [mkI, if_neg he]]
    simp only [↓sx0, sx1, encs, tys, sxR, sevalprocAttr]
    exact EndW.fn (by simp only [sx4, encs, kpLL_map, sxR, sevalprocAttr] <;> (try simp) <;> (try omega)) (by simp only [sx4, encs, kpLL_map, sxR, sevalprocAttr] <;> (try simp) <;> (try omega))
  · rw [show mkI m = (invM m, 0) by rw [mkI, if_pos (Decidable.not_not.1 he)]]
    simp only [↓sx0, sx1, encs, tys, sxR, sevalprocAttr]
    refine CallI.fn (inverse_s m) (by simp only [sx3, encs, sxR, sevalprocAttr] <;> (try simp) <;> (try rfl)) ?_
    simp only [↓sx0, sx1, encs, tys, sxR, sevalprocAttr]
    exact EndW.fn (by simp only [sx4, encs, kpLL_map, sxR, sevalprocAttr] <;> (try simp) <;> (try omega)) (by simp only [sx4, encs, kpLL_map, sxR, sevalprocAttr] <;> (try simp) <;> (try omega))
end Go.Proofs.Ytenohgpackcjbaa
