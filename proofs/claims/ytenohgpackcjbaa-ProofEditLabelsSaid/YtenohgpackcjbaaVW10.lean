/-
  Chapter 8, walks: two marks in the other order, where none breaks or joins.
-/
import Derived.Test.YtenohgpackcjbaaVW9
namespace Go.Proofs.Ytenohgpackcjbaa
open Go Go.Vx
set_option linter.unusedSimpArgs false
set_option linter.unusedVariables false
set_option maxRecDepth 20000
def wordsP (a b : Mk) : Option (Mk × Mk) :=
  if b.word + ahM b ≤ a.word then some ({ a with word := a.word + lenM b }, b)
  else if a.word + ahM a + lenM a ≤ b.word then some (a, { b with word := b.word - lenM a }) else none
def quietP (a b : Mk) : Option (Mk × Mk) :=
  if a.part ≠ b.part then some (a, b) else if owB a = true ∧ owB b = true then wordsP a b else if owB a = true ∨ owB b = true then some (a, b) else none
def mk0 : Mk := ⟨0, 0, 0, ⟨#[]⟩, ⟨#[]⟩, 0, 0⟩
/-- both in the other order, with the error. -/
def swapF (r : Option (Mk × Mk)) : (Mk × Mk) × Int :=
  match r with
  | none => ((mk0, mk0), 13)
  | some (a, b) => if inR a = true ∧ inR b = true then (if p0B b = true ∨ p0B a = true then ((mk0, mk0), 3) else ((b, a), 0)) else ((mk0, mk0), 2)
def prSV (p : Mk × Mk) : SV := .agg [.v (.int .i64 p.1.mark), .v (.int .i64 p.1.part), .v (.int .i64 p.1.word), .v (.string p.1.old), .v (.string p.1.new), .v (.int .i64 p.1.was), .v (.int .i64 p.1.kind), .v (.int .i64 p.2.mark), .v (.int .i64 p.2.part), .v (.int .i64 p.2.word), .v (.string p.2.old), .v (.string p.2.new), .v (.int .i64 p.2.was), .v (.int .i64 p.2.kind)]
theorem prE : (∀ p, prSV p = .agg [.v (.int .i64 p.1.mark), .v (.int .i64 p.1.part), .v (.int .i64 p.1.word), .v (.string p.1.old), .v (.string p.1.new), .v (.int .i64 p.1.was), .v (.int .i64 p.1.kind), .v (.int .i64 p.2.mark), .v (.int .i64 p.2.part), .v (.int .i64 p.2.word), .v (.string p.2.old), .v (.string p.2.new), .v (.int .i64 p.2.was), .v (.int .i64 p.2.kind)]) ∧ mk0 = ⟨0, 0, 0, ⟨#[]⟩, ⟨#[]⟩, 0, 0⟩ := ⟨fun _ => rfl, rfl⟩
theorem inR_b {m : Mk} (h : inR m = true) : (0 ≤ m.part ∧ m.part ≤ 59) ∧ (0 ≤ m.word ∧ m.word ≤ 100) := by
  simpa [inR] using h
set_option maxHeartbeats 8000000 in
theorem swappedQ_s (a b : Mk) (ha : inR a = true) (hb : inR b = true) (h1 : a.mark ≠ 5) (h2 : a.mark ≠ 6) (h3 : b.mark ≠ 5) (h4 : b.mark ≠ 6) : Ctr Try.prog 66 [mV a, mV b] (fun rr => rr = ⟨.tup [prSV (swapF (quietP a b)).1, (.v (.int .i64 ((swapF (quietP a b)).2)))], []⟩) := by
  have encs := And.intro encs prE
  obtain ⟨⟨a1, a2⟩, a3, a4⟩ := inR_b ha
  obtain ⟨⟨b1, b2⟩, b3, b4⟩ := inR_b hb
  have la := lenM_b a
  have lb := lenM_b b
  have ah := ahM_b a
  have bh := ahM_b b
  refine Ctr.of (rs := [.cell 4 39, .tmp 5]) Tok true Try.func66 rfl rfl rfl rfl (by simp [ofDL]) (fun w0 kp => ?_)
  simp only [↓sx0, sx1, encs, tys, sxR, sevalprocAttr]
  refine CallI.inlG (rs := [.tmp 2]) Tok (fun h => by first | cases h; done | rfl) Try.func100 rfl rfl rfl rfl (by simp) (fun ρ σ μ fr lp => ?_) (by refine ⟨_, ?_, rfl⟩; rfl)
  simp only [↓sx0, sx1, encs, tys, sxR, sevalprocAttr]
  refine BrW.no h1 ?_
  simp only [↓sx0, sx1, encs, tys, sxR, sevalprocAttr]
  refine BrW.no h2 ?_
  simp only [↓sx0, sx1, encs, tys, sxR, sevalprocAttr]
  refine BrW.no h3 ?_
  simp only [↓sx0, sx1, encs, tys, sxR, sevalprocAttr]
  refine BrW.no h4 ?_
  simp only [↓sx0, sx1, encs, tys, sxR, sevalprocAttr]
  refine CallI.inlG (rs := [.tmp 2]) Tok (fun h => by first | cases h; done | rfl) Try.func129 rfl rfl rfl rfl (by simp) (fun ρ σ μ fr lp => ?_) (by refine ⟨_, ?_, rfl⟩; rfl)
  simp only [↓sx0, sx1, encs, tys, sxR, sevalprocAttr]
  refine DrawW.plan Tok mixed (.q 0 <| .q 1 <| .q 2 <| .q 3 <| .q 4 <| .q 5 <| .q 6 <| .q 7 <| .q 8 <| .q 9 <| .q 10 <| .q 11 <| .done) (by kernel_rfl) (by kernel_rfl) ?_
  simp only [↓sx0, sx1, encs, tys, sxR, sevalprocAttr]
  refine BrW.dec (fun hpp => ?_) (fun hpp => ?_)
  · have hq : quietP a b = some (a, b) := by rw [quietP, if_pos hpp]
    rw [hq]
    simp only [↓sx0, sx1, encs, tys, sxR, sevalprocAttr]
    refine CallI.fn (inRange_s (a)) (by simp only [sx3, encs, sxR, sevalprocAttr] <;> (try simp) <;> (try rfl)) ?_
    simp only [↓sx0, sx1, encs, tys, sxR, sevalprocAttr]
    refine BrW.of (fun r1 => ?_) (fun r1 => ?_)
    · simp only [↓sx0, sx1, encs, tys, sxR, sevalprocAttr]
      refine CallI.fn (inRange_s (b)) (by simp only [sx3, encs, sxR, sevalprocAttr] <;> (try simp) <;> (try rfl)) ?_
      simp only [↓sx0, sx1, encs, tys, sxR, sevalprocAttr]
      refine BrW.of (fun r2 => ?_) (fun r2 => ?_)
      · simp only [↓sx0, sx1, encs, tys, sxR, sevalprocAttr]
        refine CallI.fn (containsM_s true 102 p0B [b, a] (by simp) (fun x _ => swapped1_s x)) (by simp only [sx3, encs, sxR, sevalprocAttr] <;> (try simp) <;> (try rfl)) ?_
        simp only [↓sx0, sx1, encs, tys, sxR, sevalprocAttr]
        refine BrW.of (fun r3 => ?_) (fun r3 => ?_)
        · simp only [↓sx0, sx1, encs, tys, sxR, sevalprocAttr]
          have r3 : p0B (b) = true ∨ p0B (a) = true := by simpa using r3
          rw [show swapF (some (a, b)) = ((mk0, mk0), 3) by simp only [swapF]; rw [if_pos ⟨r1, r2⟩, if_pos r3]]
          exact EndW.fn (by simp only [sx4, encs, kpLL_map, sxR, sevalprocAttr] <;> (try simp) <;> (try omega)) (by simp only [sx4, encs, kpLL_map, sxR, sevalprocAttr] <;> (try simp) <;> (try omega))
        · simp only [↓sx0, sx1, encs, tys, sxR, sevalprocAttr]
          have r3 : ¬ (p0B (b) = true ∨ p0B (a) = true) := by simpa using r3
          rw [show swapF (some (a, b)) = ((b, a), 0) by simp only [swapF]; rw [if_pos ⟨r1, r2⟩, if_neg r3]]
          exact EndW.fn (by simp only [sx4, encs, kpLL_map, sxR, sevalprocAttr] <;> (try simp) <;> (try omega)) (by simp only [sx4, encs, kpLL_map, sxR, sevalprocAttr] <;> (try simp) <;> (try omega))
      · simp only [↓sx0, sx1, encs, tys, sxR, sevalprocAttr]
        rw [show swapF (some (a, b)) = ((mk0, mk0), 2) by simp only [swapF]; rw [if_neg (by rw [r2]; simp)]]
        exact EndW.fn (by simp only [sx4, encs, kpLL_map, sxR, sevalprocAttr] <;> (try simp) <;> (try omega)) (by simp only [sx4, encs, kpLL_map, sxR, sevalprocAttr] <;> (try simp) <;> (try omega))
    · simp only [↓sx0, sx1, encs, tys, sxR, sevalprocAttr]
      rw [show swapF (some (a, b)) = ((mk0, mk0), 2) by simp only [swapF]; rw [if_neg (by rw [r1]; simp)]]
      exact EndW.fn (by simp only [sx4, encs, kpLL_map, sxR, sevalprocAttr] <;> (try simp) <;> (try omega)) (by simp only [sx4, encs, kpLL_map, sxR, sevalprocAttr] <;> (try simp) <;> (try omega))
  · have hpp : a.part = b.part := Decidable.not_not.1 hpp
    simp only [↓sx0, sx1, encs, tys, sxR, sevalprocAttr]
    refine CallI.fn (ofWords_s a) (by simp only [sx3, encs, sxR, sevalprocAttr] <;> (try simp) <;> (try rfl)) ?_
    simp only [↓sx0, sx1, encs, tys, sxR, sevalprocAttr]
    have cases : owB a = true → owB b = true → quietP a b = wordsP a b := fun u v => by rw [quietP, if_neg (by simp [hpp]), if_pos ⟨u, v⟩]
    have cases2 : ¬ (owB a = true ∧ owB b = true) → (owB a = true ∨ owB b = true) → quietP a b = some (a, b) := fun u v => by rw [quietP, if_neg (by simp [hpp]), if_neg u, if_pos v]
    have cases3 : ¬ (owB a = true ∨ owB b = true) → quietP a b = none := fun u => by rw [quietP, if_neg (by simp [hpp]), if_neg (fun h => u (.inl h.1)), if_neg u]
    refine BrW.of (fun o1 => ?_) (fun o1 => ?_)
    · simp only [↓sx0, sx1, encs, tys, sxR, sevalprocAttr]
      refine CallI.fn (ofWords_s b) (by simp only [sx3, encs, sxR, sevalprocAttr] <;> (try simp) <;> (try rfl)) ?_
      simp only [↓sx0, sx1, encs, tys, sxR, sevalprocAttr]
      refine BrW.of (fun o2 => ?_) (fun o2 => ?_)
      · simp only [↓sx0, sx1, encs, tys, sxR, sevalprocAttr]
        have hc := cases o1 o2
        rw [hc]
        refine CallI.inlG (rs := [.tmp 2]) Tok (fun h => by first | cases h; done | rfl) Try.func146 rfl rfl rfl rfl (by simp) (fun ρ σ μ fr lp => ?_) (by refine ⟨_, ?_, rfl⟩; rfl)
        simp only [↓sx0, sx1, encs, tys, sxR, sevalprocAttr]
        refine DrawW.plan Tok mixed (.q 0 <| .q 1 <| .q 2 <| .q 3 <| .q 4 <| .q 5 <| .q 6 <| .q 7 <| .e2 8 [1, 3, 5, 7] (.e 9 [1, 3, 5, 7] <| .e 10 [5, 7] <| .e 11 [] <| .done) 9 [1, 3, 5, 7] (.e 8 [1, 3, 5, 7] <| .e 10 [5, 7] <| .e 11 [] <| .done)) (by kernel_rfl) (by kernel_rfl) ?_
        simp only [↓sx0, sx1, encs, tys, sxR, sevalprocAttr]
        repeat' (first
          | refine ⟨?_, ?_⟩
          | fail)
        all_goals (
          skip
          refine DrawW.plan Tok mixed (.q 0 <| .q 3 <| .q 4 <| .e 1 [4] <| .q 2 <| .q 5 <| .q 6 <| .done) (by kernel_rfl) (by kernel_rfl) ?_
          simp only [↓sx0, sx1, encs, tys, sxR, sevalprocAttr]
          refine CallI.fn (ahead_s b ⟨b3, by omega⟩) (by simp only [sx3, encs, sxR, sevalprocAttr] <;> (try simp) <;> (try rfl)) ?_
          simp only [↓sx0, sx1, encs, tys, sxR, sevalprocAttr]
          refine BrW.dec (fun w1 => ?_) (fun w1 => ?_)
          · rw [show wordsP a b = some ({ a with word := a.word + lenM b }, b) by rw [wordsP, if_pos w1]]
            simp only [↓sx0, sx1, encs, tys, sxR, sevalprocAttr]
            refine DrawW.plan Tok mixed (.q 0 <| .q 1 <| .q 2 <| .q 3 <| .q 4 <| .q 5 <| .e 6 [1, 4] <| .q 7 <| .q 8 <| .q 9 <| .e 10 [] <| .done) (by kernel_rfl) (by kernel_rfl) ?_
            simp only [↓sx0, sx1, encs, tys, sxR, sevalprocAttr]
            refine CallI.fn (lengthens_s b) (by simp only [sx3, encs, sxR, sevalprocAttr] <;> (try simp) <;> (try rfl)) ?_
            simp only [↓sx0, sx1, encs, tys, sxR, sevalprocAttr]
            repeat ((with_reducible refine Vc.go ?_ fun _ => ?_); (focus (first | omega | (simp only [InK]; omega) | (simp [InK]; done) | (simp [InK]; omega))); simp only [↓sx0, sx1, encs, tys, sxR, sevalprocAttr])
            refine CallI.fn (inRange_s ({ a with word := a.word + lenM b })) (by simp only [sx3, encs, sxR, sevalprocAttr] <;> (try simp) <;> (try rfl)) ?_
            simp only [↓sx0, sx1, encs, tys, sxR, sevalprocAttr]
            refine BrW.of (fun r1 => ?_) (fun r1 => ?_)
            · simp only [↓sx0, sx1, encs, tys, sxR, sevalprocAttr]
              refine CallI.fn (inRange_s (b)) (by simp only [sx3, encs, sxR, sevalprocAttr] <;> (try simp) <;> (try rfl)) ?_
              simp only [↓sx0, sx1, encs, tys, sxR, sevalprocAttr]
              refine BrW.of (fun r2 => ?_) (fun r2 => ?_)
              · simp only [↓sx0, sx1, encs, tys, sxR, sevalprocAttr]
                refine CallI.fn (containsM_s true 102 p0B [b, { a with word := a.word + lenM b }] (by simp) (fun x _ => swapped1_s x)) (by simp only [sx3, encs, sxR, sevalprocAttr] <;> (try simp) <;> (try rfl)) ?_
                simp only [↓sx0, sx1, encs, tys, sxR, sevalprocAttr]
                refine BrW.of (fun r3 => ?_) (fun r3 => ?_)
                · simp only [↓sx0, sx1, encs, tys, sxR, sevalprocAttr]
                  have r3 : p0B (b) = true ∨ p0B ({ a with word := a.word + lenM b }) = true := by simpa using r3
                  rw [show swapF (some ({ a with word := a.word + lenM b }, b)) = ((mk0, mk0), 3) by simp only [swapF]; rw [if_pos ⟨r1, r2⟩, if_pos r3]]
                  exact EndW.fn (by simp only [sx4, encs, kpLL_map, sxR, sevalprocAttr] <;> (try simp) <;> (try omega)) (by simp only [sx4, encs, kpLL_map, sxR, sevalprocAttr] <;> (try simp) <;> (try omega))
                · simp only [↓sx0, sx1, encs, tys, sxR, sevalprocAttr]
                  have r3 : ¬ (p0B (b) = true ∨ p0B ({ a with word := a.word + lenM b }) = true) := by simpa using r3
                  rw [show swapF (some ({ a with word := a.word + lenM b }, b)) = ((b, { a with word := a.word + lenM b }), 0) by simp only [swapF]; rw [if_pos ⟨r1, r2⟩, if_neg r3]]
                  exact EndW.fn (by simp only [sx4, encs, kpLL_map, sxR, sevalprocAttr] <;> (try simp) <;> (try omega)) (by simp only [sx4, encs, kpLL_map, sxR, sevalprocAttr] <;> (try simp) <;> (try omega))
              · simp only [↓sx0, sx1, encs, tys, sxR, sevalprocAttr]
                rw [show swapF (some ({ a with word := a.word + lenM b }, b)) = ((mk0, mk0), 2) by simp only [swapF]; rw [if_neg (by rw [r2]; simp)]]
                exact EndW.fn (by simp only [sx4, encs, kpLL_map, sxR, sevalprocAttr] <;> (try simp) <;> (try omega)) (by simp only [sx4, encs, kpLL_map, sxR, sevalprocAttr] <;> (try simp) <;> (try omega))
            · simp only [↓sx0, sx1, encs, tys, sxR, sevalprocAttr]
              rw [show swapF (some ({ a with word := a.word + lenM b }, b)) = ((mk0, mk0), 2) by simp only [swapF]; rw [if_neg (by rw [r1]; simp)]]
              exact EndW.fn (by simp only [sx4, encs, kpLL_map, sxR, sevalprocAttr] <;> (try simp) <;> (try omega)) (by simp only [sx4, encs, kpLL_map, sxR, sevalprocAttr] <;> (try simp) <;> (try omega))
          · simp only [↓sx0, sx1, encs, tys, sxR, sevalprocAttr]
            refine DrawW.plan Tok mixed (.q 0 <| .q 3 <| .e 1 [3] <| .q 2 <| .e 4 [] <| .q 5 <| .q 6 <| .q 7 <| .done) (by kernel_rfl) (by kernel_rfl) ?_
            simp only [↓sx0, sx1, encs, tys, sxR, sevalprocAttr]
            refine CallI.fn (ahead_s b ⟨b3, by omega⟩) (by simp only [sx3, encs, sxR, sevalprocAttr] <;> (try simp) <;> (try rfl)) ?_
            simp only [↓sx0, sx1, encs, tys, sxR, sevalprocAttr]
            refine CallI.fn (behind_s a ⟨a3, by omega⟩) (by simp only [sx3, encs, sxR, sevalprocAttr] <;> (try simp) <;> (try rfl)) ?_
            simp only [↓sx0, sx1, encs, tys, sxR, sevalprocAttr]
            refine BrW.dec (fun w2 => ?_) (fun w2 => ?_)
            · rw [show wordsP a b = some (a, { b with word := b.word - lenM a }) by rw [wordsP, if_neg w1, if_pos w2]]
              simp only [↓sx0, sx1, encs, tys, sxR, sevalprocAttr]
              refine DrawW.plan Tok mixed (.q 0 <| .q 1 <| .q 2 <| .q 3 <| .q 4 <| .q 5 <| .e 6 [1, 4] <| .q 7 <| .q 8 <| .q 9 <| .e 10 [] <| .done) (by kernel_rfl) (by kernel_rfl) ?_
              simp only [↓sx0, sx1, encs, tys, sxR, sevalprocAttr]
              refine CallI.fn (lengthens_s a) (by simp only [sx3, encs, sxR, sevalprocAttr] <;> (try simp) <;> (try rfl)) ?_
              simp only [↓sx0, sx1, encs, tys, sxR, sevalprocAttr]
              repeat ((with_reducible refine Vc.go ?_ fun _ => ?_); (focus (first | omega | (simp only [InK]; omega) | (simp [InK]; done) | (simp [InK]; omega))); simp only [↓sx0, sx1, encs, tys, sxR, sevalprocAttr])
              refine CallI.fn (inRange_s (a)) (by simp only [sx3, encs, sxR, sevalprocAttr] <;> (try simp) <;> (try rfl)) ?_
              simp only [↓sx0, sx1, encs, tys, sxR, sevalprocAttr]
              refine BrW.of (fun r1 => ?_) (fun r1 => ?_)
              · simp only [↓sx0, sx1, encs, tys, sxR, sevalprocAttr]
                refine CallI.fn (inRange_s ({ b with word := b.word - lenM a })) (by simp only [sx3, encs, sxR, sevalprocAttr] <;> (try simp) <;> (try rfl)) ?_
                simp only [↓sx0, sx1, encs, tys, sxR, sevalprocAttr]
                refine BrW.of (fun r2 => ?_) (fun r2 => ?_)
                · simp only [↓sx0, sx1, encs, tys, sxR, sevalprocAttr]
                  refine CallI.fn (containsM_s true 102 p0B [{ b with word := b.word - lenM a }, a] (by simp) (fun x _ => swapped1_s x)) (by simp only [sx3, encs, sxR, sevalprocAttr] <;> (try simp) <;> (try rfl)) ?_
                  simp only [↓sx0, sx1, encs, tys, sxR, sevalprocAttr]
                  refine BrW.of (fun r3 => ?_) (fun r3 => ?_)
                  · simp only [↓sx0, sx1, encs, tys, sxR, sevalprocAttr]
                    have r3 : p0B ({ b with word := b.word - lenM a }) = true ∨ p0B (a) = true := by simpa using r3
                    rw [show swapF (some (a, { b with word := b.word - lenM a })) = ((mk0, mk0), 3) by simp only [swapF]; rw [if_pos ⟨r1, r2⟩, if_pos r3]]
                    exact EndW.fn (by simp only [sx4, encs, kpLL_map, sxR, sevalprocAttr] <;> (try simp) <;> (try omega)) (by simp only [sx4, encs, kpLL_map, sxR, sevalprocAttr] <;> (try simp) <;> (try omega))
                  · simp only [↓sx0, sx1, encs, tys, sxR, sevalprocAttr]
                    have r3 : ¬ (p0B ({ b with word := b.word - lenM a }) = true ∨ p0B (a) = true) := by simpa using r3
                    rw [show swapF (some (a, { b with word := b.word - lenM a })) = (({ b with word := b.word - lenM a }, a), 0) by simp only [swapF]; rw [if_pos ⟨r1, r2⟩, if_neg r3]]
                    exact EndW.fn (by simp only [sx4, encs, kpLL_map, sxR, sevalprocAttr] <;> (try simp) <;> (try omega)) (by simp only [sx4, encs, kpLL_map, sxR, sevalprocAttr] <;> (try simp) <;> (try omega))
                · simp only [↓sx0, sx1, encs, tys, sxR, sevalprocAttr]
                  rw [show swapF (some (a, { b with word := b.word - lenM a })) = ((mk0, mk0), 2) by simp only [swapF]; rw [if_neg (by rw [r2]; simp)]]
                  exact EndW.fn (by simp only [sx4, encs, kpLL_map, sxR, sevalprocAttr] <;> (try simp) <;> (try omega)) (by simp only [sx4, encs, kpLL_map, sxR, sevalprocAttr] <;> (try simp) <;> (try omega))
              · simp only [↓sx0, sx1, encs, tys, sxR, sevalprocAttr]
                rw [show swapF (some (a, { b with word := b.word - lenM a })) = ((mk0, mk0), 2) by simp only [swapF]; rw [if_neg (by rw [r1]; simp)]]
                exact EndW.fn (by simp only [sx4, encs, kpLL_map, sxR, sevalprocAttr] <;> (try simp) <;> (try omega)) (by simp only [sx4, encs, kpLL_map, sxR, sevalprocAttr] <;> (try simp) <;> (try omega))
            · have hq : wordsP a b = none := by rw [wordsP, if_neg w1, if_neg w2]
              simp only [↓sx0, sx1, encs, tys, sxR, sevalprocAttr]
              rw [hq, show swapF none = ((mk0, mk0), 13) from rfl]
              exact EndW.fn (by simp only [sx4, encs, kpLL_map, sxR, sevalprocAttr] <;> (try simp) <;> (try omega)) (by simp only [sx4, encs, kpLL_map, sxR, sevalprocAttr] <;> (try simp) <;> (try omega)) )
      · simp only [↓sx0, sx1, encs, tys, sxR, sevalprocAttr]
        have hq := cases2 (fun h => by rw [o2] at h; simp at h) (.inl o1)
        rw [hq]
        refine CallI.fn (ofWords_s a) (by simp only [sx3, encs, sxR, sevalprocAttr] <;> (try simp) <;> (try rfl)) ?_
        simp only [↓sx0, sx1, encs, tys, sxR, sevalprocAttr]
        refine BrW.tt o1 ?_
        simp only [↓sx0, sx1, encs, tys, sxR, sevalprocAttr]
        refine CallI.fn (inRange_s (a)) (by simp only [sx3, encs, sxR, sevalprocAttr] <;> (try simp) <;> (try rfl)) ?_
        simp only [↓sx0, sx1, encs, tys, sxR, sevalprocAttr]
        refine BrW.of (fun r1 => ?_) (fun r1 => ?_)
        · simp only [↓sx0, sx1, encs, tys, sxR, sevalprocAttr]
          refine CallI.fn (inRange_s (b)) (by simp only [sx3, encs, sxR, sevalprocAttr] <;> (try simp) <;> (try rfl)) ?_
          simp only [↓sx0, sx1, encs, tys, sxR, sevalprocAttr]
          refine BrW.of (fun r2 => ?_) (fun r2 => ?_)
          · simp only [↓sx0, sx1, encs, tys, sxR, sevalprocAttr]
            refine CallI.fn (containsM_s true 102 p0B [b, a] (by simp) (fun x _ => swapped1_s x)) (by simp only [sx3, encs, sxR, sevalprocAttr] <;> (try simp) <;> (try rfl)) ?_
            simp only [↓sx0, sx1, encs, tys, sxR, sevalprocAttr]
            refine BrW.of (fun r3 => ?_) (fun r3 => ?_)
            · simp only [↓sx0, sx1, encs, tys, sxR, sevalprocAttr]
              have r3 : p0B (b) = true ∨ p0B (a) = true := by simpa using r3
              rw [show swapF (some (a, b)) = ((mk0, mk0), 3) by simp only [swapF]; rw [if_pos ⟨r1, r2⟩, if_pos r3]]
              exact EndW.fn (by simp only [sx4, encs, kpLL_map, sxR, sevalprocAttr] <;> (try simp) <;> (try omega)) (by simp only [sx4, encs, kpLL_map, sxR, sevalprocAttr] <;> (try simp) <;> (try omega))
            · simp only [↓sx0, sx1, encs, tys, sxR, sevalprocAttr]
              have r3 : ¬ (p0B (b) = true ∨ p0B (a) = true) := by simpa using r3
              rw [show swapF (some (a, b)) = ((b, a), 0) by simp only [swapF]; rw [if_pos ⟨r1, r2⟩, if_neg r3]]
              exact EndW.fn (by simp only [sx4, encs, kpLL_map, sxR, sevalprocAttr] <;> (try simp) <;> (try omega)) (by simp only [sx4, encs, kpLL_map, sxR, sevalprocAttr] <;> (try simp) <;> (try omega))
          · simp only [↓sx0, sx1, encs, tys, sxR, sevalprocAttr]
            rw [show swapF (some (a, b)) = ((mk0, mk0), 2) by simp only [swapF]; rw [if_neg (by rw [r2]; simp)]]
            exact EndW.fn (by simp only [sx4, encs, kpLL_map, sxR, sevalprocAttr] <;> (try simp) <;> (try omega)) (by simp only [sx4, encs, kpLL_map, sxR, sevalprocAttr] <;> (try simp) <;> (try omega))
        · simp only [↓sx0, sx1, encs, tys, sxR, sevalprocAttr]
          rw [show swapF (some (a, b)) = ((mk0, mk0), 2) by simp only [swapF]; rw [if_neg (by rw [r1]; simp)]]
          exact EndW.fn (by simp only [sx4, encs, kpLL_map, sxR, sevalprocAttr] <;> (try simp) <;> (try omega)) (by simp only [sx4, encs, kpLL_map, sxR, sevalprocAttr] <;> (try simp) <;> (try omega))
    · simp only [↓sx0, sx1, encs, tys, sxR, sevalprocAttr]
      refine CallI.fn (ofWords_s a) (by simp only [sx3, encs, sxR, sevalprocAttr] <;> (try simp) <;> (try rfl)) ?_
      simp only [↓sx0, sx1, encs, tys, sxR, sevalprocAttr]
      refine BrW.ff o1 ?_
      simp only [↓sx0, sx1, encs, tys, sxR, sevalprocAttr]
      refine CallI.fn (ofWords_s b) (by simp only [sx3, encs, sxR, sevalprocAttr] <;> (try simp) <;> (try rfl)) ?_
      simp only [↓sx0, sx1, encs, tys, sxR, sevalprocAttr]
      refine BrW.of (fun o2 => ?_) (fun o2 => ?_)
      · have hq := cases2 (fun h => by rw [o1] at h; simp at h) (.inr o2)
        rw [hq]
        simp only [↓sx0, sx1, encs, tys, sxR, sevalprocAttr]
        refine CallI.fn (inRange_s (a)) (by simp only [sx3, encs, sxR, sevalprocAttr] <;> (try simp) <;> (try rfl)) ?_
        simp only [↓sx0, sx1, encs, tys, sxR, sevalprocAttr]
        refine BrW.of (fun r1 => ?_) (fun r1 => ?_)
        · simp only [↓sx0, sx1, encs, tys, sxR, sevalprocAttr]
          refine CallI.fn (inRange_s (b)) (by simp only [sx3, encs, sxR, sevalprocAttr] <;> (try simp) <;> (try rfl)) ?_
          simp only [↓sx0, sx1, encs, tys, sxR, sevalprocAttr]
          refine BrW.of (fun r2 => ?_) (fun r2 => ?_)
          · simp only [↓sx0, sx1, encs, tys, sxR, sevalprocAttr]
            refine CallI.fn (containsM_s true 102 p0B [b, a] (by simp) (fun x _ => swapped1_s x)) (by simp only [sx3, encs, sxR, sevalprocAttr] <;> (try simp) <;> (try rfl)) ?_
            simp only [↓sx0, sx1, encs, tys, sxR, sevalprocAttr]
            refine BrW.of (fun r3 => ?_) (fun r3 => ?_)
            · simp only [↓sx0, sx1, encs, tys, sxR, sevalprocAttr]
              have r3 : p0B (b) = true ∨ p0B (a) = true := by simpa using r3
              rw [show swapF (some (a, b)) = ((mk0, mk0), 3) by simp only [swapF]; rw [if_pos ⟨r1, r2⟩, if_pos r3]]
              exact EndW.fn (by simp only [sx4, encs, kpLL_map, sxR, sevalprocAttr] <;> (try simp) <;> (try omega)) (by simp only [sx4, encs, kpLL_map, sxR, sevalprocAttr] <;> (try simp) <;> (try omega))
            · simp only [↓sx0, sx1, encs, tys, sxR, sevalprocAttr]
              have r3 : ¬ (p0B (b) = true ∨ p0B (a) = true) := by simpa using r3
              rw [show swapF (some (a, b)) = ((b, a), 0) by simp only [swapF]; rw [if_pos ⟨r1, r2⟩, if_neg r3]]
              exact EndW.fn (by simp only [sx4, encs, kpLL_map, sxR, sevalprocAttr] <;> (try simp) <;> (try omega)) (by simp only [sx4, encs, kpLL_map, sxR, sevalprocAttr] <;> (try simp) <;> (try omega))
          · simp only [↓sx0, sx1, encs, tys, sxR, sevalprocAttr]
            rw [show swapF (some (a, b)) = ((mk0, mk0), 2) by simp only [swapF]; rw [if_neg (by rw [r2]; simp)]]
            exact EndW.fn (by simp only [sx4, encs, kpLL_map, sxR, sevalprocAttr] <;> (try simp) <;> (try omega)) (by simp only [sx4, encs, kpLL_map, sxR, sevalprocAttr] <;> (try simp) <;> (try omega))
        · simp only [↓sx0, sx1, encs, tys, sxR, sevalprocAttr]
          rw [show swapF (some (a, b)) = ((mk0, mk0), 2) by simp only [swapF]; rw [if_neg (by rw [r1]; simp)]]
          exact EndW.fn (by simp only [sx4, encs, kpLL_map, sxR, sevalprocAttr] <;> (try simp) <;> (try omega)) (by simp only [sx4, encs, kpLL_map, sxR, sevalprocAttr] <;> (try simp) <;> (try omega))
      · have hq := cases3 (fun h => by rw [o1, o2] at h; simp at h)
        simp only [↓sx0, sx1, encs, tys, sxR, sevalprocAttr]
        rw [hq, show swapF none = ((mk0, mk0), 13) from rfl]
        exact EndW.fn (by simp only [sx4, encs, kpLL_map, sxR, sevalprocAttr] <;> (try simp) <;> (try omega)) (by simp only [sx4, encs, kpLL_map, sxR, sevalprocAttr] <;> (try simp) <;> (try omega))
end Go.Proofs.Ytenohgpackcjbaa
