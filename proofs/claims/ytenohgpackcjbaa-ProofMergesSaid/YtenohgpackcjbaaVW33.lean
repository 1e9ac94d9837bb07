/-
  Chapter 8, walks: proofs are merged (reference), the law.
-/
import Derived.Test.YtenohgpackcjbaaVW32
namespace Go.Proofs.Ytenohgpackcjbaa
open Go Go.Vx
set_option linter.unusedSimpArgs false
set_option linter.unusedVariables false
set_option maxRecDepth 20000
theorem plB_symm (x y : Mk) : plB y x = plB x y := by
  rw [Bool.eq_iff_iff]
  simp only [plB, Bool.and_eq_true, Bool.or_eq_true, decide_eq_true_eq]
  omega
theorem ovR_0 {x y : Mk} (h : (ovR x y).2 = 0) : ovR x y = ovP x y := by
  unfold ovR at h ⊢
  split at h
  · simp at h
  · rename_i hp; rw [if_neg hp]
theorem stepR (x y : Mk) : stepE x y = if (ovR y x).2 = 13 ∨ (ovR x y).2 = 13 then 13 else if (ovR y x).2 = 0 then (ovR x y).2 else (ovR y x).2 := by
  unfold stepE ovR hgB
  rw [plB_symm x y]
  by_cases hp : plB x y = true
  · simp [hp]
  · have hp : plB x y = false := by simpa using hp
    simp only [hp, Bool.false_or, Bool.or_eq_true, decide_eq_true_eq, Bool.false_eq_true, if_false]
    by_cases h1 : (ovP x y).2 = 13
    · simp [h1]
    · by_cases h2 : (ovP y x).2 = 13
      · simp [h2]
      · simp [h1, h2]
set_option maxHeartbeats 32000000 in
theorem mergedR_s (b1 b2 : Bool) (a b : List Mk) (hea : lstErr a = 0) (heb : lstErr b = 0) : Ctr Try.prog 49 [.sl b1 7 (a.map eM), .sl b2 7 (b.map eM)] (fun rr => rr = ⟨.tup [.sl true 7 ((mgV a b).1.map eM), prI (mgV a b).2.1, (.v (.int .i64 ((mgV a b).2.2)))], []⟩) := by
  have encs := And.intro encs (And.intro (show ∀ p, prI p = .agg [.v (.int .i64 p.1), .v (.int .i64 p.2)] from fun _ => rfl) (And.intro (show ∀ m, mC m = [.v (.int .i64 m.mark), .v (.int .i64 m.part), .v (.int .i64 m.word), .v (.string m.old), .v (.string m.new), .v (.int .i64 m.was), .v (.int .i64 m.kind)] from fun _ => rfl) prE))
  have he : mgE a b = 0 := by rw [mgE, if_pos hea, heb]
  obtain ⟨a60, aok⟩ := lst_all hea
  obtain ⟨b60, bok⟩ := lst_all heb
  refine Ctr.of (rs := [.tmp 4, .cell 5 84, .tmp 6]) Tok true Try.func49 rfl rfl rfl rfl (by simp [ofDL]) (fun w0 kp => ?_)
  simp only [↓sx0, sx1, encs, tys, sxR, sevalprocAttr]
  repeat ((with_reducible refine Vc.go ?_ fun _ => ?_); (focus (first | omega | (simp only [InK]; omega) | (simp [InK]; done) | (simp [InK]; omega))); simp only [↓sx0, sx1, encs, tys, sxR, sevalprocAttr])
  refine BrW.dec (fun h8 => ?_) (fun h8 => ?_)
  · rw [show mgV a b = ([], (0, 0), 8) by rw [mgV, if_pos he, if_pos (by omega)]]
    simp only [↓sx0, sx1, encs, tys, sxR, sevalprocAttr]
    refine DrawW.plan Tok mixed (.q 0 <| .q 1 <| .e 2 [] <| .q 3 <| .done) (by kernel_rfl) (by kernel_rfl) ?_
    simp only [↓sx0, sx1, encs, tys, sxR, sevalprocAttr]
    exact EndW.fn (by simp only [sx4, encs, kpLL_map, sxR, sevalprocAttr] <;> (try simp) <;> (try omega)) (by simp only [sx4, encs, kpLL_map, sxR, sevalprocAttr] <;> (try simp) <;> (try omega))
  · rw [show mgV a b = mgF b 0 a a by rw [mgV, if_pos he, if_neg (by omega)]]
    simp only [↓sx0, sx1, encs, tys, sxR, sevalprocAttr]
    repeat ((with_reducible refine Vc.go ?_ fun _ => ?_); (focus (first | omega | (simp only [InK]; omega) | (simp [InK]; done) | (simp [InK]; omega))); simp only [↓sx0, sx1, encs, tys, sxR, sevalprocAttr])
    refine LoopW.comp [1, 5, 7, 8, 9, 10] (by simp only [sx2, encs, sxR, sevalprocAttr] <;> (try simp) <;> (try omega)) ?_
    simp only [sx2, sxR, sevalprocAttr]
    refine LoopW.up Tok (fun s : MS => [(9, .row 1), (10, (.v (.int .i64 s.k)))]) (fun s => []) (fun s => [(0, s.xs.map eM), (1, s.out.map eM)]) (fun s => []) (fun s => (s.k ≤ b.length ∧ s.xs.length = a.length ∧ s.out.length ≤ a.length + s.k) ∧ (∀ m ∈ s.xs, mkErr m = 0) ∧ mgF (b.drop s.k) s.k s.xs s.out = mgF b 0 a a) (fun s => b.length - s.k) (⟨0, a, a⟩) (by simp only [sx2, encs, sxR, sevalprocAttr] <;> (try simp) <;> (try omega)) ?_ ?_
    · exact ⟨⟨by simp, rfl, by simp⟩, aok, rfl⟩
    rintro ⟨k, xs, out⟩ ⟨⟨h1, h2, h3⟩, hok, hM⟩
    simp only at h1 h2 h3 hok hM
    simp only [↓sx0, sx1, encs, tys, sxR, sevalprocAttr]
    refine BrW.dec (fun hlt => ?_) (fun hlt => ?_)
    · simp only [↓sx0, sx1, encs, tys, sxR, sevalprocAttr]
      have hkb : k < b.length := by omega
      have hd : b.drop k = b[k] :: b.drop (k + 1) := List.drop_eq_getElem_cons hkb
      have hy0 : mkErr b[k] = 0 := bok _ (List.getElem_mem hkb)
      rw [hd] at hM
      refine IxW.nat hkb ?_
      simp only [↓sx0, sx1, encs, tys, sxR, sevalprocAttr]
      generalize b[k] = y0 at hM hy0 ⊢
      refine LoopW.comp [1, 5, 7, 8, 9, 10, 11, 12] (by simp only [sx2, encs, sxR, sevalprocAttr] <;> (try simp) <;> (try omega)) ?_
      simp only [sx2, sxR, sevalprocAttr]
      refine LoopW.up Tok (fun s : IS => [(12, (.v (.int .i64 s.i)))]) (fun s => [(2, mC s.y)]) (fun s => [(0, s.l.map eM)]) (fun s => []) (fun s => (s.i ≤ xs.length ∧ s.l.length = xs.length) ∧ (∀ m ∈ s.l, mkErr m = 0) ∧ mkErr s.y = 0 ∧ inL s.i (s.l.drop s.i) s.y (s.l.take s.i) = inL 0 xs y0 []) (fun s => xs.length - s.i) (⟨0, xs, y0⟩) (by simp only [sx2, encs, sxR, sevalprocAttr] <;> (try simp) <;> (try omega)) ?_ ?_
      · exact ⟨⟨by simp, rfl⟩, hok, hy0, by simp⟩
      rintro ⟨i, l, y⟩ ⟨⟨i1, i2⟩, iok, hy, hI⟩
      simp only at i1 i2 iok hy hI
      simp only [↓sx0, sx1, encs, tys, sxR, sevalprocAttr]
      refine BrW.dec (fun hlt2 => ?_) (fun hlt2 => ?_)
      · simp only [↓sx0, sx1, encs, tys, sxR, sevalprocAttr]
        have hil : i < l.length := by omega
        have hx : mkErr l[i] = 0 := iok _ (List.getElem_mem hil)
        have s1 := inL_step (y := y) hil
        have s2 := inL_bad (y := y) hil
        refine DrawW.plan Tok mixed (.q 0 <| .q 1 <| .q 2 <| .q 3 <| .q 4 <| .e2 5 [] (.q 6 <| .q 7 <| .q 8 <| .e 9 [0, 4] <| .e 10 [] <| .q 11 <| .done) 9 [0, 4] (.e 5 [] <| .q 6 <| .q 7 <| .q 8 <| .e 10 [] <| .q 11 <| .done)) (by kernel_rfl) (by kernel_rfl) ?_
        simp only [↓sx0, sx1, encs, tys, sxR, sevalprocAttr]
        repeat ((with_reducible refine Vc.go ?_ fun _ => ?_); (focus (first | omega | (simp only [InK]; omega) | (simp [InK]; done) | (simp [InK]; omega))); simp only [↓sx0, sx1, encs, tys, sxR, sevalprocAttr])
        refine IxW.nat hil ?_
        simp only [↓sx0, sx1, encs, tys, sxR, sevalprocAttr]
        have hO1 := overR_s y l[i] hy hx
        have hO2 := overR_s l[i] y hx hy
        have hsr := stepR l[i] y
        have hr1 := ovR_0 (x := l[i]) (y := y)
        have hr2 := ovR_0 (x := y) (y := l[i])
        have hok2 := step_ok hx hy
        repeat' (first | (with_reducible refine And.intro ?_ ?_) | (refine CallI.fn (hO1) (by simp only [sx3, encs, sxR, sevalprocAttr] <;> (try simp) <;> (try rfl)) ?_; (try simp only [↓sx0, sx1, encs, tys, sxR, sevalprocAttr])))
        all_goals (
          skip
          refine DrawW.plan Tok mixed (.q 0 <| .q 1 <| .q 2 <| .q 3 <| .q 4 <| .e2 5 [] (.q 6 <| .q 7 <| .q 8 <| .e 9 [3, 4] <| .e 10 [] <| .q 11 <| .done) 9 [3, 4] (.e 5 [] <| .q 6 <| .q 7 <| .q 8 <| .e 10 [] <| .q 11 <| .done)) (by kernel_rfl) (by kernel_rfl) ?_
          simp only [↓sx0, sx1, encs, tys, sxR, sevalprocAttr]
          repeat ((with_reducible refine Vc.go ?_ fun _ => ?_); (focus (first | omega | (simp only [InK]; omega) | (simp [InK]; done) | (simp [InK]; omega))); simp only [↓sx0, sx1, encs, tys, sxR, sevalprocAttr])
          refine IxW.nat hil ?_
          simp only [↓sx0, sx1, encs, tys, sxR, sevalprocAttr]
          repeat' (first | (with_reducible refine And.intro ?_ ?_) | (refine CallI.fn (hO2) (by simp only [sx3, encs, sxR, sevalprocAttr] <;> (try simp) <;> (try rfl)) ?_; (try simp only [↓sx0, sx1, encs, tys, sxR, sevalprocAttr])))
          all_goals (
            skip
            refine BrW.dec (fun c1 => ?_) (fun c1 => ?_)
            · simp only [↓sx0, sx1, encs, tys, sxR, sevalprocAttr]
              repeat ((with_reducible refine BrW.yes (by omega) ?_); (try simp only [↓sx0, sx1, encs, tys, sxR, sevalprocAttr]))
              have hs : stepE l[i] y = 13 := by rw [hsr, if_pos (.inl c1)]
              have hne : ¬ stepE l[i] y = 0 := by rw [hs]; first | omega | assumption
              have hb := mgF_no (bs := b.drop (k + 1)) (k := k) (out := out) (hI.symm.trans (s2 hne))
              rw [hb, hs] at hM
              rw [← hM]
              simp only [↓sx0, sx1, encs, tys, sxR, sevalprocAttr]
              exact EndW.fn (by simp only [sx4, encs, kpLL_map, sxR, sevalprocAttr] <;> (try simp) <;> (try omega)) (by simp only [sx4, encs, kpLL_map, sxR, sevalprocAttr] <;> (try simp) <;> (try omega))
            · simp only [↓sx0, sx1, encs, tys, sxR, sevalprocAttr]
              refine BrW.dec (fun c2 => ?_) (fun c2 => ?_)
              · have hs : stepE l[i] y = 13 := by rw [hsr, if_pos (.inr c2)]
                have hne : ¬ stepE l[i] y = 0 := by rw [hs]; first | omega | assumption
                have hb := mgF_no (bs := b.drop (k + 1)) (k := k) (out := out) (hI.symm.trans (s2 hne))
                rw [hb, hs] at hM
                rw [← hM]
                simp only [↓sx0, sx1, encs, tys, sxR, sevalprocAttr]
                exact EndW.fn (by simp only [sx4, encs, kpLL_map, sxR, sevalprocAttr] <;> (try simp) <;> (try omega)) (by simp only [sx4, encs, kpLL_map, sxR, sevalprocAttr] <;> (try simp) <;> (try omega))
              · simp only [↓sx0, sx1, encs, tys, sxR, sevalprocAttr]
                refine BrW.dec (fun z1 => ?_) (fun z1 => ?_)
                · have hs : stepE l[i] y = (ovR y l[i]).2 := by rw [hsr, if_neg (by omega), if_neg z1]
                  have hne : ¬ stepE l[i] y = 0 := by rw [hs]; first | omega | assumption
                  have hb := mgF_no (bs := b.drop (k + 1)) (k := k) (out := out) (hI.symm.trans (s2 hne))
                  rw [hb, hs] at hM
                  rw [← hM]
                  simp only [↓sx0, sx1, encs, tys, sxR, sevalprocAttr]
                  exact EndW.fn (by simp only [sx4, encs, kpLL_map, sxR, sevalprocAttr] <;> (try simp) <;> (try omega)) (by simp only [sx4, encs, kpLL_map, sxR, sevalprocAttr] <;> (try simp) <;> (try omega))
                · simp only [↓sx0, sx1, encs, tys, sxR, sevalprocAttr]
                  refine BrW.dec (fun z2 => ?_) (fun z2 => ?_)
                  · have hs : stepE l[i] y = (ovR l[i] y).2 := by rw [hsr, if_neg (by omega), if_pos (Decidable.not_not.1 z1)]
                    have hne : ¬ stepE l[i] y = 0 := by rw [hs]; first | omega | assumption
                    have hb := mgF_no (bs := b.drop (k + 1)) (k := k) (out := out) (hI.symm.trans (s2 hne))
                    rw [hb, hs] at hM
                    rw [← hM]
                    simp only [↓sx0, sx1, encs, tys, sxR, sevalprocAttr]
                    exact EndW.fn (by simp only [sx4, encs, kpLL_map, sxR, sevalprocAttr] <;> (try simp) <;> (try omega)) (by simp only [sx4, encs, kpLL_map, sxR, sevalprocAttr] <;> (try simp) <;> (try omega))
                  · have z1 := Decidable.not_not.1 z1
                    have z2 := Decidable.not_not.1 z2
                    have h0 : stepE l[i] y = 0 := by rw [hsr, if_neg (by omega), if_pos z1, z2]
                    obtain ⟨k1, k2⟩ := hok2 h0
                    have s3 := s1 h0
                    rw [← hr1 z2] at s3 k1
                    rw [← hr2 z1] at s3 k2
                    have hmm := modM hil (ovR l[i] y).1
                    simp only [eM] at hmm
                    simp only [↓sx0, sx1, encs, tys, sxR, sevalprocAttr]
                    refine DrawW.plan Tok mixed (.q 0 <| .q 1 <| .q 2 <| .q 3 <| .e 4 [3] <| .q 5 <| .e 6 [] <| .done) (by kernel_rfl) (by kernel_rfl) ?_
                    simp only [↓sx0, sx1, encs, tys, sxR, sevalprocAttr]
                    repeat ((with_reducible refine Vc.go ?_ fun _ => ?_); (focus (first | omega | (simp only [InK]; omega) | (simp [InK]; done) | (simp [InK]; omega))); simp only [↓sx0, sx1, encs, tys, sxR, sevalprocAttr])
                    refine ⟨⟨i + 1, l.set i (ovR l[i] y).1, (ovR y l[i]).1⟩, StLe.auto (by simp only [sx2, encs, sxR, sevalprocAttr] <;> (try simp [hmm, eM, encs]) <;> (try omega)), ?_, ?_⟩
                    · exact ⟨⟨by simp only; omega, by simp; omega⟩, set_ok iok k1, k2, by rw [← s3]; exact hI⟩
                    · simp only; omega ) )
      · have hie : i = l.length := by omega
        subst hie
        rw [List.drop_length, List.take_length, inL] at hI
        rw [mgF_ok hI.symm] at hM
        simp only [↓sx0, sx1, encs, tys, sxR, sevalprocAttr]
        repeat ((with_reducible refine Vc.go ?_ fun _ => ?_); (focus (first | omega | (simp only [InK]; omega) | (simp [InK]; done) | (simp [InK]; omega))); simp only [↓sx0, sx1, encs, tys, sxR, sevalprocAttr])
        refine ⟨⟨k + 1, l, out ++ [y]⟩, StLe.auto (by simp only [sx2, encs, sxR, sevalprocAttr] <;> (try simp [eM, encs]) <;> (try omega)), ?_, ?_⟩
        · exact ⟨⟨by simp only; omega, by simp only; omega, by simp; omega⟩, iok, hM⟩
        · simp only; omega
    · have hke : k = b.length := by omega
      subst hke
      rw [List.drop_length, mgF] at hM
      rw [← hM]
      simp only [↓sx0, sx1, encs, tys, sxR, sevalprocAttr]
      refine DrawW.plan Tok mixed (.q 0 <| .q 1 <| .q 2 <| .e 3 [] <| .q 4 <| .done) (by kernel_rfl) (by kernel_rfl) ?_
      simp only [↓sx0, sx1, encs, tys, sxR, sevalprocAttr]
      exact EndW.fn (by simp only [sx4, encs, kpLL_map, sxR, sevalprocAttr] <;> (try simp) <;> (try omega)) (by simp only [sx4, encs, kpLL_map, sxR, sevalprocAttr] <;> (try simp) <;> (try omega))
theorem mgF_len : ∀ (bs : List Mk) (k : Nat) (xs out : List Mk), (mgF bs k xs out).1.length ≤ out.length + bs.length
  | [], k, xs, out => by simp [mgF]
  | y :: bs, k, xs, out => by
    unfold mgF
    split
    · rename_i xs' y' _
      have := mgF_len bs (k + 1) xs' (out ++ [y'])
      simp only [List.length_append, List.length_cons, List.length_nil] at this ⊢
      omega
    · simp
theorem mgV_len (a b : List Mk) : (mgV a b).1.length ≤ a.length + b.length := by
  unfold mgV
  split
  · split
    · simp
    · exact mgF_len b 0 a a
  · simp
set_option maxHeartbeats 8000000 in
theorem mergesLaw_s (a b : List Mk) (ha : a.length ≤ maxLen) (hb : b.length ≤ maxLen) : Ctr Try.prog 12 [.sl true 7 (a.map eM), .sl true 7 (b.map eM)] (fun rr => rr = ⟨(.v (.bool (true))), []⟩) := by
  have encs := And.intro encs (And.intro (show ∀ p, prI p = .agg [.v (.int .i64 p.1), .v (.int .i64 p.2)] from fun _ => rfl) prE)
  refine Ctr.of (rs := [.tmp 4]) Tok true Try.func12 rfl rfl rfl rfl (by simp [ofDL]) (fun w0 kp => ?_)
  simp only [↓sx0, sx1, encs, tys, sxR, sevalprocAttr]
  refine CallI.fn (awake_s) (by simp only [sx3, encs, sxR, sevalprocAttr] <;> (try simp) <;> (try rfl)) ?_
  simp only [↓sx0, sx1, encs, tys, sxR, sevalprocAttr]
  refine CallI.fn (few_s true a ha) (by simp only [sx3, encs, sxR, sevalprocAttr] <;> (try simp) <;> (try rfl)) ?_
  simp only [↓sx0, sx1, encs, tys, sxR, sevalprocAttr]
  refine BrW.of (fun fa => ?_) (fun fa => ?_)
  · obtain ⟨za, na⟩ := few_all fa
    simp only [↓sx0, sx1, encs, tys, sxR, sevalprocAttr]
    repeat ((with_reducible refine BrW.tt fa ?_); simp only [↓sx0, sx1, encs, tys, sxR, sevalprocAttr])
    refine CallI.fn (few_s true b hb) (by simp only [sx3, encs, sxR, sevalprocAttr] <;> (try simp) <;> (try rfl)) ?_
    simp only [↓sx0, sx1, encs, tys, sxR, sevalprocAttr]
    refine BrW.of (fun fb => ?_) (fun fb => ?_)
    · obtain ⟨zb, nb⟩ := few_all fb
      simp only [↓sx0, sx1, encs, tys, sxR, sevalprocAttr]
      repeat ((with_reducible refine BrW.tt fb ?_); simp only [↓sx0, sx1, encs, tys, sxR, sevalprocAttr])
      refine CallI.fn (copyMarks_s true a (by omega)) (by simp only [sx3, encs, sxR, sevalprocAttr] <;> (try simp) <;> (try rfl)) ?_
      simp only [↓sx0, sx1, encs, tys, sxR, sevalprocAttr]
      refine CallI.fn (copyMarks_s true b (by omega)) (by simp only [sx3, encs, sxR, sevalprocAttr] <;> (try simp) <;> (try rfl)) ?_
      simp only [↓sx0, sx1, encs, tys, sxR, sevalprocAttr]
      have hI := merged_s a b za zb (by omega) (by omega)
      have cA := checkMarksR_s true a za (by omega)
      have cB := checkMarksR_s true b zb (by omega)
      have hlen := mgV_len a b
      by_cases ea : lstErr a = 0
      · by_cases eb : lstErr b = 0
        · have hR := mergedR_s true true a b ea eb
          rw [ea] at cA
          rw [eb] at cB
          generalize mgV a b = r at hI hR hlen
          obtain ⟨x, p, e⟩ := r
          simp only at hI hR hlen
          refine CallI.fn (hI) (by simp only [sx3, encs, sxR, sevalprocAttr] <;> (try simp) <;> (try rfl)) ?_
          simp only [↓sx0, sx1, encs, tys, sxR, sevalprocAttr]
          refine CallI.fn (cA) (by simp only [sx3, encs, sxR, sevalprocAttr] <;> (try simp) <;> (try rfl)) ?_
          simp only [↓sx0, sx1, encs, tys, sxR, sevalprocAttr]
          repeat ((first | (with_reducible refine BrW.no (by simp) ?_) | (with_reducible refine BrW.yes (by simp) ?_)); (try simp only [↓sx0, sx1, encs, tys, sxR, sevalprocAttr]))
          refine CallI.fn (cB) (by simp only [sx3, encs, sxR, sevalprocAttr] <;> (try simp) <;> (try rfl)) ?_
          simp only [↓sx0, sx1, encs, tys, sxR, sevalprocAttr]
          repeat ((first | (with_reducible refine BrW.no (by simp) ?_) | (with_reducible refine BrW.yes (by simp) ?_)); (try simp only [↓sx0, sx1, encs, tys, sxR, sevalprocAttr]))
          refine CallI.fn (hR) (by simp only [sx3, encs, sxR, sevalprocAttr] <;> (try simp) <;> (try rfl)) ?_
          simp only [↓sx0, sx1, encs, tys, sxR, sevalprocAttr]
          repeat ((first | (with_reducible refine BrW.no (by simp) ?_) | (with_reducible refine BrW.yes (by simp) ?_)); (try simp only [↓sx0, sx1, encs, tys, sxR, sevalprocAttr]))
          refine CallI.fn (sameM_s true true x x (by omega)) (by simp only [sx3, encs, sxR, sevalprocAttr] <;> (try simp) <;> (try rfl)) ?_
          simp only [↓sx0, sx1, encs, tys, sxR, sevalprocAttr]
          exact EndW.fn (by simp only [sx4, encs, kpLL_map, sxR, sevalprocAttr] <;> (try simp) <;> (try omega)) (by simp only [sx4, encs, kpLL_map, sxR, sevalprocAttr] <;> (try simp) <;> (try omega))
        · rw [show mgV a b = ([], (0, 0), lstErr b) by rw [mgV, mgE, if_pos ea, if_neg eb]] at hI
          rw [ea] at cA
          refine CallI.fn (hI) (by simp only [sx3, encs, sxR, sevalprocAttr] <;> (try simp) <;> (try rfl)) ?_
          simp only [↓sx0, sx1, encs, tys, sxR, sevalprocAttr]
          refine CallI.fn (cA) (by simp only [sx3, encs, sxR, sevalprocAttr] <;> (try simp) <;> (try rfl)) ?_
          simp only [↓sx0, sx1, encs, tys, sxR, sevalprocAttr]
          repeat ((first | (with_reducible refine BrW.no (by simp) ?_) | (with_reducible refine BrW.yes (by simp) ?_)); (try simp only [↓sx0, sx1, encs, tys, sxR, sevalprocAttr]))
          refine CallI.fn (cB) (by simp only [sx3, encs, sxR, sevalprocAttr] <;> (try simp) <;> (try rfl)) ?_
          simp only [↓sx0, sx1, encs, tys, sxR, sevalprocAttr]
          refine BrW.yes eb ?_
          simp only [↓sx0, sx1, encs, tys, sxR, sevalprocAttr]
          exact EndW.fn (by simp only [sx4, encs, kpLL_map, sxR, sevalprocAttr] <;> (try simp) <;> (try omega)) (by simp only [sx4, encs, kpLL_map, sxR, sevalprocAttr] <;> (try simp) <;> (try omega))
      · rw [show mgV a b = ([], (0, 0), lstErr a) by rw [mgV, mgE, if_neg ea, if_neg ea]] at hI
        refine CallI.fn (hI) (by simp only [sx3, encs, sxR, sevalprocAttr] <;> (try simp) <;> (try rfl)) ?_
        simp only [↓sx0, sx1, encs, tys, sxR, sevalprocAttr]
        refine CallI.fn (cA) (by simp only [sx3, encs, sxR, sevalprocAttr] <;> (try simp) <;> (try rfl)) ?_
        simp only [↓sx0, sx1, encs, tys, sxR, sevalprocAttr]
        refine BrW.no ea ?_
        simp only [↓sx0, sx1, encs, tys, sxR, sevalprocAttr]
        refine BrW.yes ea ?_
        simp only [↓sx0, sx1, encs, tys, sxR, sevalprocAttr]
        exact EndW.fn (by simp only [sx4, encs, kpLL_map, sxR, sevalprocAttr] <;> (try simp) <;> (try omega)) (by simp only [sx4, encs, kpLL_map, sxR, sevalprocAttr] <;> (try simp) <;> (try omega))
    · simp only [↓sx0, sx1, encs, tys, sxR, sevalprocAttr]
      repeat ((with_reducible refine BrW.ff fb ?_); simp only [↓sx0, sx1, encs, tys, sxR, sevalprocAttr])
      exact EndW.fn (by simp only [sx4, encs, kpLL_map, sxR, sevalprocAttr] <;> (try simp) <;> (try omega)) (by simp only [sx4, encs, kpLL_map, sxR, sevalprocAttr] <;> (try simp) <;> (try omega))
  · simp only [↓sx0, sx1, encs, tys, sxR, sevalprocAttr]
    repeat ((with_reducible refine BrW.ff fa ?_); simp only [↓sx0, sx1, encs, tys, sxR, sevalprocAttr])
    exact EndW.fn (by simp only [sx4, encs, kpLL_map, sxR, sevalprocAttr] <;> (try simp) <;> (try omega)) (by simp only [sx4, encs, kpLL_map, sxR, sevalprocAttr] <;> (try simp) <;> (try omega))
end Go.Proofs.Ytenohgpackcjbaa
