/-
  Chapter 8, walks: marks without one of them (reference).
-/
import Derived.Test.YtenohgpackcjbaaVW29
namespace Go.Proofs.Ytenohgpackcjbaa
open Go Go.Vx
set_option linter.unusedSimpArgs false
set_option linter.unusedVariables false
set_option maxRecDepth 20000
set_option maxHeartbeats 16000000 in
theorem stetR_s (b : Bool) (l : List Mk) (n : Int) (he : lstErr l = 0) : Ctr Try.prog 32 [.sl b 7 (l.map eM), (.v (.int .i64 n))] (fun rr => rr = ⟨.tup [.sl true 7 ((stV l n).1.map eM), (.v (.int .i64 ((stV l n).2.1))), (.v (.int .i64 ((stV l n).2.2)))], []⟩) := by
  have encs := And.intro encs (And.intro (show ∀ p, eML p = [.sl p.1 7 (p.2.map eM)] from fun _ => rfl) (And.intro (show ∀ m, mC m = [.v (.int .i64 m.mark), .v (.int .i64 m.part), .v (.int .i64 m.word), .v (.string m.old), .v (.string m.new), .v (.int .i64 m.was), .v (.int .i64 m.kind)] from fun _ => rfl) prE))
  obtain ⟨h60, hok⟩ := lst_all he
  refine Ctr.of (rs := [.tmp 4, .tmp 5, .tmp 6]) Tok true Try.func32 rfl rfl rfl rfl (by simp [ofDL]) (fun w0 kp => ?_)
  simp only [↓sx0, sx1, encs, tys, sxR, sevalprocAttr]
  repeat ((with_reducible refine Vc.go ?_ fun _ => ?_); (focus (first | omega | (simp only [InK]; omega) | (simp [InK]; done) | (simp [InK]; omega))); simp only [↓sx0, sx1, encs, tys, sxR, sevalprocAttr])
  refine CallI.fn (withinB_s n 0 ((l.length : Int) - 1)) (by simp only [sx3, encs, sxR, sevalprocAttr] <;> (try simp) <;> (try rfl)) ?_
  simp only [↓sx0, sx1, encs, tys, sxR, sevalprocAttr]
  refine BrW.of (fun hw => ?_) (fun hw => ?_)
  · have hw : 0 ≤ n ∧ n ≤ (l.length : Int) - 1 := by simpa using hw
    rw [show stV l n = stF (l.getD n.toNat mk0) (l.drop (n.toNat + 1)) (n.toNat + 1) (l.take n.toNat) by rw [stV, if_pos he, if_pos hw]]
    obtain ⟨k, rfl⟩ : ∃ k : Nat, n = k := ⟨n.toNat, by omega⟩
    have hkl : k < l.length := by omega
    have hgd : l.getD k mk0 = l[k] := by simp [List.getD_eq_getElem?_getD, hkl]
    rw [Int.toNat_natCast, hgd]
    simp only [↓sx0, sx1, encs, tys, sxR, sevalprocAttr]
    repeat ((with_reducible refine Vc.go ?_ fun _ => ?_); (focus (first | omega | (simp only [InK]; omega) | (simp [InK]; done) | (simp [InK]; omega))); simp only [↓sx0, sx1, encs, tys, sxR, sevalprocAttr])
    refine IxW.nat hkl ?_
    simp only [↓sx0, sx1, encs, tys, sxR, sevalprocAttr]
    repeat ((with_reducible refine Vc.go ?_ fun _ => ?_); (focus (first | omega | (simp only [InK]; omega) | (simp [InK]; done) | (simp [InK]; omega))); simp only [↓sx0, sx1, encs, tys, sxR, sevalprocAttr])
    have hkt : (l.take k).length = k := by simp; omega
    refine LoopW.comp [0, 7, 8, 9] (by simp only [sx2, encs, sxR, sevalprocAttr] <;> (try simp) <;> (try omega)) ?_
    simp only [sx2, sxR, sevalprocAttr]
    refine LoopW.up Tok (fun s : SS => [(7, .row 0), (9, (.v (.int .i64 s.i)))]) (fun s => [(0, mC s.m)]) (fun s => [(0, s.out.map eM)]) (fun s => []) (fun s => (k < s.i ∧ s.i ≤ l.length ∧ s.out.length ≤ s.i) ∧ mkErr s.m = 0 ∧ stF s.m (l.drop s.i) s.i s.out = stF l[k] (l.drop (k + 1)) (k + 1) (l.take k)) (fun s => l.length - s.i) (⟨k + 1, l[k], l.take k⟩) (by simp only [sx2, encs, sxR, sevalprocAttr] <;> (try simp) <;> (try omega)) ?_ ?_
    · exact ⟨⟨by simp, by simp; omega, by simp; omega⟩, hok _ (List.getElem_mem hkl), rfl⟩
    rintro ⟨i, m, out⟩ ⟨⟨h1, h2, h3⟩, hm, hS⟩
    simp only at h1 h2 h3 hm hS
    simp only [↓sx0, sx1, encs, tys, sxR, sevalprocAttr]
    refine BrW.dec (fun hlt => ?_) (fun hlt => ?_)
    · simp only [↓sx0, sx1, encs, tys, sxR, sevalprocAttr]
      have hil : i < l.length := by omega
      have hx : mkErr l[i] = 0 := hok _ (List.getElem_mem hil)
      have hd : l.drop i = l[i] :: l.drop (i + 1) := List.drop_eq_getElem_cons hil
      refine DrawW.plan Tok mixed (.q 0 <| .q 1 <| .q 2 <| .q 3 <| .q 4 <| .e3 5 [] (.q 6 <| .q 7 <| .q 8 <| .q 9 <| .e2 10 [0, 4] (.e 11 [0, 4] <| .e 12 [] <| .e 13 [] <| .q 14 <| .done) 11 [0, 4] (.e 10 [0, 4] <| .e 12 [] <| .e 13 [] <| .q 14 <| .done)) 10 [0, 4] (.e2 5 [] (.q 6 <| .q 7 <| .q 8 <| .q 9 <| .e 11 [0, 4] <| .e 12 [] <| .e 13 [] <| .q 14 <| .done) 11 [0, 4] (.e 5 [] <| .q 6 <| .q 7 <| .q 8 <| .q 9 <| .e 12 [] <| .e 13 [] <| .q 14 <| .done)) 11 [0, 4] (.e2 5 [] (.q 6 <| .q 7 <| .q 8 <| .q 9 <| .e 10 [0, 4] <| .e 12 [] <| .e 13 [] <| .q 14 <| .done) 10 [0, 4] (.e 5 [] <| .q 6 <| .q 7 <| .q 8 <| .q 9 <| .e 12 [] <| .e 13 [] <| .q 14 <| .done))) (by kernel_rfl) (by kernel_rfl) ?_
      simp only [↓sx0, sx1, encs, tys, sxR, sevalprocAttr]
      refine IxW.nat hil ?_
      generalize l[i] = x at hx hd ⊢
      rw [hd, stF] at hS
      have hC := SwappedR_s m x hm hx
      have hsw := swap_ok hm hx
      generalize swapF (orderP m x) = w at hS hC hsw ⊢
      obtain ⟨⟨u, v⟩, e⟩ := w
      simp only at hS hC hsw
      simp only [↓sx0, sx1, encs, tys, sxR, sevalprocAttr]
      refine And.intro ?_ (And.intro ?_ ?_)
      · skip
        refine CallI.fn (hC) (by simp only [sx3, encs, sxR, sevalprocAttr] <;> (try simp) <;> (try rfl)) ?_
        simp only [↓sx0, sx1, encs, tys, sxR, sevalprocAttr]
        refine And.intro ?_ ?_
        all_goals (
          skip
          refine BrW.dec (fun hw => ?_) (fun hw => ?_)
          · rw [if_neg hw] at hS
            rw [← hS]
            simp only [↓sx0, sx1, encs, tys, sxR, sevalprocAttr]
            exact EndW.fn (by simp only [sx4, encs, kpLL_map, sxR, sevalprocAttr] <;> (try simp) <;> (try omega)) (by simp only [sx4, encs, kpLL_map, sxR, sevalprocAttr] <;> (try simp) <;> (try omega))
          · have hw := Decidable.not_not.1 hw
            rw [if_pos hw] at hS
            simp only [↓sx0, sx1, encs, tys, sxR, sevalprocAttr]
            refine DrawW.plan Tok mixed (.q 0 <| .q 1 <| .q 4 <| .e 2 [4] <| .e 3 [4] <| .q 5 <| .e 6 [] <| .done) (by kernel_rfl) (by kernel_rfl) ?_
            simp only [↓sx0, sx1, encs, tys, sxR, sevalprocAttr]
            repeat ((with_reducible refine Vc.go ?_ fun _ => ?_); (focus (first | trivial | omega | (simp only [InK]; omega) | (simp [InK]; done) | (simp [InK]; omega))); simp only [↓sx0, sx1, encs, tys, sxR, sevalprocAttr])
            refine ⟨⟨i + 1, v, out ++ [u]⟩, StLe.auto (by simp only [sx2, encs, sxR, sevalprocAttr] <;> (try simp [eM, encs]) <;> (try omega)), ?_, ?_⟩
            · exact ⟨⟨by simp only; omega, by simp only; omega, by simp; omega⟩, (hsw hw).2, hS⟩
            · simp only; omega )
      all_goals (
        skip
        refine And.intro ?_ ?_
        all_goals (
          skip
          refine CallI.fn (hC) (by simp only [sx3, encs, sxR, sevalprocAttr] <;> (try simp) <;> (try rfl)) ?_
          simp only [↓sx0, sx1, encs, tys, sxR, sevalprocAttr]
          refine BrW.dec (fun hw => ?_) (fun hw => ?_)
          · rw [if_neg hw] at hS
            rw [← hS]
            simp only [↓sx0, sx1, encs, tys, sxR, sevalprocAttr]
            exact EndW.fn (by simp only [sx4, encs, kpLL_map, sxR, sevalprocAttr] <;> (try simp) <;> (try omega)) (by simp only [sx4, encs, kpLL_map, sxR, sevalprocAttr] <;> (try simp) <;> (try omega))
          · have hw := Decidable.not_not.1 hw
            rw [if_pos hw] at hS
            simp only [↓sx0, sx1, encs, tys, sxR, sevalprocAttr]
            refine DrawW.plan Tok mixed (.q 0 <| .q 1 <| .q 4 <| .e 2 [4] <| .e 3 [4] <| .q 5 <| .e 6 [] <| .done) (by kernel_rfl) (by kernel_rfl) ?_
            simp only [↓sx0, sx1, encs, tys, sxR, sevalprocAttr]
            repeat ((with_reducible refine Vc.go ?_ fun _ => ?_); (focus (first | trivial | omega | (simp only [InK]; omega) | (simp [InK]; done) | (simp [InK]; omega))); simp only [↓sx0, sx1, encs, tys, sxR, sevalprocAttr])
            refine ⟨⟨i + 1, v, out ++ [u]⟩, StLe.auto (by simp only [sx2, encs, sxR, sevalprocAttr] <;> (try simp [eM, encs]) <;> (try omega)), ?_, ?_⟩
            · exact ⟨⟨by simp only; omega, by simp only; omega, by simp; omega⟩, (hsw hw).2, hS⟩
            · simp only; omega ) )
    · simp only [↓sx0, sx1, encs, tys, sxR, sevalprocAttr]
      have hie : i = l.length := by omega
      subst hie
      rw [List.drop_length, stF] at hS
      rw [← hS]
      exact EndW.fn (by simp only [sx4, encs, kpLL_map, sxR, sevalprocAttr] <;> (try simp) <;> (try omega)) (by simp only [sx4, encs, kpLL_map, sxR, sevalprocAttr] <;> (try simp) <;> (try omega))
  · have hw : ¬ (0 ≤ n ∧ n ≤ (l.length : Int) - 1) := by simpa using hw
    rw [show stV l n = ([], 0, 6) by rw [stV, if_pos he, if_neg hw]]
    simp only [↓sx0, sx1, encs, tys, sxR, sevalprocAttr]
    exact EndW.fn (by simp only [sx4, encs, kpLL_map, sxR, sevalprocAttr] <;> (try simp) <;> (try omega)) (by simp only [sx4, encs, kpLL_map, sxR, sevalprocAttr] <;> (try simp) <;> (try omega))
theorem stetsLaw_s (l : List Mk) (n : Int) (hl : l.length ≤ maxLen) : Ctr Try.prog 7 [.sl true 7 (l.map eM), (.v (.int .i64 n))] (fun rr => rr = ⟨(.v (.bool (true))), []⟩) := by
  refine Ctr.of (rs := [.tmp 4]) Tok true Try.func7 rfl rfl rfl rfl (by simp [ofDL]) (fun w0 kp => ?_)
  simp only [↓sx0, sx1, encs, tys, sxR, sevalprocAttr]
  refine CallI.fn (awake_s) (by simp only [sx3, encs, sxR, sevalprocAttr] <;> (try simp) <;> (try rfl)) ?_
  simp only [↓sx0, sx1, encs, tys, sxR, sevalprocAttr]
  refine CallI.fn (few_s true l hl) (by simp only [sx3, encs, sxR, sevalprocAttr] <;> (try simp) <;> (try rfl)) ?_
  simp only [↓sx0, sx1, encs, tys, sxR, sevalprocAttr]
  refine BrW.of (fun hf => ?_) (fun hf => ?_)
  · obtain ⟨hz, hn⟩ := few_all hf
    simp only [↓sx0, sx1, encs, tys, sxR, sevalprocAttr]
    refine CallI.fn (copyMarks_s true l (by omega)) (by simp only [sx3, encs, sxR, sevalprocAttr] <;> (try simp) <;> (try rfl)) ?_
    simp only [↓sx0, sx1, encs, tys, sxR, sevalprocAttr]
    have hI := stet_s l n hz (by omega)
    have hC := checkMarksR_s true l hz (by omega)
    by_cases he : lstErr l = 0
    · have hR := stetR_s true l n he
      rw [he] at hC
      have hlen : (stV l n).1.length ≤ 1000000000 := by
        have := stV_len l n
        omega
      generalize stV l n = r at hI hR hlen
      obtain ⟨x, i, e⟩ := r
      simp only at hI hR hlen
      refine CallI.fn (hI) (by simp only [sx3, encs, sxR, sevalprocAttr] <;> (try simp) <;> (try rfl)) ?_
      simp only [↓sx0, sx1, encs, tys, sxR, sevalprocAttr]
      refine CallI.fn (hC) (by simp only [sx3, encs, sxR, sevalprocAttr] <;> (try simp) <;> (try rfl)) ?_
      simp only [↓sx0, sx1, encs, tys, sxR, sevalprocAttr]
      repeat ((first | (with_reducible refine BrW.no (by simp) ?_) | (with_reducible refine BrW.yes (by simp) ?_)); (try simp only [↓sx0, sx1, encs, tys, sxR, sevalprocAttr]))
      refine CallI.fn (hR) (by simp only [sx3, encs, sxR, sevalprocAttr] <;> (try simp) <;> (try rfl)) ?_
      simp only [↓sx0, sx1, encs, tys, sxR, sevalprocAttr]
      refine CallI.fn (sameM_s true true x x hlen) (by simp only [sx3, encs, sxR, sevalprocAttr] <;> (try simp) <;> (try rfl)) ?_
      simp only [↓sx0, sx1, encs, tys, sxR, sevalprocAttr]
      exact EndW.fn (by simp only [sx4, encs, kpLL_map, sxR, sevalprocAttr] <;> (try simp) <;> (try omega)) (by simp only [sx4, encs, kpLL_map, sxR, sevalprocAttr] <;> (try simp) <;> (try omega))
    · rw [show stV l n = ([], 0, lstErr l) by rw [stV, if_neg he]] at hI
      refine CallI.fn (hI) (by simp only [sx3, encs, sxR, sevalprocAttr] <;> (try simp) <;> (try rfl)) ?_
      simp only [↓sx0, sx1, encs, tys, sxR, sevalprocAttr]
      refine CallI.fn (hC) (by simp only [sx3, encs, sxR, sevalprocAttr] <;> (try simp) <;> (try rfl)) ?_
      simp only [↓sx0, sx1, encs, tys, sxR, sevalprocAttr]
      refine BrW.yes he ?_
      simp only [↓sx0, sx1, encs, tys, sxR, sevalprocAttr]
      exact EndW.fn (by simp only [sx4, encs, kpLL_map, sxR, sevalprocAttr] <;> (try simp) <;> (try omega)) (by simp only [sx4, encs, kpLL_map, sxR, sevalprocAttr] <;> (try simp) <;> (try omega))
  · simp only [↓sx0, sx1, encs, tys, sxR, sevalprocAttr]
    exact EndW.fn (by simp only [sx4, encs, kpLL_map, sxR, sevalprocAttr] <;> (try simp) <;> (try omega)) (by simp only [sx4, encs, kpLL_map, sxR, sevalprocAttr] <;> (try simp) <;> (try omega))
end Go.Proofs.Ytenohgpackcjbaa
