/-
  Chapter 8, walks: the law of inverses.
-/
import Derived.Test.YtenohgpackcjbaaVGF
namespace Go.Proofs.Ytenohgpackcjbaa
open Go Go.Vx
set_option linter.unusedSimpArgs false
set_option linter.unusedVariables false
set_option maxRecDepth 20000
theorem mkErr_of {m : Mk} (h1 : 1 ≤ m.mark ∧ m.mark ≤ 7) (h2 : inR m = true) (h3 : wantB m.mark m.old m.new m.was m.kind = true) (h4 : bdE m = 0) : mkErr m = 0 := by
  rw [mkErr, if_pos h1, if_pos h2, if_pos]
  refine ⟨h3, fun h => ?_, fun h => ?_⟩
  · rw [bdE, if_pos (.inl h)] at h4; omega
  · rw [bdE, if_pos (.inr h)] at h4; omega
theorem inR_inv (m : Mk) : inR (invM m) = inR m := rfl
theorem mkErr_inv {m : Mk} (h : mkErr m = 0) : mkErr (invM m) = 0 := by
  obtain ⟨h1, h2, h3, h4⟩ := mk_ok h
  obtain ⟨k, p, w, o, n, a, c⟩ := m
  simp only at h1 h3
  have hb : ∀ x y : Int, ∀ s t : ByteArray, ∀ u v : Int, bdE ⟨x, p, w, s, t, u, v⟩ = if ((x = 5 ∨ x = 6) ∧ w = 0) ∨ (x = 7 ∧ w ≠ 0) then 3 else 0 := fun x y s t u v => by simp [bdE, ptsB]
  rw [hb _ 0] at h4
  have hc : k = 1 ∨ k = 2 ∨ k = 3 ∨ k = 4 ∨ k = 5 ∨ k = 6 ∨ k = 7 := by omega
  refine mkErr_of ?_ (by rw [inR_inv]; exact h2) ?_ ?_
  · rcases hc with rfl | rfl | rfl | rfl | rfl | rfl | rfl <;> simp [invM, invK]
  · rcases hc with rfl | rfl | rfl | rfl | rfl | rfl | rfl <;> simp [invM, invK, wantB] at h3 ⊢
    · exact h3
    · exact h3
    · exact ⟨⟨⟨h3.1.1.2, h3.1.1.1⟩, fun e => h3.1.2 e.symm⟩, h3.2⟩
    · exact ⟨h3.2.1, h3.1, h3.2.2⟩
    · exact ⟨h3.1, h3.2.2.1, h3.2.1, h3.2.2.2⟩
    · exact ⟨h3.1, h3.2.2.1, h3.2.1, h3.2.2.2⟩
    · exact ⟨⟨⟨h3.1.1.2, h3.1.1.1⟩, fun e => h3.1.2 e.symm⟩, h3.2.2, h3.2.1⟩
  · simp only [invM]
    rw [hb _ 0]
    rcases hc with rfl | rfl | rfl | rfl | rfl | rfl | rfl <;> simp [invK] at h4 ⊢ <;> omega
set_option maxHeartbeats 8000000 in
theorem inversesLaw_s (l : List Mk) (hl : l.length ≤ maxLen) : Ctr Try.prog 9 [.sl true 7 (l.map eM)] (fun rr => rr = ⟨(.v (.bool (true))), []⟩) := by
  have encs := And.intro encs prE
  refine Ctr.of (rs := [.tmp 2]) Tok true Try.func9 rfl rfl rfl rfl (by simp [ofDL]) (fun w0 kp => ?_)
  simp only [↓sx0, sx1, encs, tys, sxR, sevalprocAttr]
  refine CallI.fn (awake_s) (by simp only [sx3, encs, sxR, sevalprocAttr] <;> (try simp) <;> (try rfl)) ?_
  simp only [↓sx0, sx1, encs, tys, sxR, sevalprocAttr]
  refine CallI.fn (few_s true l hl) (by simp only [sx3, encs, sxR, sevalprocAttr] <;> (try simp) <;> (try rfl)) ?_
  simp only [↓sx0, sx1, encs, tys, sxR, sevalprocAttr]
  refine BrW.of (fun hf => ?_) (fun hf => ?_)
  · obtain ⟨hz, hn⟩ := few_all hf
    simp only [↓sx0, sx1, encs, tys, sxR, sevalprocAttr]
    refine CallI.fn (copyMarks_s true l (by omega)) (by simp only [sx3, encs, sxR, sevalprocAttr] <;> (try simp) <;> (try rfl)) ?_
    simp only [↓sx0, sx1, encs, tys, sxR, sevalprocAttr]
    have hI := InverseAll_s l hz (by omega)
    by_cases he : lstErr l = 0
    · have hC := checkMarksR_s true l hz (by omega)
      rw [show mkIs l = ((l.map invM).reverse, 0) by rw [mkIs, if_pos he]] at hI
      rw [he] at hC
      refine CallI.fn (hI) (by simp only [sx3, encs, sxR, sevalprocAttr] <;> (try simp) <;> (try rfl)) ?_
      simp only [↓sx0, sx1, encs, tys, sxR, sevalprocAttr]
      refine CallI.fn (hC) (by simp only [sx3, encs, sxR, sevalprocAttr] <;> (try simp) <;> (try rfl)) ?_
      simp only [↓sx0, sx1, encs, tys, sxR, sevalprocAttr]
      repeat ((first | (with_reducible refine BrW.no (by simp) ?_) | (with_reducible refine BrW.yes (by simp) ?_)); (try simp only [↓sx0, sx1, encs, tys, sxR, sevalprocAttr]))
      refine CallI.fn (InverseAllR_s true l (by omega)) (by simp only [sx3, encs, sxR, sevalprocAttr] <;> (try simp) <;> (try rfl)) ?_
      simp only [↓sx0, sx1, encs, tys, sxR, sevalprocAttr]
      refine CallI.fn (sameM_s true true (l.map invM).reverse (l.map invM).reverse (by simp; omega)) (by simp only [sx3, encs, sxR, sevalprocAttr] <;> (try simp) <;> (try rfl)) ?_
      simp only [↓sx0, sx1, encs, tys, sxR, sevalprocAttr]
      repeat ((first | (with_reducible refine BrW.no (by simp) ?_) | (with_reducible refine BrW.yes (by simp) ?_)); (try simp only [↓sx0, sx1, encs, tys, sxR, sevalprocAttr]))
      refine LoopW.comp [0, 6] (by simp only [sx2, encs, sxR, sevalprocAttr] <;> (try simp) <;> (try omega)) ?_
      simp only [sx2, sxR, sevalprocAttr]
      refine LoopW.up Tok (fun k : Nat => [(6, (.v (.int .i64 k)))]) (fun k => []) (fun k => []) (fun k => []) (fun k => k ≤ l.length ∧ k ≤ 8) (fun k => l.length - k) (0) (by simp only [sx2, encs, sxR, sevalprocAttr] <;> (try simp) <;> (try omega)) ?_ ?_
      · exact ⟨by omega, by omega⟩
      rintro k ⟨hk, hk8⟩
      simp only [↓sx0, sx1, encs, tys, sxR, sevalprocAttr]
      refine BrW.dec (fun hlt => ?_) (fun hlt => ?_)
      · simp only [↓sx0, sx1, encs, tys, sxR, sevalprocAttr]
        refine BrW.dec (fun h8 => ?_) (fun h8 => ?_)
        · simp only [↓sx0, sx1, encs, tys, sxR, sevalprocAttr]
          have hkl : k < l.length := by omega
          have hzm : MkSz l[k] := hz _ (List.getElem_mem hkl)
          have hIm := Inverse_s l[k] hzm
          have cM := checkMarkR_s l[k] hzm
          refine IxW.nat hkl ?_
          simp only [↓sx0, sx1, encs, tys, sxR, sevalprocAttr]
          by_cases hm : mkErr l[k] = 0
          · have hIm2 := Inverse_s (invM l[k]) (invM_sz hzm)
            rw [show mkI (invM l[k]) = (l[k], 0) by rw [mkI, if_pos (mkErr_inv hm), invM_inv]] at hIm2
            rw [show mkI l[k] = (invM l[k], 0) by rw [mkI, if_pos hm]] at hIm
            rw [hm] at cM
            refine CallI.fn (hIm) (by simp only [sx3, encs, sxR, sevalprocAttr] <;> (try simp) <;> (try rfl)) ?_
            simp only [↓sx0, sx1, encs, tys, sxR, sevalprocAttr]
            refine IxW.nat hkl ?_
            simp only [↓sx0, sx1, encs, tys, sxR, sevalprocAttr]
            refine CallI.fn (cM) (by simp only [sx3, encs, sxR, sevalprocAttr] <;> (try simp) <;> (try rfl)) ?_
            simp only [↓sx0, sx1, encs, tys, sxR, sevalprocAttr]
            repeat ((first | (with_reducible refine BrW.no (by simp) ?_) | (with_reducible refine BrW.yes (by simp) ?_)); (try simp only [↓sx0, sx1, encs, tys, sxR, sevalprocAttr]))
            refine CallI.fn (hIm2) (by simp only [sx3, encs, sxR, sevalprocAttr] <;> (try simp) <;> (try rfl)) ?_
            simp only [↓sx0, sx1, encs, tys, sxR, sevalprocAttr]
            refine DrawW.plan Tok mixed (.q 0 <| .q 1 <| .q 2 <| .q 3 <| .q 4 <| .q 5 <| .q 6 <| .q 7 <| .e 8 [3] <| .q 9 <| .q 10 <| .q 11 <| .q 12 <| .q 13 <| .q 14 <| .q 15 <| .q 16 <| .q 17 <| .q 18 <| .q 19 <| .q 20 <| .q 21 <| .q 22 <| .done) (by kernel_rfl) (by kernel_rfl) ?_
            simp only [↓sx0, sx1, encs, tys, sxR, sevalprocAttr]
            repeat ((first | (with_reducible refine BrW.no (by simp) ?_) | (with_reducible refine BrW.yes (by simp) ?_)); (try simp only [↓sx0, sx1, encs, tys, sxR, sevalprocAttr]))
            refine IxW.nat hkl ?_
            simp only [↓sx0, sx1, encs, tys, sxR, sevalprocAttr]
            refine CallI.fn (inverseR_s l[k]) (by simp only [sx3, encs, sxR, sevalprocAttr] <;> (try simp) <;> (try rfl)) ?_
            simp only [↓sx0, sx1, encs, tys, sxR, sevalprocAttr]
            repeat ((first | (with_reducible refine BrW.no (by simp) ?_) | (with_reducible refine BrW.yes (by simp) ?_)); (try simp only [↓sx0, sx1, encs, tys, sxR, sevalprocAttr]))
            refine IxW.nat hkl ?_
            simp only [↓sx0, sx1, encs, tys, sxR, sevalprocAttr]
            repeat ((first | (with_reducible refine BrW.no (by simp) ?_) | (with_reducible refine BrW.yes (by simp) ?_)); (try simp only [↓sx0, sx1, encs, tys, sxR, sevalprocAttr]))
            repeat ((with_reducible refine Vc.go ?_ fun _ => ?_); (focus (first | omega | (simp only [InK]; omega) | (simp [InK]; done) | (simp [InK]; omega))); simp only [↓sx0, sx1, encs, tys, sxR, sevalprocAttr])
            refine ⟨k + 1, StLe.auto (by simp only [sx2, encs, sxR, sevalprocAttr] <;> (try simp) <;> (try omega)), ?_, ?_⟩
            · exact ⟨by omega, by omega⟩
            · omega
          · rw [show mkI l[k] = (mk0, mkErr l[k]) by rw [mkI, if_neg hm]] at hIm
            refine CallI.fn (hIm) (by simp only [sx3, encs, sxR, sevalprocAttr] <;> (try simp) <;> (try rfl)) ?_
            simp only [↓sx0, sx1, encs, tys, sxR, sevalprocAttr]
            refine IxW.nat hkl ?_
            simp only [↓sx0, sx1, encs, tys, sxR, sevalprocAttr]
            refine CallI.fn (cM) (by simp only [sx3, encs, sxR, sevalprocAttr] <;> (try simp) <;> (try rfl)) ?_
            simp only [↓sx0, sx1, encs, tys, sxR, sevalprocAttr]
            refine BrW.yes hm ?_
            simp only [↓sx0, sx1, encs, tys, sxR, sevalprocAttr]
            repeat ((first | (with_reducible refine BrW.no (by simp) ?_) | (with_reducible refine BrW.yes (by simp) ?_)); (try simp only [↓sx0, sx1, encs, tys, sxR, sevalprocAttr]))
            repeat ((with_reducible refine Vc.go ?_ fun _ => ?_); (focus (first | omega | (simp only [InK]; omega) | (simp [InK]; done) | (simp [InK]; omega))); simp only [↓sx0, sx1, encs, tys, sxR, sevalprocAttr])
            refine ⟨k + 1, StLe.auto (by simp only [sx2, encs, sxR, sevalprocAttr] <;> (try simp) <;> (try omega)), ?_, ?_⟩
            · exact ⟨by omega, by omega⟩
            · omega
        · simp only [↓sx0, sx1, encs, tys, sxR, sevalprocAttr]
          exact EndW.fn (by simp only [sx4, encs, kpLL_map, sxR, sevalprocAttr] <;> (try simp) <;> (try omega)) (by simp only [sx4, encs, kpLL_map, sxR, sevalprocAttr] <;> (try simp) <;> (try omega))
      · simp only [↓sx0, sx1, encs, tys, sxR, sevalprocAttr]
        exact EndW.fn (by simp only [sx4, encs, kpLL_map, sxR, sevalprocAttr] <;> (try simp) <;> (try omega)) (by simp only [sx4, encs, kpLL_map, sxR, sevalprocAttr] <;> (try simp) <;> (try omega))
    · have hC := checkMarksR_s true l hz (by omega)
      rw [show mkIs l = ([], lstErr l) by rw [mkIs, if_neg he]] at hI
      refine CallI.fn (hI) (by simp only [sx3, encs, sxR, sevalprocAttr] <;> (try simp) <;> (try rfl)) ?_
      simp only [↓sx0, sx1, encs, tys, sxR, sevalprocAttr]
      refine CallI.fn (hC) (by simp only [sx3, encs, sxR, sevalprocAttr] <;> (try simp) <;> (try rfl)) ?_
      simp only [↓sx0, sx1, encs, tys, sxR, sevalprocAttr]
      refine BrW.yes he ?_
      simp only [↓sx0, sx1, encs, tys, sxR, sevalprocAttr]
      repeat ((first | (with_reducible refine BrW.no (by simp) ?_) | (with_reducible refine BrW.yes (by simp) ?_)); (try simp only [↓sx0, sx1, encs, tys, sxR, sevalprocAttr]))
      refine BrW.no he ?_
      simp only [↓sx0, sx1, encs, tys, sxR, sevalprocAttr]
      refine LoopW.comp [0, 6] (by simp only [sx2, encs, sxR, sevalprocAttr] <;> (try simp) <;> (try omega)) ?_
      simp only [sx2, sxR, sevalprocAttr]
      refine LoopW.up Tok (fun k : Nat => [(6, (.v (.int .i64 k)))]) (fun k => []) (fun k => []) (fun k => []) (fun k => k ≤ l.length ∧ k ≤ 8) (fun k => l.length - k) (0) (by simp only [sx2, encs, sxR, sevalprocAttr] <;> (try simp) <;> (try omega)) ?_ ?_
      · exact ⟨by omega, by omega⟩
      rintro k ⟨hk, hk8⟩
      simp only [↓sx0, sx1, encs, tys, sxR, sevalprocAttr]
      refine BrW.dec (fun hlt => ?_) (fun hlt => ?_)
      · simp only [↓sx0, sx1, encs, tys, sxR, sevalprocAttr]
        refine BrW.dec (fun h8 => ?_) (fun h8 => ?_)
        · simp only [↓sx0, sx1, encs, tys, sxR, sevalprocAttr]
          have hkl : k < l.length := by omega
          have hzm : MkSz l[k] := hz _ (List.getElem_mem hkl)
          have hIm := Inverse_s l[k] hzm
          have cM := checkMarkR_s l[k] hzm
          refine IxW.nat hkl ?_
          simp only [↓sx0, sx1, encs, tys, sxR, sevalprocAttr]
          by_cases hm : mkErr l[k] = 0
          · have hIm2 := Inverse_s (invM l[k]) (invM_sz hzm)
            rw [show mkI (invM l[k]) = (l[k], 0) by rw [mkI, if_pos (mkErr_inv hm), invM_inv]] at hIm2
            rw [show mkI l[k] = (invM l[k], 0) by rw [mkI, if_pos hm]] at hIm
            rw [hm] at cM
            refine CallI.fn (hIm) (by simp only [sx3, encs, sxR, sevalprocAttr] <;> (try simp) <;> (try rfl)) ?_
            simp only [↓sx0, sx1, encs, tys, sxR, sevalprocAttr]
            refine IxW.nat hkl ?_
            simp only [↓sx0, sx1, encs, tys, sxR, sevalprocAttr]
            refine CallI.fn (cM) (by simp only [sx3, encs, sxR, sevalprocAttr] <;> (try simp) <;> (try rfl)) ?_
            simp only [↓sx0, sx1, encs, tys, sxR, sevalprocAttr]
            repeat ((first | (with_reducible refine BrW.no (by simp) ?_) | (with_reducible refine BrW.yes (by simp) ?_)); (try simp only [↓sx0, sx1, encs, tys, sxR, sevalprocAttr]))
            refine CallI.fn (hIm2) (by simp only [sx3, encs, sxR, sevalprocAttr] <;> (try simp) <;> (try rfl)) ?_
            simp only [↓sx0, sx1, encs, tys, sxR, sevalprocAttr]
            refine DrawW.plan Tok mixed (.q 0 <| .q 1 <| .q 2 <| .q 3 <| .q 4 <| .q 5 <| .q 6 <| .q 7 <| .e 8 [3] <| .q 9 <| .q 10 <| .q 11 <| .q 12 <| .q 13 <| .q 14 <| .q 15 <| .q 16 <| .q 17 <| .q 18 <| .q 19 <| .q 20 <| .q 21 <| .q 22 <| .done) (by kernel_rfl) (by kernel_rfl) ?_
            simp only [↓sx0, sx1, encs, tys, sxR, sevalprocAttr]
            repeat ((first | (with_reducible refine BrW.no (by simp) ?_) | (with_reducible refine BrW.yes (by simp) ?_)); (try simp only [↓sx0, sx1, encs, tys, sxR, sevalprocAttr]))
            refine IxW.nat hkl ?_
            simp only [↓sx0, sx1, encs, tys, sxR, sevalprocAttr]
            refine CallI.fn (inverseR_s l[k]) (by simp only [sx3, encs, sxR, sevalprocAttr] <;> (try simp) <;> (try rfl)) ?_
            simp only [↓sx0, sx1, encs, tys, sxR, sevalprocAttr]
            repeat ((first | (with_reducible refine BrW.no (by simp) ?_) | (with_reducible refine BrW.yes (by simp) ?_)); (try simp only [↓sx0, sx1, encs, tys, sxR, sevalprocAttr]))
            refine IxW.nat hkl ?_
            simp only [↓sx0, sx1, encs, tys, sxR, sevalprocAttr]
            repeat ((first | (with_reducible refine BrW.no (by simp) ?_) | (with_reducible refine BrW.yes (by simp) ?_)); (try simp only [↓sx0, sx1, encs, tys, sxR, sevalprocAttr]))
            repeat ((with_reducible refine Vc.go ?_ fun _ => ?_); (focus (first | omega | (simp only [InK]; omega) | (simp [InK]; done) | (simp [InK]; omega))); simp only [↓sx0, sx1, encs, tys, sxR, sevalprocAttr])
            refine ⟨k + 1, StLe.auto (by simp only [sx2, encs, sxR, sevalprocAttr] <;> (try simp) <;> (try omega)), ?_, ?_⟩
            · exact ⟨by omega, by omega⟩
            · omega
          · rw [show mkI l[k] = (mk0, mkErr l[k]) by rw [mkI, if_neg hm]] at hIm
            refine CallI.fn (hIm) (by simp only [sx3, encs, sxR, sevalprocAttr] <;> (try simp) <;> (try rfl)) ?_
            simp only [↓sx0, sx1, encs, tys, sxR, sevalprocAttr]
            refine IxW.nat hkl ?_
            simp only [↓sx0, sx1, encs, tys, sxR, sevalprocAttr]
            refine CallI.fn (cM) (by simp only [sx3, encs, sxR, sevalprocAttr] <;> (try simp) <;> (try rfl)) ?_
            simp only [↓sx0, sx1, encs, tys, sxR, sevalprocAttr]
            refine BrW.yes hm ?_
            simp only [↓sx0, sx1, encs, tys, sxR, sevalprocAttr]
            repeat ((first | (with_reducible refine BrW.no (by simp) ?_) | (with_reducible refine BrW.yes (by simp) ?_)); (try simp only [↓sx0, sx1, encs, tys, sxR, sevalprocAttr]))
            repeat ((with_reducible refine Vc.go ?_ fun _ => ?_); (focus (first | omega | (simp only [InK]; omega) | (simp [InK]; done) | (simp [InK]; omega))); simp only [↓sx0, sx1, encs, tys, sxR, sevalprocAttr])
            refine ⟨k + 1, StLe.auto (by simp only [sx2, encs, sxR, sevalprocAttr] <;> (try simp) <;> (try omega)), ?_, ?_⟩
            · exact ⟨by omega, by omega⟩
            · omega
        · simp only [↓sx0, sx1, encs, tys, sxR, sevalprocAttr]
          exact EndW.fn (by simp only [sx4, encs, kpLL_map, sxR, sevalprocAttr] <;> (try simp) <;> (try omega)) (by simp only [sx4, encs, kpLL_map, sxR, sevalprocAttr] <;> (try simp) <;> (try omega))
      · simp only [↓sx0, sx1, encs, tys, sxR, sevalprocAttr]
        exact EndW.fn (by simp only [sx4, encs, kpLL_map, sxR, sevalprocAttr] <;> (try simp) <;> (try omega)) (by simp only [sx4, encs, kpLL_map, sxR, sevalprocAttr] <;> (try simp) <;> (try omega))
  · simp only [↓sx0, sx1, encs, tys, sxR, sevalprocAttr]
    exact EndW.fn (by simp only [sx4, encs, kpLL_map, sxR, sevalprocAttr] <;> (try simp) <;> (try omega)) (by simp only [sx4, encs, kpLL_map, sxR, sevalprocAttr] <;> (try simp) <;> (try omega))
end Go.Proofs.Ytenohgpackcjbaa
