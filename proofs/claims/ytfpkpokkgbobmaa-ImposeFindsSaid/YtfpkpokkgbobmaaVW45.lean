/-
  Chapter 6, walks: the laws of folds that are found.
-/
import Derived.Test.YtfpkpokkgbobmaaVP6Finds
namespace Go.Proofs.Ytfpkpokkgbobmaa
open Go Go.Vx
set_option linter.unusedSimpArgs false
set_option maxRecDepth 20000
set_option maxHeartbeats 1000000 in
theorem findsLaw_s (b : Bool) (c r : Int) (l : List Cell) : Ctr Try.prog 12 [.agg [(.v (.int .i64 c)), (.v (.int .i64 r)), .sl b 4 (l.map eC)]] (fun rr => rr = ⟨(.v (.bool (true))), []⟩) := by
  refine Ctr.of (rs := [.tmp 2]) Tok true Try.func12 rfl rfl rfl rfl (by simp [ofDL]) (fun w0 kp => ?_)
  simp only [↓sxD, ↓sxP0, sxP1, sxF, sxA, sxS, sxK, encs, tys, sxN, sevalprocAttr, ne_eq, decide_true, decide_false]
  refine CallI.fn (awake_s) (by simp only [sxA, sxL, sxF, encs, sxN, sevalprocAttr, ne_eq, decide_true, decide_false] <;> (try simp)) ?_
  simp only [↓sxD, ↓sxP0, sxP1, sxF, sxA, sxS, sxK, encs, tys, sxN, sevalprocAttr, ne_eq, decide_true, decide_false]
  refine CallI.fn (withinB_s l.length 13 16) (by simp only [sxA, sxL, sxF, encs, sxN, sevalprocAttr, ne_eq, decide_true, decide_false] <;> (try simp)) ?_
  simp only [↓sxD, ↓sxP0, sxP1, sxF, sxA, sxS, sxK, encs, tys, sxN, sevalprocAttr, ne_eq, decide_true, decide_false]
  refine BrW.dec (fun hw => ?_) (fun hw => ?_)
  · simp only [↓sxD, ↓sxP0, sxP1, sxF, sxA, sxS, sxK, encs, tys, sxN, sevalprocAttr, ne_eq, decide_true, decide_false]
    exact EndW.fn (by simp only [sxL, encs, kpLL_map, sxN, sevalprocAttr, ne_eq, decide_true, decide_false] <;> (try simp) <;> (try omega)) (by simp only [sxL, encs, kpLL_map, sxN, sevalprocAttr, ne_eq, decide_true, decide_false] <;> (try simp) <;> (try omega))
  · simp only [↓sxD, ↓sxP0, sxP1, sxF, sxA, sxS, sxK, encs, tys, sxN, sevalprocAttr, ne_eq, decide_true, decide_false]
    refine CallI.fn (light_s b c r l) (by simp only [sxA, sxL, sxF, encs, sxN, sevalprocAttr, ne_eq, decide_true, decide_false] <;> (try simp)) ?_
    simp only [↓sxD, ↓sxP0, sxP1, sxF, sxA, sxS, sxK, encs, tys, sxN, sevalprocAttr, ne_eq, decide_true, decide_false]
    refine BrW.dec (fun hn => ?_) (fun hn => ?_)
    · simp only [↓sxD, ↓sxP0, sxP1, sxF, sxA, sxS, sxK, encs, tys, sxN, sevalprocAttr, ne_eq, decide_true, decide_false]
      have hl : l.length ≤ 40 := by omega
      refine CallI.fn (copyF_s b c r l (by omega)) (by simp only [sxA, sxL, sxF, encs, sxN, sevalprocAttr, ne_eq, decide_true, decide_false] <;> (try simp)) ?_
      simp only [↓sxD, ↓sxP0, sxP1, sxF, sxA, sxS, sxK, encs, tys, sxN, sevalprocAttr, ne_eq, decide_true, decide_false]
      refine CallI.fn (foldsFor_s c r l) (by simp only [sxA, sxL, sxF, encs, sxN, sevalprocAttr, ne_eq, decide_true, decide_false] <;> (try simp)) ?_
      simp only [↓sxD, ↓sxP0, sxP1, sxF, sxA, sxS, sxK, encs, tys, sxN, sevalprocAttr, ne_eq, decide_true, decide_false]
      refine CallI.fn (checkSchemeR_s b c r l (by omega)) (by simp only [sxA, sxL, sxF, encs, sxN, sevalprocAttr, ne_eq, decide_true, decide_false] <;> (try simp)) ?_
      simp only [↓sxD, ↓sxP0, sxP1, sxF, sxA, sxS, sxK, encs, tys, sxN, sevalprocAttr, ne_eq, decide_true, decide_false]
      refine BrW.dec (fun he0 => ?_) (fun he0 => ?_)
      · have htn := sch_turns he0
        obtain ⟨cn, rn, rfl, rfl, h1, h2, h3, h4, h5, -⟩ := sch_fine he0
        simp only [↓sxD, ↓sxP0, sxP1, sxF, sxA, sxS, sxK, encs, tys, sxN, sevalprocAttr, ne_eq, decide_true, decide_false]
        refine BrW.dec (fun hg => ?_) (fun hg => ?_)
        · have hS : ffS cn rn l = ([], 8) := by unfold ffS; rw [if_neg (by simp [he0]), if_pos (by omega)]
          rw [hS]
          simp only [↓sxD, ↓sxP0, sxP1, sxF, sxA, sxS, sxK, encs, tys, sxN, sevalprocAttr, ne_eq, decide_true, decide_false]
          exact EndW.fn (by simp only [sxL, encs, kpLL_map, sxN, sevalprocAttr, ne_eq, decide_true, decide_false] <;> (try simp) <;> (try omega)) (by simp only [sxL, encs, kpLL_map, sxN, sevalprocAttr, ne_eq, decide_true, decide_false] <;> (try simp) <;> (try omega))
        · have hl16 : l.length ≤ 16 := by omega
          have hS : ffS cn rn l = match ffR cn rn l with | some x => (x, 0) | none => ([], 12) := by
            unfold ffS; rw [if_neg (by simp [he0]), if_neg (by omega), ffR_eq]; rfl
          simp only [↓sxD, ↓sxP0, sxP1, sxF, sxA, sxS, sxK, encs, tys, sxN, sevalprocAttr, ne_eq, decide_true, decide_false]
          refine BrW.ff (by simp [he0]) ?_
          simp only [↓sxD, ↓sxP0, sxP1, sxF, sxA, sxS, sxK, encs, tys, sxN, sevalprocAttr, ne_eq, decide_true, decide_false]
          refine CallI.fn (foldsForR_s b cn rn l h1 h2 h3 h4 h5 hl16 htn) (by simp only [sxA, sxL, sxF, encs, sxN, sevalprocAttr, ne_eq, decide_true, decide_false] <;> (try simp)) ?_
          simp only [↓sxD, ↓sxP0, sxP1, sxF, sxA, sxS, sxK, encs, tys, sxN, sevalprocAttr, ne_eq, decide_true, decide_false]
          cases hx : ffR cn rn l with
          | some x =>
            rw [hx] at hS
            rw [hS]
            have hxl : x.length ≤ 1000 := by rw [ffR_eq] at hx; exact first_len hx (side_sum h1 h2 h3 h4 (by omega))
            simp only [↓sxD, ↓sxP0, sxP1, sxF, sxA, sxS, sxK, encs, tys, sxN, sevalprocAttr, ne_eq, decide_true, decide_false]
            refine BrW.tt rfl ?_
            simp only [↓sxD, ↓sxP0, sxP1, sxF, sxA, sxS, sxK, encs, tys, sxN, sevalprocAttr, ne_eq, decide_true, decide_false]
            refine CallI.fn (sameFolds_s true true x x (by omega)) (by simp only [sxA, sxL, sxF, encs, sxN, sevalprocAttr, ne_eq, decide_true, decide_false] <;> (try simp)) ?_
            simp only [↓sxD, ↓sxP0, sxP1, sxF, sxA, sxS, sxK, encs, tys, sxN, sevalprocAttr, ne_eq, decide_true, decide_false]
            exact EndW.fn (by simp only [sxL, encs, kpLL_map, sxN, sevalprocAttr, ne_eq, decide_true, decide_false] <;> (try simp) <;> (try omega)) (by simp only [sxL, encs, kpLL_map, sxN, sevalprocAttr, ne_eq, decide_true, decide_false] <;> (try simp) <;> (try omega))
          | none =>
            rw [hx] at hS
            rw [hS]
            simp only [↓sxD, ↓sxP0, sxP1, sxF, sxA, sxS, sxK, encs, tys, sxN, sevalprocAttr, ne_eq, decide_true, decide_false]
            refine BrW.ff rfl ?_
            simp only [↓sxD, ↓sxP0, sxP1, sxF, sxA, sxS, sxK, encs, tys, sxN, sevalprocAttr, ne_eq, decide_true, decide_false]
            exact EndW.fn (by simp only [sxL, encs, kpLL_map, sxN, sevalprocAttr, ne_eq, decide_true, decide_false] <;> (try simp) <;> (try omega)) (by simp only [sxL, encs, kpLL_map, sxN, sevalprocAttr, ne_eq, decide_true, decide_false] <;> (try simp) <;> (try omega))
      · have hS : ffS c r l = ([], (schS c r l).2) := by unfold ffS; rw [if_pos he0]
        rw [hS]
        simp only [↓sxD, ↓sxP0, sxP1, sxF, sxA, sxS, sxK, encs, tys, sxN, sevalprocAttr, ne_eq, decide_true, decide_false]
        refine BrW.tt (by simp [he0]) ?_
        simp only [↓sxD, ↓sxP0, sxP1, sxF, sxA, sxS, sxK, encs, tys, sxN, sevalprocAttr, ne_eq, decide_true, decide_false]
        exact EndW.fn (by simp only [sxL, encs, kpLL_map, sxN, sevalprocAttr, ne_eq, decide_true, decide_false] <;> (try simp) <;> (try omega)) (by simp only [sxL, encs, kpLL_map, sxN, sevalprocAttr, ne_eq, decide_true, decide_false] <;> (try simp) <;> (try omega))
    · simp only [↓sxD, ↓sxP0, sxP1, sxF, sxA, sxS, sxK, encs, tys, sxN, sevalprocAttr, ne_eq, decide_true, decide_false]
      exact EndW.fn (by simp only [sxL, encs, kpLL_map, sxN, sevalprocAttr, ne_eq, decide_true, decide_false] <;> (try simp) <;> (try omega)) (by simp only [sxL, encs, kpLL_map, sxN, sevalprocAttr, ne_eq, decide_true, decide_false] <;> (try simp) <;> (try omega))
set_option maxHeartbeats 1000000 in
theorem foundLaw_s (b : Bool) (c r : Int) (l : List Fold) (hl : Cnt l) : Ctr Try.prog 13 [.agg [(.v (.int .i64 c)), (.v (.int .i64 r))], .sl b 2 (l.map eF)] (fun rr => rr = ⟨(.v (.bool (true))), []⟩) := by
  have hS2 : (schemeS c r l).2.2.2 = (foldedS c r l).2.2 := by
    unfold schemeS
    by_cases he : (foldedS c r l).2.2 ≠ 0
    · rw [if_pos he]
    · rw [if_neg he]; exact (Decidable.not_not.1 he).symm
  refine Ctr.of (rs := [.tmp 4]) Tok true Try.func13 rfl rfl rfl rfl (by simp [ofDL]) (fun w0 kp => ?_)
  simp only [↓sxD, ↓sxP0, sxP1, sxF, sxA, sxS, sxK, encs, tys, sxN, sevalprocAttr, ne_eq, decide_true, decide_false]
  refine CallI.fn (awake_s) (by simp only [sxA, sxL, sxF, encs, sxN, sevalprocAttr, ne_eq, decide_true, decide_false] <;> (try simp)) ?_
  simp only [↓sxD, ↓sxP0, sxP1, sxF, sxA, sxS, sxK, encs, tys, sxN, sevalprocAttr, ne_eq, decide_true, decide_false]
  refine BrW.dec (fun hn => ?_) (fun hn => ?_)
  · simp only [↓sxD, ↓sxP0, sxP1, sxF, sxA, sxS, sxK, encs, tys, sxN, sevalprocAttr, ne_eq, decide_true, decide_false]
    exact EndW.fn (by simp only [sxL, encs, kpLL_map, sxN, sevalprocAttr, ne_eq, decide_true, decide_false] <;> (try simp) <;> (try omega)) (by simp only [sxL, encs, kpLL_map, sxN, sevalprocAttr, ne_eq, decide_true, decide_false] <;> (try simp) <;> (try omega))
  · simp only [↓sxD, ↓sxP0, sxP1, sxF, sxA, sxS, sxK, encs, tys, sxN, sevalprocAttr, ne_eq, decide_true, decide_false]
    repeat ((with_reducible refine Vc.go ?_ fun _ => ?_); (focus (first | omega | (simp only [InK]; omega) | (simp [InK]; done) | (simp [InK]; omega))); simp only [↓sxD, ↓sxP0, sxP1, sxF, sxA, sxS, sxK, encs, tys, sxN, sevalprocAttr, ne_eq, decide_true, decide_false])
    refine CallI.fn (checkSheetR_s c r) (by simp only [sxA, sxL, sxF, encs, sxN, sevalprocAttr, ne_eq, decide_true, decide_false] <;> (try simp)) ?_
    simp only [↓sxD, ↓sxP0, sxP1, sxF, sxA, sxS, sxK, encs, tys, sxN, sevalprocAttr, ne_eq, decide_true, decide_false]
    refine BrW.dec (fun hs => ?_) (fun hs => ?_)
    · simp only [↓sxD, ↓sxP0, sxP1, sxF, sxA, sxS, sxK, encs, tys, sxN, sevalprocAttr, ne_eq, decide_true, decide_false]
      exact EndW.fn (by simp only [sxL, encs, kpLL_map, sxN, sevalprocAttr, ne_eq, decide_true, decide_false] <;> (try simp) <;> (try omega)) (by simp only [sxL, encs, kpLL_map, sxN, sevalprocAttr, ne_eq, decide_true, decide_false] <;> (try simp) <;> (try omega))
    · have hs0 : sheetErr c r = 0 := Decidable.not_not.1 hs
      obtain ⟨s1, s2, s3, s4⟩ : 1 ≤ c ∧ c ≤ 8 ∧ 1 ≤ r ∧ r ≤ 8 := by
        unfold sheetErr at hs0
        by_cases h1 : 1 ≤ c ∧ c ≤ 8
        · by_cases h2 : 1 ≤ r ∧ r ≤ 8
          · omega
          · rw [if_pos h1, if_neg h2] at hs0; omega
        · rw [if_neg h1] at hs0; omega
      obtain ⟨cn, rfl⟩ : ∃ cn : Nat, c = cn := ⟨c.toNat, by omega⟩
      obtain ⟨rn, rfl⟩ : ∃ rn : Nat, r = rn := ⟨r.toNat, by omega⟩
      have m1 : (cn : Int) * rn ≤ 8 * 8 := Int.mul_le_mul s2 s4 (by omega) (by omega)
      have m2 : 0 ≤ (cn : Int) * rn := Int.mul_nonneg (by omega) (by omega)
      simp only [↓sxD, ↓sxP0, sxP1, sxF, sxA, sxS, sxK, encs, tys, sxN, sevalprocAttr, ne_eq, decide_true, decide_false]
      repeat ((with_reducible refine Vc.go ?_ fun _ => ?_); (focus (first | omega | (simp only [InK]; omega) | (simp [InK]; done) | (simp [InK]; omega))); simp only [↓sxD, ↓sxP0, sxP1, sxF, sxA, sxS, sxK, encs, tys, sxN, sevalprocAttr, ne_eq, decide_true, decide_false])
      refine BrW.dec (fun h12 => ?_) (fun h12 => ?_)
      · simp only [↓sxD, ↓sxP0, sxP1, sxF, sxA, sxS, sxK, encs, tys, sxN, sevalprocAttr, ne_eq, decide_true, decide_false]
        exact EndW.fn (by simp only [sxL, encs, kpLL_map, sxN, sevalprocAttr, ne_eq, decide_true, decide_false] <;> (try simp) <;> (try omega)) (by simp only [sxL, encs, kpLL_map, sxN, sevalprocAttr, ne_eq, decide_true, decide_false] <;> (try simp) <;> (try omega))
      · have h16 : rn * cn ≤ 16 := by
          have : ((rn * cn : Nat) : Int) = (cn : Int) * rn := by push_cast; exact Int.mul_comm _ _
          omega
        simp only [↓sxD, ↓sxP0, sxP1, sxF, sxA, sxS, sxK, encs, tys, sxN, sevalprocAttr, ne_eq, decide_true, decide_false]
        refine LoopW.comp [1, 2, 5] (by simp only [sxS, sxL, sxF, encs, sxN, sevalprocAttr, ne_eq, decide_true, decide_false] <;> (try simp) <;> (try omega)) ?_
        simp only [sxS, sxF, sxN, sevalprocAttr, ne_eq, decide_true, decide_false]
        refine LoopW.up Tok (fun k : Nat => [(5, (.v (.int .i64 k)))]) (fun k => []) (fun k => []) (fun k => []) (fun k => k ≤ l.length ∧ ∀ y ∈ l.take k, y.kind ≠ 5 ∧ y.kind ≠ 6) (fun k => l.length - k) (0) (by simp only [sxS, sxL, sxF, encs, sxN, sevalprocAttr, ne_eq, decide_true, decide_false] <;> (try simp) <;> (try omega)) ?_ ?_
        · exact ⟨by omega, by simp⟩
        rintro k ⟨hk, hkk⟩
        simp only [↓sxD, ↓sxP0, sxP1, sxF, sxA, sxS, sxK, encs, tys, sxN, sevalprocAttr, ne_eq, decide_true, decide_false]
        refine BrW.dec (fun hlt => ?_) (fun hlt => ?_)
        · have hk2 : k < l.length := by omega
          simp only [↓sxD, ↓sxP0, sxP1, sxF, sxA, sxS, sxK, encs, tys, sxN, sevalprocAttr, ne_eq, decide_true, decide_false]
          refine IxW.nat hk2 ?_
          simp only [↓sxD, ↓sxP0, sxP1, sxF, sxA, sxS, sxK, encs, tys, sxN, sevalprocAttr, ne_eq, decide_true, decide_false]
          refine BrW.dec (fun h5 => ?_) (fun h5 => ?_)
          · simp only [↓sxD, ↓sxP0, sxP1, sxF, sxA, sxS, sxK, encs, tys, sxN, sevalprocAttr, ne_eq, decide_true, decide_false]
            exact EndW.fn (by simp only [sxL, encs, kpLL_map, sxN, sevalprocAttr, ne_eq, decide_true, decide_false] <;> (try simp) <;> (try omega)) (by simp only [sxL, encs, kpLL_map, sxN, sevalprocAttr, ne_eq, decide_true, decide_false] <;> (try simp) <;> (try omega))
          · simp only [↓sxD, ↓sxP0, sxP1, sxF, sxA, sxS, sxK, encs, tys, sxN, sevalprocAttr, ne_eq, decide_true, decide_false]
            refine IxW.nat hk2 ?_
            simp only [↓sxD, ↓sxP0, sxP1, sxF, sxA, sxS, sxK, encs, tys, sxN, sevalprocAttr, ne_eq, decide_true, decide_false]
            refine BrW.dec (fun h6 => ?_) (fun h6 => ?_)
            · simp only [↓sxD, ↓sxP0, sxP1, sxF, sxA, sxS, sxK, encs, tys, sxN, sevalprocAttr, ne_eq, decide_true, decide_false]
              exact EndW.fn (by simp only [sxL, encs, kpLL_map, sxN, sevalprocAttr, ne_eq, decide_true, decide_false] <;> (try simp) <;> (try omega)) (by simp only [sxL, encs, kpLL_map, sxN, sevalprocAttr, ne_eq, decide_true, decide_false] <;> (try simp) <;> (try omega))
            · simp only [↓sxD, ↓sxP0, sxP1, sxF, sxA, sxS, sxK, encs, tys, sxN, sevalprocAttr, ne_eq, decide_true, decide_false]
              repeat ((with_reducible refine Vc.go ?_ fun _ => ?_); (focus (first | omega | (simp only [InK]; omega) | (simp [InK]; done) | (simp [InK]; omega))); simp only [↓sxD, ↓sxP0, sxP1, sxF, sxA, sxS, sxK, encs, tys, sxN, sevalprocAttr, ne_eq, decide_true, decide_false])
              refine ⟨k + 1, StLe.auto (by simp only [sxS, sxL, sxF, encs, sxN, sevalprocAttr, ne_eq, decide_true, decide_false] <;> (try simp) <;> (try omega)), ?_, ?_⟩
              · refine ⟨by omega, fun y hy => ?_⟩
                rw [List.take_succ_eq_append_getElem hk2] at hy
                rcases List.mem_append.1 hy with hy | hy
                · exact hkk y hy
                · simp only [List.mem_singleton] at hy
                  subst hy; exact ⟨h5, h6⟩
              · omega
        · have hke : k = l.length := by omega
          subst hke
          rw [List.take_length] at hkk
          simp only [↓sxD, ↓sxP0, sxP1, sxF, sxA, sxS, sxK, encs, tys, sxN, sevalprocAttr, ne_eq, decide_true, decide_false]
          refine DrawW.plan Tok mixed (.q 0 <| .q 1 <| .e2 2 [0] (.e2 3 [] (.q 4 <| .q 5 <| .q 6 <| .e 7 [0] <| .e 8 [] <| .q 9 <| .done) 7 [0] (.e 3 [] <| .q 4 <| .q 5 <| .q 6 <| .e 8 [] <| .q 9 <| .done)) 7 [0] (.e 2 [0] <| .e 3 [] <| .q 4 <| .q 5 <| .q 6 <| .e 8 [] <| .q 9 <| .done)) (by kernel_rfl) (by kernel_rfl) ?_
          simp only [↓sxD, ↓sxP0, sxP1, sxF, sxA, sxS, sxK, encs, tys, sxN, sevalprocAttr, ne_eq, decide_true, decide_false]
          refine ⟨?_, ?_⟩
          · refine CallI.ctr (folds_s b l (by omega)) (by simp only [sxA, sxL, sxF, encs, sxN, sevalprocAttr, ne_eq, decide_true, decide_false] <;> (try simp)) ?_
            rintro _ rfl
            simp only [↓sxD, ↓sxP0, sxP1, sxF, sxA, sxS, sxK, encs, tys, sxN, sevalprocAttr, ne_eq, decide_true, decide_false]
            refine ⟨?_, ?_⟩
            all_goals
              refine CallI.fn (scheme_s false cn rn l hl) (by simp only [sxA, sxL, sxF, encs, sxN, sevalprocAttr, ne_eq, decide_true, decide_false] <;> (try simp)) ?_
              simp only [↓sxD, ↓sxP0, sxP1, sxF, sxA, sxS, sxK, encs, tys, sxN, sevalprocAttr, ne_eq, decide_true, decide_false]
              refine BrW.dec (fun he => ?_) (fun he => ?_)
              · rw [hS2] at he
                have hS : schemeS cn rn l = (0, 0, [], (foldedS cn rn l).2.2) := by unfold schemeS; rw [if_pos he]
                rw [hS]
                simp only [↓sxD, ↓sxP0, sxP1, sxF, sxA, sxS, sxK, encs, tys, sxN, sevalprocAttr, ne_eq, decide_true, decide_false]
                refine CallI.fn (none_s true 0 0 []) (by simp only [sxA, sxL, sxF, encs, sxN, sevalprocAttr, ne_eq, decide_true, decide_false] <;> (try simp)) ?_
                simp only [↓sxD, ↓sxP0, sxP1, sxF, sxA, sxS, sxK, encs, tys, sxN, sevalprocAttr, ne_eq, decide_true, decide_false]
                exact EndW.fn (by simp only [sxL, encs, kpLL_map, sxN, sevalprocAttr, ne_eq, decide_true, decide_false] <;> (try simp) <;> (try omega)) (by simp only [sxL, encs, kpLL_map, sxN, sevalprocAttr, ne_eq, decide_true, decide_false] <;> (try simp) <;> (try omega))
              · rw [hS2] at he
                have he0 : (foldedS cn rn l).2.2 = 0 := Decidable.not_not.1 he
                have hS : schemeS cn rn l = ((cn : Int), (rn : Int), schC cn rn l, 0) := by unfold schemeS; rw [if_neg he]; rfl
                have hcl := schC_len cn rn l
                obtain ⟨x, f1, f2, f3, pgs, f4, f5, f6⟩ := found_law he0 h16 hkk
                rw [hS]
                simp only [↓sxD, ↓sxP0, sxP1, sxF, sxA, sxS, sxK, encs, tys, sxN, sevalprocAttr, ne_eq, decide_true, decide_false]
                refine CallI.fn (copyF_s true cn rn (schC cn rn l) (by omega)) (by simp only [sxA, sxL, sxF, encs, sxN, sevalprocAttr, ne_eq, decide_true, decide_false] <;> (try simp)) ?_
                simp only [↓sxD, ↓sxP0, sxP1, sxF, sxA, sxS, sxK, encs, tys, sxN, sevalprocAttr, ne_eq, decide_true, decide_false]
                refine CallI.fn (foldsFor_s cn rn (schC cn rn l)) (by simp only [sxA, sxL, sxF, encs, sxN, sevalprocAttr, ne_eq, decide_true, decide_false] <;> (try simp)) ?_
                simp only [↓sxD, ↓sxP0, sxP1, sxF, sxA, sxS, sxK, encs, tys, sxN, sevalprocAttr, ne_eq, decide_true, decide_false]
                rw [f1]
                simp only [↓sxD, ↓sxP0, sxP1, sxF, sxA, sxS, sxK, encs, tys, sxN, sevalprocAttr, ne_eq, decide_true, decide_false]
                refine CallI.ctr (copy_s true cn rn (schC cn rn l) (by omega)) (by simp only [sxA, sxL, sxF, encs, sxN, sevalprocAttr, ne_eq, decide_true, decide_false] <;> (try simp)) ?_
                rintro _ rfl
                simp only [↓sxD, ↓sxP0, sxP1, sxF, sxA, sxS, sxK, encs, tys, sxN, sevalprocAttr, ne_eq, decide_true, decide_false]
                refine CallI.ctr (folds_s true x (by omega)) (by simp only [sxA, sxL, sxF, encs, sxN, sevalprocAttr, ne_eq, decide_true, decide_false] <;> (try simp)) ?_
                rintro _ rfl
                simp only [↓sxD, ↓sxP0, sxP1, sxF, sxA, sxS, sxK, encs, tys, sxN, sevalprocAttr, ne_eq, decide_true, decide_false]
                refine CallI.fn (reads_s false false cn rn (schC cn rn l) x f3) (by simp only [sxA, sxL, sxF, encs, sxN, sevalprocAttr, ne_eq, decide_true, decide_false] <;> (try simp)) ?_
                simp only [↓sxD, ↓sxP0, sxP1, sxF, sxA, sxS, sxK, encs, tys, sxN, sevalprocAttr, ne_eq, decide_true, decide_false]
                rw [f4]
                have f5' : (pgs.length : Int) = 2 * (cn : Int) * rn := by rw [f5]; push_cast; rw [Int.mul_comm (rn : Int), Int.mul_assoc]
                have b7 : 2 * (cn : Int) * rn ≤ 16 * 8 := Int.mul_le_mul (by omega) (by omega) (by omega) (by omega)
                have b8 : 0 ≤ 2 * (cn : Int) * rn := Int.mul_nonneg (by omega) (by omega)
                simp only [↓sxD, ↓sxP0, sxP1, sxF, sxA, sxS, sxK, encs, tys, sxN, sevalprocAttr, ne_eq, decide_true, decide_false]
                refine BrW.yes (by omega) ?_
                simp only [↓sxD, ↓sxP0, sxP1, sxF, sxA, sxS, sxK, encs, tys, sxN, sevalprocAttr, ne_eq, decide_true, decide_false]
                repeat ((with_reducible refine Vc.go ?_ fun _ => ?_); (focus (first | omega | (simp only [InK]; omega) | (simp [InK]; done) | (simp [InK]; omega))); simp only [↓sxD, ↓sxP0, sxP1, sxF, sxA, sxS, sxK, encs, tys, sxN, sevalprocAttr, ne_eq, decide_true, decide_false])
                refine BrW.yes f5' ?_
                simp only [↓sxD, ↓sxP0, sxP1, sxF, sxA, sxS, sxK, encs, tys, sxN, sevalprocAttr, ne_eq, decide_true, decide_false]
                refine CallI.fn (inOrdR_s true pgs (by omega)) (by simp only [sxA, sxL, sxF, encs, sxN, sevalprocAttr, ne_eq, decide_true, decide_false] <;> (try simp)) ?_
                simp only [↓sxD, ↓sxP0, sxP1, sxF, sxA, sxS, sxK, encs, tys, sxN, sevalprocAttr, ne_eq, decide_true, decide_false]
                rw [f6]
                exact EndW.fn (by simp only [sxL, encs, kpLL_map, sxN, sevalprocAttr, ne_eq, decide_true, decide_false] <;> (try simp) <;> (try omega)) (by simp only [sxL, encs, kpLL_map, sxN, sevalprocAttr, ne_eq, decide_true, decide_false] <;> (try simp) <;> (try omega))
          · refine CallI.ctr (folds_s b l (by omega)) (by simp only [sxA, sxL, sxF, encs, sxN, sevalprocAttr, ne_eq, decide_true, decide_false] <;> (try simp)) ?_
            rintro _ rfl
            simp only [↓sxD, ↓sxP0, sxP1, sxF, sxA, sxS, sxK, encs, tys, sxN, sevalprocAttr, ne_eq, decide_true, decide_false]
            refine CallI.fn (scheme_s false cn rn l hl) (by simp only [sxA, sxL, sxF, encs, sxN, sevalprocAttr, ne_eq, decide_true, decide_false] <;> (try simp)) ?_
            simp only [↓sxD, ↓sxP0, sxP1, sxF, sxA, sxS, sxK, encs, tys, sxN, sevalprocAttr, ne_eq, decide_true, decide_false]
            refine BrW.dec (fun he => ?_) (fun he => ?_)
            · rw [hS2] at he
              have hS : schemeS cn rn l = (0, 0, [], (foldedS cn rn l).2.2) := by unfold schemeS; rw [if_pos he]
              rw [hS]
              simp only [↓sxD, ↓sxP0, sxP1, sxF, sxA, sxS, sxK, encs, tys, sxN, sevalprocAttr, ne_eq, decide_true, decide_false]
              refine CallI.fn (none_s true 0 0 []) (by simp only [sxA, sxL, sxF, encs, sxN, sevalprocAttr, ne_eq, decide_true, decide_false] <;> (try simp)) ?_
              simp only [↓sxD, ↓sxP0, sxP1, sxF, sxA, sxS, sxK, encs, tys, sxN, sevalprocAttr, ne_eq, decide_true, decide_false]
              exact EndW.fn (by simp only [sxL, encs, kpLL_map, sxN, sevalprocAttr, ne_eq, decide_true, decide_false] <;> (try simp) <;> (try omega)) (by simp only [sxL, encs, kpLL_map, sxN, sevalprocAttr, ne_eq, decide_true, decide_false] <;> (try simp) <;> (try omega))
            · rw [hS2] at he
              have he0 : (foldedS cn rn l).2.2 = 0 := Decidable.not_not.1 he
              have hS : schemeS cn rn l = ((cn : Int), (rn : Int), schC cn rn l, 0) := by unfold schemeS; rw [if_neg he]; rfl
              have hcl := schC_len cn rn l
              obtain ⟨x, f1, f2, f3, pgs, f4, f5, f6⟩ := found_law he0 h16 hkk
              rw [hS]
              simp only [↓sxD, ↓sxP0, sxP1, sxF, sxA, sxS, sxK, encs, tys, sxN, sevalprocAttr, ne_eq, decide_true, decide_false]
              refine CallI.fn (copyF_s true cn rn (schC cn rn l) (by omega)) (by simp only [sxA, sxL, sxF, encs, sxN, sevalprocAttr, ne_eq, decide_true, decide_false] <;> (try simp)) ?_
              simp only [↓sxD, ↓sxP0, sxP1, sxF, sxA, sxS, sxK, encs, tys, sxN, sevalprocAttr, ne_eq, decide_true, decide_false]
              refine CallI.fn (foldsFor_s cn rn (schC cn rn l)) (by simp only [sxA, sxL, sxF, encs, sxN, sevalprocAttr, ne_eq, decide_true, decide_false] <;> (try simp)) ?_
              simp only [↓sxD, ↓sxP0, sxP1, sxF, sxA, sxS, sxK, encs, tys, sxN, sevalprocAttr, ne_eq, decide_true, decide_false]
              rw [f1]
              simp only [↓sxD, ↓sxP0, sxP1, sxF, sxA, sxS, sxK, encs, tys, sxN, sevalprocAttr, ne_eq, decide_true, decide_false]
              refine CallI.ctr (copy_s true cn rn (schC cn rn l) (by omega)) (by simp only [sxA, sxL, sxF, encs, sxN, sevalprocAttr, ne_eq, decide_true, decide_false] <;> (try simp)) ?_
              rintro _ rfl
              simp only [↓sxD, ↓sxP0, sxP1, sxF, sxA, sxS, sxK, encs, tys, sxN, sevalprocAttr, ne_eq, decide_true, decide_false]
              refine CallI.ctr (folds_s true x (by omega)) (by simp only [sxA, sxL, sxF, encs, sxN, sevalprocAttr, ne_eq, decide_true, decide_false] <;> (try simp)) ?_
              rintro _ rfl
              simp only [↓sxD, ↓sxP0, sxP1, sxF, sxA, sxS, sxK, encs, tys, sxN, sevalprocAttr, ne_eq, decide_true, decide_false]
              refine CallI.fn (reads_s false false cn rn (schC cn rn l) x f3) (by simp only [sxA, sxL, sxF, encs, sxN, sevalprocAttr, ne_eq, decide_true, decide_false] <;> (try simp)) ?_
              simp only [↓sxD, ↓sxP0, sxP1, sxF, sxA, sxS, sxK, encs, tys, sxN, sevalprocAttr, ne_eq, decide_true, decide_false]
              rw [f4]
              have f5' : (pgs.length : Int) = 2 * (cn : Int) * rn := by rw [f5]; push_cast; rw [Int.mul_comm (rn : Int), Int.mul_assoc]
              have b7 : 2 * (cn : Int) * rn ≤ 16 * 8 := Int.mul_le_mul (by omega) (by omega) (by omega) (by omega)
              have b8 : 0 ≤ 2 * (cn : Int) * rn := Int.mul_nonneg (by omega) (by omega)
              simp only [↓sxD, ↓sxP0, sxP1, sxF, sxA, sxS, sxK, encs, tys, sxN, sevalprocAttr, ne_eq, decide_true, decide_false]
              refine BrW.yes (by omega) ?_
              simp only [↓sxD, ↓sxP0, sxP1, sxF, sxA, sxS, sxK, encs, tys, sxN, sevalprocAttr, ne_eq, decide_true, decide_false]
              repeat ((with_reducible refine Vc.go ?_ fun _ => ?_); (focus (first | omega | (simp only [InK]; omega) | (simp [InK]; done) | (simp [InK]; omega))); simp only [↓sxD, ↓sxP0, sxP1, sxF, sxA, sxS, sxK, encs, tys, sxN, sevalprocAttr, ne_eq, decide_true, decide_false])
              refine BrW.yes f5' ?_
              simp only [↓sxD, ↓sxP0, sxP1, sxF, sxA, sxS, sxK, encs, tys, sxN, sevalprocAttr, ne_eq, decide_true, decide_false]
              refine CallI.fn (inOrdR_s true pgs (by omega)) (by simp only [sxA, sxL, sxF, encs, sxN, sevalprocAttr, ne_eq, decide_true, decide_false] <;> (try simp)) ?_
              simp only [↓sxD, ↓sxP0, sxP1, sxF, sxA, sxS, sxK, encs, tys, sxN, sevalprocAttr, ne_eq, decide_true, decide_false]
              rw [f6]
              exact EndW.fn (by simp only [sxL, encs, kpLL_map, sxN, sevalprocAttr, ne_eq, decide_true, decide_false] <;> (try simp) <;> (try omega)) (by simp only [sxL, encs, kpLL_map, sxN, sevalprocAttr, ne_eq, decide_true, decide_false] <;> (try simp) <;> (try omega))
end Go.Proofs.Ytfpkpokkgbobmaa
