/-
  Chapter 9, walks: a schedule is checked by the reference.
-/
import Derived.Test.YtaagelngbbkllaaVW39
namespace Go.Proofs.Ytaagelngbbkllaa
open Go Go.Vx
set_option linter.unusedSimpArgs false
set_option linter.unusedVariables false
set_option maxRecDepth 20000
def ltK (v : List Int) (k : Nat) : Int := if k = 0 then 0 else v.getD (worK v k) 0
def ftK (v : List Int) (k : Nat) : Int := if k = 0 then -1 else (worK v k : Int)
set_option maxHeartbeats 4000000 in
theorem checkScheduleR_s (b1 b2 : Bool) (l : List Job) (s : List Slot) (hj : JobsOk l) (hs : s.length ≤ 1000000) : Ctr Try.prog 40 [.sl b1 4 (l.map eJ), .sl b2 3 (s.map eT)] (fun rr => rr = ⟨.tup [(.v (.int .i64 ((schE l s).1))), (.v (.int .i64 ((schE l s).2.1))), (.v (.int .i64 ((schE l s).2.2)))], []⟩) := by
  have encs0 := encs
  have encs := And.intro encs (And.intro repI repI2)
  have hn := hj.n
  have hn0 := hj.n0
  refine Ctr.of (rs := [.tmp 4, .tmp 5, .tmp 6]) Tok true Try.func40 rfl rfl rfl rfl (by simp [ofDL]) (fun w0 kp => ?_)
  simp only [↓sxD, ↓sxP0, ↓sxGd, sxP1, sxF, sxA, sxS, sxK, sxG, sxH, sxU, encs, tys, sxN, sevalprocAttr, ne_eq, decide_true, decide_false]
  refine BrW.dec (fun h2 => ?_) (fun h2 => ?_)
  · have hE : schErr l s = 8 := by rw [schErr, if_pos (by omega)]
    rw [show schE l s = (0, 0, 8) by rw [schE, hE]; rfl]
    simp only [↓sxD, ↓sxP0, ↓sxGd, sxP1, sxF, sxA, sxS, sxK, sxG, sxH, sxU, encs, tys, sxN, sevalprocAttr, ne_eq, decide_true, decide_false]
    exact EndW.fn (by simp only [sxL, sxG, sxH, sxU, encs, kpLL_map, sxN, sevalprocAttr, ne_eq, decide_true, decide_false] <;> (try simp) <;> (try omega)) (by simp only [sxL, sxG, sxH, sxU, encs, kpLL_map, sxN, sevalprocAttr, ne_eq, decide_true, decide_false] <;> (try simp) <;> (try omega))
  · have hE : schErr l s = if slE l 0 s = 0 then (if sumsOk l s then 0 else 23) else slE l 0 s := by rw [schErr, if_neg (by omega)]
    simp only [↓sxD, ↓sxP0, ↓sxGd, sxP1, sxF, sxA, sxS, sxK, sxG, sxH, sxU, encs, tys, sxN, sevalprocAttr, ne_eq, decide_true, decide_false]
    refine DrawW.plan Tok mixed (.q 0 <| .q 1 <| .q 3 <| .q 4 <| .e2 2 [] (.q 6 <| .e 5 [] <| .q 7 <| .done) 5 [] (.e 2 [] <| .q 6 <| .q 7 <| .done)) (by kernel_rfl) (by kernel_rfl) ?_
    simp only [↓sxD, ↓sxP0, ↓sxGd, sxP1, sxF, sxA, sxS, sxK, sxG, sxH, sxU, encs, tys, sxN, sevalprocAttr, ne_eq, decide_true, decide_false]
    refine ⟨?_, ?_⟩
    all_goals (
      skip
      repeat ((with_reducible refine Vc.go ?_ fun _ => ?_); (focus (first | omega | (simp only [InK]; omega) | (simp [InK]; done) | (simp [InK]; omega))); simp only [↓sxD, ↓sxP0, ↓sxGd, sxP1, sxF, sxA, sxS, sxK, sxG, sxH, sxU, encs, tys, sxN, sevalprocAttr, ne_eq, decide_true, decide_false])
      replace encs := encs0
      skip
      refine LoopW.comp [0, 1, 7, 8, 9, 10] (by simp only [sxS, sxL, sxF, sxG, sxH, sxU, encs, sxN, sevalprocAttr, ne_eq, decide_true, decide_false] <;> (try simp) <;> (try omega)) ?_
      simp only [sxS, sxF, sxG, sxH, sxU, sxN, sevalprocAttr, ne_eq, decide_true, decide_false]
      refine LoopW.up Tok (fun k : Nat => [(9, (.v (.int .i64 (nwK s k)))), (10, (.v (.int .i64 k)))]) (fun k => []) (fun k => [(0, (doneK l.length s k).map eI), (1, (endsK l.length s k).map eI)]) (fun k => []) (fun k => (k ≤ s.length ∧ slE l (nwK s k) (s.drop k) = slE l 0 s) ∧ okTo2 s l.length k) (fun k => s.length - k) (0) (by simp only [sxS, sxL, sxF, sxG, sxH, sxU, encs, sxN, sevalprocAttr, ne_eq, decide_true, decide_false] <;> (try simp [doneK, endsK, nwK, endN, encs]) <;> (try omega)) ?_ ?_
      · exact ⟨⟨by omega, rfl⟩, fun j h hj => by omega⟩
      rintro k ⟨⟨hk, hJ⟩, hok⟩
      simp only [↓sxD, ↓sxP0, ↓sxGd, sxP1, sxF, sxA, sxS, sxK, sxG, sxH, sxU, encs, tys, sxN, sevalprocAttr, ne_eq, decide_true, decide_false]
      refine BrW.dec (fun hlt => ?_) (fun hlt => ?_)
      · simp only [↓sxD, ↓sxP0, ↓sxGd, sxP1, sxF, sxA, sxS, sxK, sxG, sxH, sxU, encs, tys, sxN, sevalprocAttr, ne_eq, decide_true, decide_false]
        have hlt : k < s.length := by omega
        have hat := slE_at hlt hJ
        rw [show endN 0 (s.take k) = nwK s k from rfl, show endN 0 (s.take (k + 1)) = nwK s (k + 1) from rfl] at hat
        have hns := nwK_succ hlt
        have hdl := doneK_len l.length s k hk
        have hel := endsK_len l.length s k hk
        have hdb := doneK_b (n := l.length) k hk fun j h hj => (hok j h hj).1
        refine IxW.nat hlt ?_
        simp only [↓sxD, ↓sxP0, ↓sxGd, sxP1, sxF, sxA, sxS, sxK, sxG, sxH, sxU, encs, tys, sxN, sevalprocAttr, ne_eq, decide_true, decide_false]
        repeat ((with_reducible refine Vc.go ?_ fun _ => ?_); (focus (first | omega | (simp only [InK]; omega) | (simp [InK]; done) | (simp [InK]; omega))); simp only [↓sxD, ↓sxP0, ↓sxGd, sxP1, sxF, sxA, sxS, sxK, sxG, sxH, sxU, encs, tys, sxN, sevalprocAttr, ne_eq, decide_true, decide_false])
        refine CallI.fn (withinB_s s[k].job 0 ((l.length : Int) - 1)) (by simp only [sxA, sxL, sxF, sxG, sxH, sxU, encs, sxN, sevalprocAttr, ne_eq, decide_true, decide_false] <;> (try simp) <;> (try rfl)) ?_
        simp only [↓sxD, ↓sxP0, ↓sxGd, sxP1, sxF, sxA, sxS, sxK, sxG, sxH, sxU, encs, tys, sxN, sevalprocAttr, ne_eq, decide_true, decide_false]
        refine BrW.of (fun q1 => ?_) (fun q1 => ?_)
        · have q1 : 0 ≤ s[k].job ∧ s[k].job ≤ (l.length : Int) - 1 := by simpa using q1
          simp only [↓sxD, ↓sxP0, ↓sxGd, sxP1, sxF, sxA, sxS, sxK, sxG, sxH, sxU, encs, tys, sxN, sevalprocAttr, ne_eq, decide_true, decide_false]
          refine CallI.fn (withinB_s s[k].minutes 1 10000) (by simp only [sxA, sxL, sxF, sxG, sxH, sxU, encs, sxN, sevalprocAttr, ne_eq, decide_true, decide_false] <;> (try simp) <;> (try rfl)) ?_
          simp only [↓sxD, ↓sxP0, ↓sxGd, sxP1, sxF, sxA, sxS, sxK, sxG, sxH, sxU, encs, tys, sxN, sevalprocAttr, ne_eq, decide_true, decide_false]
          refine BrW.of (fun q2 => ?_) (fun q2 => ?_)
          · have q2 : 1 ≤ s[k].minutes ∧ s[k].minutes ≤ 10000 := by simpa using q2
            simp only [↓sxD, ↓sxP0, ↓sxGd, sxP1, sxF, sxA, sxS, sxK, sxG, sxH, sxU, encs, tys, sxN, sevalprocAttr, ne_eq, decide_true, decide_false]
            refine CallI.fn (withinB_s s[k].start 0 20000000) (by simp only [sxA, sxL, sxF, sxG, sxH, sxU, encs, sxN, sevalprocAttr, ne_eq, decide_true, decide_false] <;> (try simp) <;> (try rfl)) ?_
            simp only [↓sxD, ↓sxP0, ↓sxGd, sxP1, sxF, sxA, sxS, sxK, sxG, sxH, sxU, encs, tys, sxN, sevalprocAttr, ne_eq, decide_true, decide_false]
            refine BrW.of (fun q3 => ?_) (fun q3 => ?_)
            · have q3 : 0 ≤ s[k].start ∧ s[k].start ≤ 20000000 := by simpa using q3
              simp only [↓sxD, ↓sxP0, ↓sxGd, sxP1, sxF, sxA, sxS, sxK, sxG, sxH, sxU, encs, tys, sxN, sevalprocAttr, ne_eq, decide_true, decide_false]
              have hjk : s[k].job.toNat < l.length := by omega
              have hjb := jb_eq hjk
              refine DrawW.plan Tok mixed (.q 0 <| .q 1 <| .q 2 <| .q 3 <| .q 4 <| .q 5 <| .q 6 <| .q 7 <| .q 8 <| .done) (by kernel_rfl) (by kernel_rfl) ?_
              simp only [↓sxD, ↓sxP0, ↓sxGd, sxP1, sxF, sxA, sxS, sxK, sxG, sxH, sxU, encs, tys, sxN, sevalprocAttr, ne_eq, decide_true, decide_false]
              refine IxW.map (l[s[k].job.toNat]) (by omega) (List.getElem?_eq_getElem hjk) ?_
              simp only [↓sxD, ↓sxP0, ↓sxGd, sxP1, sxF, sxA, sxS, sxK, sxG, sxH, sxU, encs, tys, sxN, sevalprocAttr, ne_eq, decide_true, decide_false]
              refine BrW.dec (fun q4 => ?_) (fun q4 => ?_)
              · have he : slE1 l (nwK s k) s[k] = 19 := by rw [slE1, if_pos q1, if_pos ⟨q2, q3⟩, hjb, if_pos q4]
                rw [he, if_neg (by decide)] at hat
                rw [show schE l s = (0, 0, 19) by rw [schE, hE, hat]; rfl]
                simp only [↓sxD, ↓sxP0, ↓sxGd, sxP1, sxF, sxA, sxS, sxK, sxG, sxH, sxU, encs, tys, sxN, sevalprocAttr, ne_eq, decide_true, decide_false]
                exact EndW.fn (by simp only [sxL, sxG, sxH, sxU, encs, kpLL_map, sxN, sevalprocAttr, ne_eq, decide_true, decide_false] <;> (try simp) <;> (try omega)) (by simp only [sxL, sxG, sxH, sxU, encs, kpLL_map, sxN, sevalprocAttr, ne_eq, decide_true, decide_false] <;> (try simp) <;> (try omega))
              · simp only [↓sxD, ↓sxP0, ↓sxGd, sxP1, sxF, sxA, sxS, sxK, sxG, sxH, sxU, encs, tys, sxN, sevalprocAttr, ne_eq, decide_true, decide_false]
                refine BrW.dec (fun q5 => ?_) (fun q5 => ?_)
                · have he : slE1 l (nwK s k) s[k] = 17 := by rw [slE1, if_pos q1, if_pos ⟨q2, q3⟩, hjb, if_neg q4, if_pos q5]
                  rw [he, if_neg (by decide)] at hat
                  rw [show schE l s = (0, 0, 17) by rw [schE, hE, hat]; rfl]
                  simp only [↓sxD, ↓sxP0, ↓sxGd, sxP1, sxF, sxA, sxS, sxK, sxG, sxH, sxU, encs, tys, sxN, sevalprocAttr, ne_eq, decide_true, decide_false]
                  exact EndW.fn (by simp only [sxL, sxG, sxH, sxU, encs, kpLL_map, sxN, sevalprocAttr, ne_eq, decide_true, decide_false] <;> (try simp) <;> (try omega)) (by simp only [sxL, sxG, sxH, sxU, encs, kpLL_map, sxN, sevalprocAttr, ne_eq, decide_true, decide_false] <;> (try simp) <;> (try omega))
                · have he : slE1 l (nwK s k) s[k] = 0 := by rw [slE1, if_pos q1, if_pos ⟨q2, q3⟩, hjb, if_neg q4, if_neg q5]
                  rw [if_pos he] at hat
                  have hjd : s[k].job.toNat < (doneK l.length s k).length := by omega
                  have hdx := hdb _ (List.getElem_mem hjd)
                  have hds := doneK_succ (n := l.length) hlt
                  have hes := endsK_succ (n := l.length) hlt
                  rw [gd_eq hjd] at hds
                  simp only [↓sxD, ↓sxP0, ↓sxGd, sxP1, sxF, sxA, sxS, sxK, sxG, sxH, sxU, encs, tys, sxN, sevalprocAttr, ne_eq, decide_true, decide_false]
                  repeat ((with_reducible refine Vc.go ?_ fun _ => ?_); (focus (first | omega | (simp only [InK]; omega) | (simp [InK]; done) | (simp [InK]; omega))); simp only [↓sxD, ↓sxP0, ↓sxGd, sxP1, sxF, sxA, sxS, sxK, sxG, sxH, sxU, encs, tys, sxN, sevalprocAttr, ne_eq, decide_true, decide_false])
                  refine DrawW.plan Tok mixed (.q 0 <| .q 1 <| .q 2 <| .q 3 <| .q 4 <| .q 5 <| .q 6 <| .q 7 <| .q 8 <| .q 9 <| .q 10 <| .q 11 <| .q 12 <| .q 13 <| .q 14 <| .q 15 <| .e 16 [5] <| .q 17 <| .e 18 [] <| .done) (by kernel_rfl) (by kernel_rfl) ?_
                  simp only [↓sxD, ↓sxP0, ↓sxGd, sxP1, sxF, sxA, sxS, sxK, sxG, sxH, sxU, encs, tys, sxN, sevalprocAttr, ne_eq, decide_true, decide_false]
                  repeat ((with_reducible refine Vc.go ?_ fun _ => ?_); (focus (first | omega | (simp only [InK]; omega) | (simp [InK]; done) | (simp [InK]; omega))); simp only [↓sxD, ↓sxP0, ↓sxGd, sxP1, sxF, sxA, sxS, sxK, sxG, sxH, sxU, encs, tys, sxN, sevalprocAttr, ne_eq, decide_true, decide_false])
                  refine IxW.map ((doneK l.length s k)[s[k].job.toNat]) (by omega) (List.getElem?_eq_getElem hjd) ?_
                  simp only [↓sxD, ↓sxP0, ↓sxGd, sxP1, sxF, sxA, sxS, sxK, sxG, sxH, sxU, encs, tys, sxN, sevalprocAttr, ne_eq, decide_true, decide_false]
                  repeat ((with_reducible refine Vc.go ?_ fun _ => ?_); (focus (first | omega | (simp only [InK]; omega) | (simp [InK]; done) | (simp [InK]; omega))); simp only [↓sxD, ↓sxP0, ↓sxGd, sxP1, sxF, sxA, sxS, sxK, sxG, sxH, sxU, encs, tys, sxN, sevalprocAttr, ne_eq, decide_true, decide_false])
                  refine ⟨k + 1, StLe.auto (by simp only [sxS, sxL, sxF, sxG, sxH, sxU, encs, sxN, sevalprocAttr, ne_eq, decide_true, decide_false] <;> (try simp [hds, hes, hns, modI, encs]) <;> (try omega)), ?_, ?_⟩
                  · exact ⟨⟨hlt, hat.symm⟩, okTo2_succ hok hlt (by omega) q3 (by omega)⟩
                  · omega
            · have q3 : ¬ (0 ≤ s[k].start ∧ s[k].start ≤ 20000000) := by simpa using q3
              have he : slE1 l (nwK s k) s[k] = 2 := by rw [slE1, if_pos q1, if_neg (fun h => q3 h.2)]
              rw [he, if_neg (by decide)] at hat
              rw [show schE l s = (0, 0, 2) by rw [schE, hE, hat]; rfl]
              simp only [↓sxD, ↓sxP0, ↓sxGd, sxP1, sxF, sxA, sxS, sxK, sxG, sxH, sxU, encs, tys, sxN, sevalprocAttr, ne_eq, decide_true, decide_false]
              exact EndW.fn (by simp only [sxL, sxG, sxH, sxU, encs, kpLL_map, sxN, sevalprocAttr, ne_eq, decide_true, decide_false] <;> (try simp) <;> (try omega)) (by simp only [sxL, sxG, sxH, sxU, encs, kpLL_map, sxN, sevalprocAttr, ne_eq, decide_true, decide_false] <;> (try simp) <;> (try omega))
          · have q2 : ¬ (1 ≤ s[k].minutes ∧ s[k].minutes ≤ 10000) := by simpa using q2
            have he : slE1 l (nwK s k) s[k] = 2 := by rw [slE1, if_pos q1, if_neg (fun h => q2 h.1)]
            rw [he, if_neg (by decide)] at hat
            rw [show schE l s = (0, 0, 2) by rw [schE, hE, hat]; rfl]
            simp only [↓sxD, ↓sxP0, ↓sxGd, sxP1, sxF, sxA, sxS, sxK, sxG, sxH, sxU, encs, tys, sxN, sevalprocAttr, ne_eq, decide_true, decide_false]
            exact EndW.fn (by simp only [sxL, sxG, sxH, sxU, encs, kpLL_map, sxN, sevalprocAttr, ne_eq, decide_true, decide_false] <;> (try simp) <;> (try omega)) (by simp only [sxL, sxG, sxH, sxU, encs, kpLL_map, sxN, sevalprocAttr, ne_eq, decide_true, decide_false] <;> (try simp) <;> (try omega))
        · have q1 : ¬ (0 ≤ s[k].job ∧ s[k].job ≤ (l.length : Int) - 1) := by simpa using q1
          have he : slE1 l (nwK s k) s[k] = 6 := by rw [slE1, if_neg q1]
          rw [he, if_neg (by decide)] at hat
          rw [show schE l s = (0, 0, 6) by rw [schE, hE, hat]; rfl]
          simp only [↓sxD, ↓sxP0, ↓sxGd, sxP1, sxF, sxA, sxS, sxK, sxG, sxH, sxU, encs, tys, sxN, sevalprocAttr, ne_eq, decide_true, decide_false]
          exact EndW.fn (by simp only [sxL, sxG, sxH, sxU, encs, kpLL_map, sxN, sevalprocAttr, ne_eq, decide_true, decide_false] <;> (try simp) <;> (try omega)) (by simp only [sxL, sxG, sxH, sxU, encs, kpLL_map, sxN, sevalprocAttr, ne_eq, decide_true, decide_false] <;> (try simp) <;> (try omega))
      · simp only [↓sxD, ↓sxP0, ↓sxGd, sxP1, sxF, sxA, sxS, sxK, sxG, sxH, sxU, encs, tys, sxN, sevalprocAttr, ne_eq, decide_true, decide_false]
        have hke : k = s.length := by omega
        subst hke
        rw [List.drop_length] at hJ
        have hz : slE l 0 s = 0 := by rw [← hJ]; rfl
        rw [if_pos hz] at hE
        have hdl := doneK_len l.length s s.length (Nat.le_refl _)
        have hel := endsK_len l.length s s.length (Nat.le_refl _)
        have heb := endsK_b (okTo2_sl hok) s.length (Nat.le_refl _)
        have hdg : ∀ i (h1 : i < l.length) (h2 : i < (doneK l.length s s.length).length), (doneK l.length s s.length)[i] = doneJ s i := fun i h1 h2 => by
          rw [← sums_of hok h1, gd_eq h2]
        have hla : latE l s = (lateL l (endsK l.length s s.length)).getD (worK (lateL l (endsK l.length s s.length)) l.length) 0 := rfl
        have hwo : worL l s = worK (lateL l (endsK l.length s s.length)) l.length := rfl
        generalize endsK l.length s s.length = E at *
        have hVk : ∀ k (h1 : k < E.length) (h2 : k < l.length), (lateL l E).getD k 0 = E[k] - l[k].due := fun k h1 h2 => by
          have hz : k < (E.zip l).length := by simp; omega
          simp only [lateL, List.getD_eq_getElem?_getD, List.getElem?_map, List.getElem?_eq_getElem hz, List.getElem_zip]; rfl
        generalize lateL l E = V at *
        skip
        refine LoopW.comp [0, 7, 8, 12, 13, 14] (by simp only [sxS, sxL, sxF, sxG, sxH, sxU, encs, sxN, sevalprocAttr, ne_eq, decide_true, decide_false] <;> (try simp) <;> (try omega)) ?_
        simp only [sxS, sxF, sxG, sxH, sxU, sxN, sevalprocAttr, ne_eq, decide_true, decide_false]
        refine LoopW.up Tok (fun k : Nat => [(12, (.v (.int .i64 (ltK V k)))), (13, (.v (.int .i64 (ftK V k)))), (14, (.v (.int .i64 k)))]) (fun k => []) (fun k => []) (fun k => []) (fun k => k ≤ l.length ∧ ∀ i, i < k → doneJ s i = (jb l i).minutes) (fun k => l.length - k) (0) (by simp only [sxS, sxL, sxF, sxG, sxH, sxU, encs, sxN, sevalprocAttr, ne_eq, decide_true, decide_false] <;> (try simp [ltK, ftK, encs]) <;> (try omega)) ?_ ?_
        · exact ⟨by omega, fun i hi => by omega⟩
        rintro k ⟨hk, hq⟩
        simp only [↓sxD, ↓sxP0, ↓sxGd, sxP1, sxF, sxA, sxS, sxK, sxG, sxH, sxU, encs, tys, sxN, sevalprocAttr, ne_eq, decide_true, decide_false]
        refine BrW.dec (fun hlt2 => ?_) (fun hlt2 => ?_)
        · simp only [↓sxD, ↓sxP0, ↓sxGd, sxP1, sxF, sxA, sxS, sxK, sxG, sxH, sxU, encs, tys, sxN, sevalprocAttr, ne_eq, decide_true, decide_false]
          have hlt2 : k < l.length := by omega
          have hkd : k < (doneK l.length s s.length).length := by omega
          have hke : k < E.length := by omega
          have hg := hdg k hlt2 hkd
          have hjb := jb_eq hlt2
          have bk := heb _ (List.getElem_mem hke)
          have dk := hj.due _ (List.getElem_mem hlt2)
          have hvk := hVk k hke hlt2
          have hsucc : ∀ i, i < k + 1 → doneJ s k = (jb l k).minutes → doneJ s i = (jb l i).minutes := fun i hi h => by
            by_cases e : i = k
            · subst e; exact h
            · exact hq i (by omega)
          refine DrawW.plan Tok mixed (.q 0 <| .q 1 <| .q 2 <| .q 3 <| .q 4 <| .q 5 <| .q 6 <| .q 7 <| .q 8 <| .q 9 <| .done) (by kernel_rfl) (by kernel_rfl) ?_
          simp only [↓sxD, ↓sxP0, ↓sxGd, sxP1, sxF, sxA, sxS, sxK, sxG, sxH, sxU, encs, tys, sxN, sevalprocAttr, ne_eq, decide_true, decide_false]
          repeat ((with_reducible refine Vc.go ?_ fun _ => ?_); (focus (first | omega | (simp only [InK]; omega) | (simp [InK]; done) | (simp [InK]; omega))); simp only [↓sxD, ↓sxP0, ↓sxGd, sxP1, sxF, sxA, sxS, sxK, sxG, sxH, sxU, encs, tys, sxN, sevalprocAttr, ne_eq, decide_true, decide_false])
          refine IxW.nat hkd ?_
          simp only [↓sxD, ↓sxP0, ↓sxGd, sxP1, sxF, sxA, sxS, sxK, sxG, sxH, sxU, encs, tys, sxN, sevalprocAttr, ne_eq, decide_true, decide_false]
          refine IxW.nat hlt2 ?_
          simp only [↓sxD, ↓sxP0, ↓sxGd, sxP1, sxF, sxA, sxS, sxK, sxG, sxH, sxU, encs, tys, sxN, sevalprocAttr, ne_eq, decide_true, decide_false]
          refine BrW.dec (fun q6 => ?_) (fun q6 => ?_)
          · have hno : ¬ sumsOk l s := fun h => q6 (by rw [hg, h k hlt2, hjb])
            rw [if_neg hno] at hE
            rw [show schE l s = (0, 0, 23) by rw [schE, hE]; rfl]
            simp only [↓sxD, ↓sxP0, ↓sxGd, sxP1, sxF, sxA, sxS, sxK, sxG, sxH, sxU, encs, tys, sxN, sevalprocAttr, ne_eq, decide_true, decide_false]
            exact EndW.fn (by simp only [sxL, sxG, sxH, sxU, encs, kpLL_map, sxN, sevalprocAttr, ne_eq, decide_true, decide_false] <;> (try simp) <;> (try omega)) (by simp only [sxL, sxG, sxH, sxU, encs, kpLL_map, sxN, sevalprocAttr, ne_eq, decide_true, decide_false] <;> (try simp) <;> (try omega))
          · have q6 : (doneK l.length s s.length)[k] = l[k].minutes := Decidable.not_not.1 q6
            have q7 : doneJ s k = (jb l k).minutes := by rw [← hg, q6, hjb]
            simp only [↓sxD, ↓sxP0, ↓sxGd, sxP1, sxF, sxA, sxS, sxK, sxG, sxH, sxU, encs, tys, sxN, sevalprocAttr, ne_eq, decide_true, decide_false]
            refine DrawW.plan Tok mixed (.q 0 <| .q 1 <| .q 2 <| .q 3 <| .q 4 <| .q 5 <| .q 6 <| .q 7 <| .q 8 <| .q 9 <| .q 10 <| .q 11 <| .q 12 <| .q 13 <| .q 14 <| .q 15 <| .done) (by kernel_rfl) (by kernel_rfl) ?_
            simp only [↓sxD, ↓sxP0, ↓sxGd, sxP1, sxF, sxA, sxS, sxK, sxG, sxH, sxU, encs, tys, sxN, sevalprocAttr, ne_eq, decide_true, decide_false]
            refine BrW.dec (fun f0 => ?_) (fun f0 => ?_)
            · have hk0 : k = 0 := by unfold ftK at f0; split at f0 <;> omega
              have hw1 : worK V (k + 1) = k := by subst hk0; simp [worK]
              have e1 : ltK V (k + 1) = E[k] - l[k].due := by rw [ltK, if_neg (by omega), hw1, hvk]
              have e2 : ftK V (k + 1) = (k : Int) := by rw [ftK, if_neg (by omega), hw1]
              simp only [↓sxD, ↓sxP0, ↓sxGd, sxP1, sxF, sxA, sxS, sxK, sxG, sxH, sxU, encs, tys, sxN, sevalprocAttr, ne_eq, decide_true, decide_false]
              refine DrawW.plan Tok mixed (.q 0 <| .q 1 <| .q 2 <| .q 3 <| .q 4 <| .q 5 <| .q 6 <| .q 7 <| .q 8 <| .q 9 <| .q 10 <| .q 11 <| .q 12 <| .done) (by kernel_rfl) (by kernel_rfl) ?_
              simp only [↓sxD, ↓sxP0, ↓sxGd, sxP1, sxF, sxA, sxS, sxK, sxG, sxH, sxU, encs, tys, sxN, sevalprocAttr, ne_eq, decide_true, decide_false]
              repeat ((with_reducible refine Vc.go ?_ fun _ => ?_); (focus (first | omega | (simp only [InK]; omega) | (simp [InK]; done) | (simp [InK]; omega))); simp only [↓sxD, ↓sxP0, ↓sxGd, sxP1, sxF, sxA, sxS, sxK, sxG, sxH, sxU, encs, tys, sxN, sevalprocAttr, ne_eq, decide_true, decide_false])
              refine IxW.nat hke ?_
              simp only [↓sxD, ↓sxP0, ↓sxGd, sxP1, sxF, sxA, sxS, sxK, sxG, sxH, sxU, encs, tys, sxN, sevalprocAttr, ne_eq, decide_true, decide_false]
              refine IxW.nat hlt2 ?_
              simp only [↓sxD, ↓sxP0, ↓sxGd, sxP1, sxF, sxA, sxS, sxK, sxG, sxH, sxU, encs, tys, sxN, sevalprocAttr, ne_eq, decide_true, decide_false]
              repeat ((with_reducible refine Vc.go ?_ fun _ => ?_); (focus (first | omega | (simp only [InK]; omega) | (simp [InK]; done) | (simp [InK]; omega))); simp only [↓sxD, ↓sxP0, ↓sxGd, sxP1, sxF, sxA, sxS, sxK, sxG, sxH, sxU, encs, tys, sxN, sevalprocAttr, ne_eq, decide_true, decide_false])
              refine ⟨k + 1, StLe.auto (by simp only [sxS, sxL, sxF, sxG, sxH, sxU, encs, sxN, sevalprocAttr, ne_eq, decide_true, decide_false] <;> (try simp [e1, e2, encs]) <;> (try omega)), ?_, ?_⟩
              · exact ⟨hlt2, fun i hi => hsucc i hi q7⟩
              · omega
            · have hk0 : k ≠ 0 := fun h => by rw [ftK, if_pos h] at f0; omega
              have el : ltK V k = V.getD (worK V k) 0 := by rw [ltK, if_neg hk0]
              simp only [↓sxD, ↓sxP0, ↓sxGd, sxP1, sxF, sxA, sxS, sxK, sxG, sxH, sxU, encs, tys, sxN, sevalprocAttr, ne_eq, decide_true, decide_false]
              repeat ((with_reducible refine Vc.go ?_ fun _ => ?_); (focus (first | omega | (simp only [InK]; omega) | (simp [InK]; done) | (simp [InK]; omega))); simp only [↓sxD, ↓sxP0, ↓sxGd, sxP1, sxF, sxA, sxS, sxK, sxG, sxH, sxU, encs, tys, sxN, sevalprocAttr, ne_eq, decide_true, decide_false])
              refine IxW.nat hke ?_
              simp only [↓sxD, ↓sxP0, ↓sxGd, sxP1, sxF, sxA, sxS, sxK, sxG, sxH, sxU, encs, tys, sxN, sevalprocAttr, ne_eq, decide_true, decide_false]
              refine IxW.nat hlt2 ?_
              simp only [↓sxD, ↓sxP0, ↓sxGd, sxP1, sxF, sxA, sxS, sxK, sxG, sxH, sxU, encs, tys, sxN, sevalprocAttr, ne_eq, decide_true, decide_false]
              repeat ((with_reducible refine Vc.go ?_ fun _ => ?_); (focus (first | omega | (simp only [InK]; omega) | (simp [InK]; done) | (simp [InK]; omega))); simp only [↓sxD, ↓sxP0, ↓sxGd, sxP1, sxF, sxA, sxS, sxK, sxG, sxH, sxU, encs, tys, sxN, sevalprocAttr, ne_eq, decide_true, decide_false])
              refine BrW.dec (fun f1 => ?_) (fun f1 => ?_)
              · have hw1 : worK V (k + 1) = k := by rw [worK, if_pos (by omega)]
                have e1 : ltK V (k + 1) = E[k] - l[k].due := by rw [ltK, if_neg (by omega), hw1, hvk]
                have e2 : ftK V (k + 1) = (k : Int) := by rw [ftK, if_neg (by omega), hw1]
                simp only [↓sxD, ↓sxP0, ↓sxGd, sxP1, sxF, sxA, sxS, sxK, sxG, sxH, sxU, encs, tys, sxN, sevalprocAttr, ne_eq, decide_true, decide_false]
                refine DrawW.plan Tok mixed (.q 0 <| .q 1 <| .q 2 <| .q 3 <| .q 4 <| .q 5 <| .q 6 <| .q 7 <| .q 8 <| .q 9 <| .q 10 <| .q 11 <| .q 12 <| .done) (by kernel_rfl) (by kernel_rfl) ?_
                simp only [↓sxD, ↓sxP0, ↓sxGd, sxP1, sxF, sxA, sxS, sxK, sxG, sxH, sxU, encs, tys, sxN, sevalprocAttr, ne_eq, decide_true, decide_false]
                repeat ((with_reducible refine Vc.go ?_ fun _ => ?_); (focus (first | omega | (simp only [InK]; omega) | (simp [InK]; done) | (simp [InK]; omega))); simp only [↓sxD, ↓sxP0, ↓sxGd, sxP1, sxF, sxA, sxS, sxK, sxG, sxH, sxU, encs, tys, sxN, sevalprocAttr, ne_eq, decide_true, decide_false])
                refine IxW.nat hke ?_
                simp only [↓sxD, ↓sxP0, ↓sxGd, sxP1, sxF, sxA, sxS, sxK, sxG, sxH, sxU, encs, tys, sxN, sevalprocAttr, ne_eq, decide_true, decide_false]
                refine IxW.nat hlt2 ?_
                simp only [↓sxD, ↓sxP0, ↓sxGd, sxP1, sxF, sxA, sxS, sxK, sxG, sxH, sxU, encs, tys, sxN, sevalprocAttr, ne_eq, decide_true, decide_false]
                repeat ((with_reducible refine Vc.go ?_ fun _ => ?_); (focus (first | omega | (simp only [InK]; omega) | (simp [InK]; done) | (simp [InK]; omega))); simp only [↓sxD, ↓sxP0, ↓sxGd, sxP1, sxF, sxA, sxS, sxK, sxG, sxH, sxU, encs, tys, sxN, sevalprocAttr, ne_eq, decide_true, decide_false])
                refine ⟨k + 1, StLe.auto (by simp only [sxS, sxL, sxF, sxG, sxH, sxU, encs, sxN, sevalprocAttr, ne_eq, decide_true, decide_false] <;> (try simp [e1, e2, encs]) <;> (try omega)), ?_, ?_⟩
                · exact ⟨hlt2, fun i hi => hsucc i hi q7⟩
                · omega
              · have hw1 : worK V (k + 1) = worK V k := by rw [worK, if_neg (by omega)]
                have e1 : ltK V (k + 1) = ltK V k := by rw [ltK, if_neg (by omega), hw1, el]
                have e2 : ftK V (k + 1) = ftK V k := by rw [ftK, if_neg (by omega), hw1, ftK, if_neg hk0]
                simp only [↓sxD, ↓sxP0, ↓sxGd, sxP1, sxF, sxA, sxS, sxK, sxG, sxH, sxU, encs, tys, sxN, sevalprocAttr, ne_eq, decide_true, decide_false]
                repeat ((with_reducible refine Vc.go ?_ fun _ => ?_); (focus (first | omega | (simp only [InK]; omega) | (simp [InK]; done) | (simp [InK]; omega))); simp only [↓sxD, ↓sxP0, ↓sxGd, sxP1, sxF, sxA, sxS, sxK, sxG, sxH, sxU, encs, tys, sxN, sevalprocAttr, ne_eq, decide_true, decide_false])
                refine ⟨k + 1, StLe.auto (by simp only [sxS, sxL, sxF, sxG, sxH, sxU, encs, sxN, sevalprocAttr, ne_eq, decide_true, decide_false] <;> (try simp [e1, e2, encs]) <;> (try omega)), ?_, ?_⟩
                · exact ⟨hlt2, fun i hi => hsucc i hi q7⟩
                · omega
        · simp only [↓sxD, ↓sxP0, ↓sxGd, sxP1, sxF, sxA, sxS, sxK, sxG, sxH, sxU, encs, tys, sxN, sevalprocAttr, ne_eq, decide_true, decide_false]
          have hke : k = l.length := by omega
          subst hke
          have hso : sumsOk l s := hq
          rw [if_pos hso] at hE
          have el : ltK V l.length = latE l s := by rw [ltK, if_neg (by omega), hla]
          have ef : ftK V l.length = (worL l s : Int) := by rw [ftK, if_neg (by omega), hwo]
          rw [show schE l s = (latE l s, (worL l s : Int), 0) by rw [schE, hE]; rfl, el, ef]
          exact EndW.fn (by simp only [sxL, sxG, sxH, sxU, encs, kpLL_map, sxN, sevalprocAttr, ne_eq, decide_true, decide_false] <;> (try simp) <;> (try omega)) (by simp only [sxL, sxG, sxH, sxU, encs, kpLL_map, sxN, sevalprocAttr, ne_eq, decide_true, decide_false] <;> (try simp) <;> (try omega)))
end Go.Proofs.Ytaagelngbbkllaa
