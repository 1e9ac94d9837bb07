/-
  Chapter 6, walks: the examples of the chapter.
-/
import Derived.Test.YtfpkpokkgbobmaaVW13
namespace Go.Proofs.Ytfpkpokkgbobmaa
open Go Go.Vx
set_option linter.unusedSimpArgs false
set_option maxRecDepth 20000
theorem same_s (x y : Bool) (c r c' r' : Int) (l m : List Cell) (hl : l.length ≤ 1000000000) : Ctr Try.prog 44 [.agg [(.v (.int .i64 c)), (.v (.int .i64 r)), .sl x 4 (l.map eC)], .agg [(.v (.int .i64 (c'))), (.v (.int .i64 (r'))), .sl y 4 (m.map eC)]] (fun rr => rr = ⟨(.v (.bool (decide (c = c' ∧ r = r' ∧ l = m)))), []⟩) := by
  refine Ctr.of (rs := [.tmp 4]) Tok true Try.func44 rfl rfl rfl rfl (by simp [ofDL]) (fun w0 kp => ?_)
  simp only [↓sxD, ↓sxP0, sxP1, sxF, sxA, sxS, sxK, encs, tys, sxN, sevalprocAttr, ne_eq, decide_true, decide_false]
  refine BrW.dec (fun h1 => ?_) (fun h1 => ?_)
  · simp only [↓sxD, ↓sxP0, sxP1, sxF, sxA, sxS, sxK, encs, tys, sxN, sevalprocAttr, ne_eq, decide_true, decide_false]
    exact EndW.fn (by simp only [sxL, encs, kpLL_map, sxN, sevalprocAttr, ne_eq, decide_true, decide_false] <;> (try simp [h1]) <;> (try omega)) (by simp only [sxL, encs, kpLL_map, sxN, sevalprocAttr, ne_eq, decide_true, decide_false] <;> (try simp) <;> (try omega))
  simp only [↓sxD, ↓sxP0, sxP1, sxF, sxA, sxS, sxK, encs, tys, sxN, sevalprocAttr, ne_eq, decide_true, decide_false]
  refine BrW.dec (fun h2 => ?_) (fun h2 => ?_)
  · simp only [↓sxD, ↓sxP0, sxP1, sxF, sxA, sxS, sxK, encs, tys, sxN, sevalprocAttr, ne_eq, decide_true, decide_false]
    exact EndW.fn (by simp only [sxL, encs, kpLL_map, sxN, sevalprocAttr, ne_eq, decide_true, decide_false] <;> (try simp [h2]) <;> (try omega)) (by simp only [sxL, encs, kpLL_map, sxN, sevalprocAttr, ne_eq, decide_true, decide_false] <;> (try simp) <;> (try omega))
  simp only [↓sxD, ↓sxP0, sxP1, sxF, sxA, sxS, sxK, encs, tys, sxN, sevalprocAttr, ne_eq, decide_true, decide_false]
  refine BrW.dec (fun hn => ?_) (fun hn => ?_)
  · simp only [↓sxD, ↓sxP0, sxP1, sxF, sxA, sxS, sxK, encs, tys, sxN, sevalprocAttr, ne_eq, decide_true, decide_false]
    have : ¬ l = m := fun h => hn (by rw [h])
    exact EndW.fn (by simp only [sxL, encs, kpLL_map, sxN, sevalprocAttr, ne_eq, decide_true, decide_false] <;> (try simp [this]) <;> (try omega)) (by simp only [sxL, encs, kpLL_map, sxN, sevalprocAttr, ne_eq, decide_true, decide_false] <;> (try simp) <;> (try omega))
  · simp only [↓sxD, ↓sxP0, sxP1, sxF, sxA, sxS, sxK, encs, tys, sxN, sevalprocAttr, ne_eq, decide_true, decide_false]
    have hn2 : l.length = m.length := by omega
    refine LoopW.comp [2, 3, 5] (by simp only [sxS, sxL, sxF, encs, sxN, sevalprocAttr, ne_eq, decide_true, decide_false] <;> (try simp) <;> (try omega)) ?_
    simp only [sxS, sxF, sxN, sevalprocAttr, ne_eq, decide_true, decide_false]
    refine LoopW.up Tok (fun k : Nat => [(5, (.v (.int .i64 k)))]) (fun k => []) (fun k => []) (fun k => []) (fun k => k ≤ l.length ∧ l.take k = m.take k) (fun k => l.length - k) (0) (by simp only [sxS, sxL, sxF, encs, sxN, sevalprocAttr, ne_eq, decide_true, decide_false] <;> (try simp) <;> (try omega)) ?_ ?_
    · exact ⟨by omega, by simp⟩
    rintro k ⟨hk, ht⟩
    simp only [↓sxD, ↓sxP0, sxP1, sxF, sxA, sxS, sxK, encs, tys, sxN, sevalprocAttr, ne_eq, decide_true, decide_false]
    refine BrW.dec (fun hlt => ?_) (fun hlt => ?_)
    · simp only [↓sxD, ↓sxP0, sxP1, sxF, sxA, sxS, sxK, encs, tys, sxN, sevalprocAttr, ne_eq, decide_true, decide_false]
      have g1 : k < l.length := by omega
      have g2 : k < m.length := by omega
      refine DrawW.plan Tok mixed (.q 0 <| .q 1 <| .q 2 <| .q 3 <| .q 4 <| .q 5 <| .q 6 <| .q 7 <| .q 8 <| .q 9 <| .q 10 <| .done) (by kernel_rfl) (by kernel_rfl) ?_
      simp only [↓sxD, ↓sxP0, sxP1, sxF, sxA, sxS, sxK, encs, tys, sxN, sevalprocAttr, ne_eq, decide_true, decide_false]
      refine IxW.nat g1 ?_
      simp only [↓sxD, ↓sxP0, sxP1, sxF, sxA, sxS, sxK, encs, tys, sxN, sevalprocAttr, ne_eq, decide_true, decide_false]
      refine IxW.nat g2 ?_
      simp only [↓sxD, ↓sxP0, sxP1, sxF, sxA, sxS, sxK, encs, tys, sxN, sevalprocAttr, ne_eq, decide_true, decide_false]
      refine BrW.dec (fun hne => ?_) (fun hne => ?_)
      · simp only [↓sxD, ↓sxP0, sxP1, sxF, sxA, sxS, sxK, encs, tys, sxN, sevalprocAttr, ne_eq, decide_true, decide_false]
        have : ¬ l = m := fun h => hne (by subst h; rfl)
        exact EndW.fn (by simp only [sxL, encs, kpLL_map, sxN, sevalprocAttr, ne_eq, decide_true, decide_false] <;> (try simp [this]) <;> (try omega)) (by simp only [sxL, encs, kpLL_map, sxN, sevalprocAttr, ne_eq, decide_true, decide_false] <;> (try simp) <;> (try omega))
      · simp only [↓sxD, ↓sxP0, sxP1, sxF, sxA, sxS, sxK, encs, tys, sxN, sevalprocAttr, ne_eq, decide_true, decide_false]
        have he : l[k] = m[k] := by rw [eC_inj] at hne; exact Decidable.not_not.1 hne
        (with_reducible refine Vc.go ?_ fun _ => ?_); focus (first | omega | (simp only [InK]; omega) | (simp [InK]; done) | (simp [InK]; omega))
        simp only [↓sxD, ↓sxP0, sxP1, sxF, sxA, sxS, sxK, encs, tys, sxN, sevalprocAttr, ne_eq, decide_true, decide_false]
        refine ⟨k + 1, StLe.auto (by simp only [sxS, sxL, sxF, encs, sxN, sevalprocAttr, ne_eq, decide_true, decide_false] <;> (try simp) <;> (try omega)), ?_, ?_⟩
        · exact ⟨g1, take_eq_succ g1 g2 ht he⟩
        · omega
    · simp only [↓sxD, ↓sxP0, sxP1, sxF, sxA, sxS, sxK, encs, tys, sxN, sevalprocAttr, ne_eq, decide_true, decide_false]
      have hke : k = l.length := by omega
      subst hke
      rw [List.take_length, hn2, List.take_length] at ht
      have e1 := Decidable.not_not.1 h1
      have e2 := Decidable.not_not.1 h2
      exact EndW.fn (by simp only [sxL, encs, kpLL_map, sxN, sevalprocAttr, ne_eq, decide_true, decide_false] <;> (try simp [ht, e1, e2]) <;> (try omega)) (by simp only [sxL, encs, kpLL_map, sxN, sevalprocAttr, ne_eq, decide_true, decide_false] <;> (try simp) <;> (try omega))
theorem none_s (x : Bool) (c r : Int) (l : List Cell) : Ctr Try.prog 48 [.agg [(.v (.int .i64 c)), (.v (.int .i64 r)), .sl x 4 (l.map eC)]] (fun rr => rr = ⟨(.v (.bool (decide (c = 0 ∧ r = 0 ∧ l = [])))), []⟩) := by
  refine Ctr.of (rs := [.tmp 2]) Tok true Try.func48 rfl rfl rfl rfl (by simp [ofDL]) (fun w0 kp => ?_)
  simp only [↓sxD, ↓sxP0, sxP1, sxF, sxA, sxS, sxK, encs, tys, sxN, sevalprocAttr, ne_eq, decide_true, decide_false]
  refine BrW.dec (fun h1 => ?_) (fun h1 => ?_)
  · simp only [↓sxD, ↓sxP0, sxP1, sxF, sxA, sxS, sxK, encs, tys, sxN, sevalprocAttr, ne_eq, decide_true, decide_false]
    refine BrW.dec (fun h2 => ?_) (fun h2 => ?_)
    · simp only [↓sxD, ↓sxP0, sxP1, sxF, sxA, sxS, sxK, encs, tys, sxN, sevalprocAttr, ne_eq, decide_true, decide_false]
      exact EndW.fn (by simp only [sxL, encs, kpLL_map, sxN, sevalprocAttr, ne_eq, decide_true, decide_false] <;> (try simp [h1, h2, List.length_eq_zero_iff]) <;> (try omega)) (by simp only [sxL, encs, kpLL_map, sxN, sevalprocAttr, ne_eq, decide_true, decide_false] <;> (try simp) <;> (try omega))
    · simp only [↓sxD, ↓sxP0, sxP1, sxF, sxA, sxS, sxK, encs, tys, sxN, sevalprocAttr, ne_eq, decide_true, decide_false]
      exact EndW.fn (by simp only [sxL, encs, kpLL_map, sxN, sevalprocAttr, ne_eq, decide_true, decide_false] <;> (try simp [h1, h2]) <;> (try omega)) (by simp only [sxL, encs, kpLL_map, sxN, sevalprocAttr, ne_eq, decide_true, decide_false] <;> (try simp) <;> (try omega))
  · simp only [↓sxD, ↓sxP0, sxP1, sxF, sxA, sxS, sxK, encs, tys, sxN, sevalprocAttr, ne_eq, decide_true, decide_false]
    exact EndW.fn (by simp only [sxL, encs, kpLL_map, sxN, sevalprocAttr, ne_eq, decide_true, decide_false] <;> (try simp [h1]) <;> (try omega)) (by simp only [sxL, encs, kpLL_map, sxN, sevalprocAttr, ne_eq, decide_true, decide_false] <;> (try simp) <;> (try omega))
theorem noView_s (x : Bool) (c r : Int) (l : List Page) : Ctr Try.prog 62 [.agg [(.v (.int .i64 c)), (.v (.int .i64 r)), .sl x 2 (l.map eP)]] (fun rr => rr = ⟨(.v (.bool (decide (c = 0 ∧ r = 0 ∧ l = [])))), []⟩) := by
  refine Ctr.of (rs := [.tmp 2]) Tok true Try.func62 rfl rfl rfl rfl (by simp [ofDL]) (fun w0 kp => ?_)
  simp only [↓sxD, ↓sxP0, sxP1, sxF, sxA, sxS, sxK, encs, tys, sxN, sevalprocAttr, ne_eq, decide_true, decide_false]
  refine BrW.dec (fun h1 => ?_) (fun h1 => ?_)
  · simp only [↓sxD, ↓sxP0, sxP1, sxF, sxA, sxS, sxK, encs, tys, sxN, sevalprocAttr, ne_eq, decide_true, decide_false]
    refine BrW.dec (fun h2 => ?_) (fun h2 => ?_)
    · simp only [↓sxD, ↓sxP0, sxP1, sxF, sxA, sxS, sxK, encs, tys, sxN, sevalprocAttr, ne_eq, decide_true, decide_false]
      exact EndW.fn (by simp only [sxL, encs, kpLL_map, sxN, sevalprocAttr, ne_eq, decide_true, decide_false] <;> (try simp [h1, h2, List.length_eq_zero_iff]) <;> (try omega)) (by simp only [sxL, encs, kpLL_map, sxN, sevalprocAttr, ne_eq, decide_true, decide_false] <;> (try simp) <;> (try omega))
    · simp only [↓sxD, ↓sxP0, sxP1, sxF, sxA, sxS, sxK, encs, tys, sxN, sevalprocAttr, ne_eq, decide_true, decide_false]
      exact EndW.fn (by simp only [sxL, encs, kpLL_map, sxN, sevalprocAttr, ne_eq, decide_true, decide_false] <;> (try simp [h1, h2]) <;> (try omega)) (by simp only [sxL, encs, kpLL_map, sxN, sevalprocAttr, ne_eq, decide_true, decide_false] <;> (try simp) <;> (try omega))
  · simp only [↓sxD, ↓sxP0, sxP1, sxF, sxA, sxS, sxK, encs, tys, sxN, sevalprocAttr, ne_eq, decide_true, decide_false]
    exact EndW.fn (by simp only [sxL, encs, kpLL_map, sxN, sevalprocAttr, ne_eq, decide_true, decide_false] <;> (try simp [h1]) <;> (try omega)) (by simp only [sxL, encs, kpLL_map, sxN, sevalprocAttr, ne_eq, decide_true, decide_false] <;> (try simp) <;> (try omega))
theorem light_s (x : Bool) (c r : Int) (l : List Cell) : Ctr Try.prog 54 [.agg [(.v (.int .i64 c)), (.v (.int .i64 r)), .sl x 4 (l.map eC)]] (fun rr => rr = ⟨(.v (.bool (decide ((l.length : Int) ≤ 40)))), []⟩) := by
  refine Ctr.of (rs := [.tmp 2]) Tok true Try.func54 rfl rfl rfl rfl (by simp [ofDL]) (fun w0 kp => ?_)
  simp only [↓sxD, ↓sxP0, sxP1, sxF, sxA, sxS, sxK, encs, tys, sxN, sevalprocAttr, ne_eq, decide_true, decide_false]
  exact EndW.fn (by simp only [sxL, encs, kpLL_map, sxN, sevalprocAttr, ne_eq, decide_true, decide_false] <;> (try simp) <;> (try omega)) (by simp only [sxL, encs, kpLL_map, sxN, sevalprocAttr, ne_eq, decide_true, decide_false] <;> (try simp) <;> (try omega))
theorem pile_s (b : Bool) (c r : Int) (f : List Fold) (hf : Cnt f) : Ctr Try.prog 16 [.agg [(.v (.int .i64 c)), (.v (.int .i64 r))], .sl b 2 (f.map eF)] (fun rr => rr = ⟨.tup [.sl true 4 ((foldedS c r f).1.map eL), (.v (.int .i64 ((foldedS c r f).2.2)))], []⟩) := by
  refine Ctr.of (rs := [.tmp 4, .tmp 5]) Tok true Try.func16 rfl rfl rfl rfl (by simp [ofDL]) (fun w0 kp => ?_)
  simp only [↓sxD, ↓sxP0, sxP1, sxF, sxA, sxS, sxK, encs, tys, sxN, sevalprocAttr, ne_eq, decide_true, decide_false]
  refine CallI.fn (folded_s b c r f hf) (by simp only [sxA, sxL, sxF, encs, sxN, sevalprocAttr, ne_eq, decide_true, decide_false] <;> (try simp)) ?_
  simp only [↓sxD, ↓sxP0, sxP1, sxF, sxA, sxS, sxK, encs, tys, sxN, sevalprocAttr, ne_eq, decide_true, decide_false]
  exact EndW.fn (by simp only [sxL, encs, kpLL_map, sxN, sevalprocAttr, ne_eq, decide_true, decide_false] <;> (try simp [kpL, kpD]) <;> (try omega)) (by simp only [sxL, encs, kpLL_map, sxN, sevalprocAttr, ne_eq, decide_true, decide_false] <;> (try simp) <;> (try omega))
theorem checkFolds_s (b : Bool) (c r : Int) (f : List Fold) (hf : Cnt f) : Ctr Try.prog 20 [.agg [(.v (.int .i64 c)), (.v (.int .i64 r))], .sl b 2 (f.map eF)] (fun rr => rr = ⟨.tup [(.v (.int .i64 ((foldedS c r f).2.1))), (.v (.int .i64 ((foldedS c r f).2.2)))], []⟩) := by
  refine Ctr.of (rs := [.tmp 4, .tmp 5]) Tok true Try.func20 rfl rfl rfl rfl (by simp [ofDL]) (fun w0 kp => ?_)
  simp only [↓sxD, ↓sxP0, sxP1, sxF, sxA, sxS, sxK, encs, tys, sxN, sevalprocAttr, ne_eq, decide_true, decide_false]
  refine CallI.fn (folded_s b c r f hf) (by simp only [sxA, sxL, sxF, encs, sxN, sevalprocAttr, ne_eq, decide_true, decide_false] <;> (try simp)) ?_
  simp only [↓sxD, ↓sxP0, sxP1, sxF, sxA, sxS, sxK, encs, tys, sxN, sevalprocAttr, ne_eq, decide_true, decide_false]
  exact EndW.fn (by simp only [sxL, encs, kpLL_map, sxN, sevalprocAttr, ne_eq, decide_true, decide_false] <;> (try simp) <;> (try omega)) (by simp only [sxL, encs, kpLL_map, sxN, sevalprocAttr, ne_eq, decide_true, decide_false] <;> (try simp) <;> (try omega))
theorem awake_s : Ctr Try.prog 15 [] (fun rr => rr = ⟨(.v (.bool (true))), []⟩) := by
  have s1 : schemeS 2 2 [⟨1, 1⟩, ⟨3, 1⟩] = (2, 2, [⟨7, 0, 8, 0⟩, ⟨6, 0, 5, 0⟩, ⟨2, 1, 1, 1⟩, ⟨3, 1, 4, 1⟩], 0) := by decide
  have s2 : creepS 4 10 5 = (10, 0) := by decide
  have s3 : sigS ⟨20, 8, [], []⟩ = ([⟨1, 8⟩, ⟨9, 16⟩, ⟨17, 20⟩], 4, 0) := by decide
  refine Ctr.of (rs := [.tmp 0]) Tok true Try.func15 rfl rfl rfl rfl (by simp [ofDL]) (fun w0 kp => ?_)
  simp only [↓sxD, ↓sxP0, sxP1, sxF, sxA, sxS, sxK, encs, tys, sxN, sevalprocAttr, ne_eq, decide_true, decide_false]
  refine CallI.fn (quarto_s) (by simp only [sxA, sxL, sxF, encs, sxN, sevalprocAttr, ne_eq, decide_true, decide_false] <;> (try simp)) ?_
  simp only [↓sxD, ↓sxP0, sxP1, sxF, sxA, sxS, sxK, encs, tys, sxN, sevalprocAttr, ne_eq, decide_true, decide_false]
  refine CallI.fn (scheme_s true 2 2 [⟨1, 1⟩, ⟨3, 1⟩] (by intro x hx; simp at hx; rcases hx with rfl | rfl <;> simp)) (by simp only [sxA, sxL, sxF, encs, sxN, sevalprocAttr, ne_eq, decide_true, decide_false] <;> (try simp)) ?_
  simp only [↓sxD, ↓sxP0, sxP1, sxF, sxA, sxS, sxK, encs, tys, sxN, sevalprocAttr, ne_eq, decide_true, decide_false]
  refine CallI.fn (creep_s 4 10 5) (by simp only [sxA, sxL, sxF, encs, sxN, sevalprocAttr, ne_eq, decide_true, decide_false] <;> (try simp)) ?_
  simp only [↓sxD, ↓sxP0, sxP1, sxF, sxA, sxS, sxK, encs, tys, sxN, sevalprocAttr, ne_eq, decide_true, decide_false]
  refine CallI.fn (sig_s true true ⟨20, 8, [], []⟩) (by simp only [sxA, sxL, sxF, encs, sxN, sevalprocAttr, ne_eq, decide_true, decide_false] <;> (try simp)) ?_
  simp only [↓sxD, ↓sxP0, sxP1, sxF, sxA, sxS, sxK, encs, tys, sxN, sevalprocAttr, ne_eq, decide_true, decide_false]
  rw [s1, s2, s3]
  simp only [↓sxD, ↓sxP0, sxP1, sxF, sxA, sxS, sxK, encs, tys, sxN, sevalprocAttr, ne_eq, decide_true, decide_false]
  refine CallI.fn (same_s true false 2 2 2 2 [⟨7, 0, 8, 0⟩, ⟨6, 0, 5, 0⟩, ⟨2, 1, 1, 1⟩, ⟨3, 1, 4, 1⟩] [⟨7, 0, 8, 0⟩, ⟨6, 0, 5, 0⟩, ⟨2, 1, 1, 1⟩, ⟨3, 1, 4, 1⟩] (by simp)) (by simp only [sxA, sxL, sxF, encs, sxN, sevalprocAttr, ne_eq, decide_true, decide_false] <;> (try simp)) ?_
  simp only [↓sxD, ↓sxP0, sxP1, sxF, sxA, sxS, sxK, encs, tys, sxN, sevalprocAttr, ne_eq, decide_true, decide_false]
  refine CallI.fn (ranges_s true false [⟨1, 8⟩, ⟨9, 16⟩, ⟨17, 20⟩] [⟨1, 8⟩, ⟨9, 16⟩, ⟨17, 20⟩] (by simp)) (by simp only [sxA, sxL, sxF, encs, sxN, sevalprocAttr, ne_eq, decide_true, decide_false] <;> (try simp)) ?_
  simp only [↓sxD, ↓sxP0, sxP1, sxF, sxA, sxS, sxK, encs, tys, sxN, sevalprocAttr, ne_eq, decide_true, decide_false]
  exact EndW.fn (by simp only [sxL, encs, kpLL_map, sxN, sevalprocAttr, ne_eq, decide_true, decide_false] <;> (try simp) <;> (try omega)) (by simp only [sxL, encs, kpLL_map, sxN, sevalprocAttr, ne_eq, decide_true, decide_false] <;> (try simp) <;> (try omega))
end Go.Proofs.Ytfpkpokkgbobmaa
