/-
  Chapter 6, walks: the law of turns.
-/
import Derived.Test.YtfpkpokkgbobmaaVW14
import Derived.Test.YtfpkpokkgbobmaaVP6Turns
namespace Go.Proofs.Ytfpkpokkgbobmaa
open Go Go.Vx
set_option linter.unusedSimpArgs false
set_option maxRecDepth 20000
theorem cnt_app {l m : List Fold} (h : Cnt l) (k : Cnt m) : Cnt (l ++ m) := fun x hx => (List.mem_append.1 hx).elim (h x) (k x)
theorem turnsLaw_s (c r : Int) (b : Bool) (l : List Fold) (at' : Int) (hcnt : Cnt l) (hat : -9223372036854775808 ≤ at' ∧ at' ≤ 9223372036854775807) : Ctr Try.prog 3 [.agg [(.v (.int .i64 c)), (.v (.int .i64 r))], .sl b 2 (l.map eF), (.v (.int .i64 (at')))] (fun rr => rr = ⟨(.v (.bool (true))), []⟩) := by
  refine Ctr.of (rs := [.tmp 6]) Tok true Try.func3 rfl rfl rfl rfl (by simp [ofDL]) (fun w0 kp => ?_)
  simp only [↓sxD, ↓sxP0, sxP1, sxF, sxA, sxS, sxK, encs, tys, sxN, Nat.reduceAdd, Nat.reduceMul, Nat.reduceEqDiff, Nat.reduceLeDiff, ↓reduceIte, reduceCtorEq, Nat.reduceSub, Nat.reduceBEq, ne_eq, decide_true, decide_false, Int.reduceToNat, Int.reduceEq, Int.reduceLT, Int.reduceLE, Int.reduceNe]
  refine CallI.fn (awake_s) (by simp only [sxA, sxL, sxF, encs, sxN, Nat.reduceAdd, Nat.reduceMul, Nat.reduceEqDiff, Nat.reduceLeDiff, ↓reduceIte, reduceCtorEq, Nat.reduceSub, Nat.reduceBEq, ne_eq, decide_true, decide_false, Int.reduceToNat, Int.reduceEq, Int.reduceLT, Int.reduceLE, Int.reduceNe] <;> (try simp)) ?_
  simp only [↓sxD, ↓sxP0, sxP1, sxF, sxA, sxS, sxK, encs, tys, sxN, Nat.reduceAdd, Nat.reduceMul, Nat.reduceEqDiff, Nat.reduceLeDiff, ↓reduceIte, reduceCtorEq, Nat.reduceSub, Nat.reduceBEq, ne_eq, decide_true, decide_false, Int.reduceToNat, Int.reduceEq, Int.reduceLT, Int.reduceLE, Int.reduceNe]
  refine BrW.dec (fun hn => ?_) (fun hn => ?_)
  · simp only [↓sxD, ↓sxP0, sxP1, sxF, sxA, sxS, sxK, encs, tys, sxN, Nat.reduceAdd, Nat.reduceMul, Nat.reduceEqDiff, Nat.reduceLeDiff, ↓reduceIte, reduceCtorEq, Nat.reduceSub, Nat.reduceBEq, ne_eq, decide_true, decide_false, Int.reduceToNat, Int.reduceEq, Int.reduceLT, Int.reduceLE, Int.reduceNe]
    exact EndW.fn (by simp only [sxL, encs, kpLL_map, sxN, Nat.reduceAdd, Nat.reduceMul, Nat.reduceEqDiff, Nat.reduceLeDiff, ↓reduceIte, reduceCtorEq, Nat.reduceSub, Nat.reduceBEq, ne_eq, decide_true, decide_false, Int.reduceToNat, Int.reduceEq, Int.reduceLT, Int.reduceLE, Int.reduceNe] <;> (try simp) <;> (try omega)) (by simp only [sxL, encs, kpLL_map, sxN, Nat.reduceAdd, Nat.reduceMul, Nat.reduceEqDiff, Nat.reduceLeDiff, ↓reduceIte, reduceCtorEq, Nat.reduceSub, Nat.reduceBEq, ne_eq, decide_true, decide_false, Int.reduceToNat, Int.reduceEq, Int.reduceLT, Int.reduceLE, Int.reduceNe] <;> (try simp) <;> (try omega))
  · simp only [↓sxD, ↓sxP0, sxP1, sxF, sxA, sxS, sxK, encs, tys, sxN, Nat.reduceAdd, Nat.reduceMul, Nat.reduceEqDiff, Nat.reduceLeDiff, ↓reduceIte, reduceCtorEq, Nat.reduceSub, Nat.reduceBEq, ne_eq, decide_true, decide_false, Int.reduceToNat, Int.reduceEq, Int.reduceLT, Int.reduceLE, Int.reduceNe]
    refine DrawW.plan Tok mixed (.q 0 <| .q 1 <| .e 2 [0] <| .e 3 [] <| .q 4 <| .q 5 <| .q 6 <| .q 7 <| .q 8 <| .done) (by kernel_rfl) (by kernel_rfl) ?_
    simp only [↓sxD, ↓sxP0, sxP1, sxF, sxA, sxS, sxK, encs, tys, sxN, Nat.reduceAdd, Nat.reduceMul, Nat.reduceEqDiff, Nat.reduceLeDiff, ↓reduceIte, reduceCtorEq, Nat.reduceSub, Nat.reduceBEq, ne_eq, decide_true, decide_false, Int.reduceToNat, Int.reduceEq, Int.reduceLT, Int.reduceLE, Int.reduceNe]
    refine CallI.ctr (folds_s b l (by omega)) (by simp only [sxA, sxL, sxF, encs, sxN, Nat.reduceAdd, Nat.reduceMul, Nat.reduceEqDiff, Nat.reduceLeDiff, ↓reduceIte, reduceCtorEq, Nat.reduceSub, Nat.reduceBEq, ne_eq, decide_true, decide_false, Int.reduceToNat, Int.reduceEq, Int.reduceLT, Int.reduceLE, Int.reduceNe] <;> (try simp)) ?_
    rintro _ rfl
    simp only [↓sxD, ↓sxP0, sxP1, sxF, sxA, sxS, sxK, encs, tys, sxN, Nat.reduceAdd, Nat.reduceMul, Nat.reduceEqDiff, Nat.reduceLeDiff, ↓reduceIte, reduceCtorEq, Nat.reduceSub, Nat.reduceBEq, ne_eq, decide_true, decide_false, Int.reduceToNat, Int.reduceEq, Int.reduceLT, Int.reduceLE, Int.reduceNe]
    refine CallI.fn (pile_s false c r l hcnt) (by simp only [sxA, sxL, sxF, encs, sxN, Nat.reduceAdd, Nat.reduceMul, Nat.reduceEqDiff, Nat.reduceLeDiff, ↓reduceIte, reduceCtorEq, Nat.reduceSub, Nat.reduceBEq, ne_eq, decide_true, decide_false, Int.reduceToNat, Int.reduceEq, Int.reduceLT, Int.reduceLE, Int.reduceNe] <;> (try simp)) ?_
    simp only [↓sxD, ↓sxP0, sxP1, sxF, sxA, sxS, sxK, encs, tys, sxN, Nat.reduceAdd, Nat.reduceMul, Nat.reduceEqDiff, Nat.reduceLeDiff, ↓reduceIte, reduceCtorEq, Nat.reduceSub, Nat.reduceBEq, ne_eq, decide_true, decide_false, Int.reduceToNat, Int.reduceEq, Int.reduceLT, Int.reduceLE, Int.reduceNe]
    refine BrW.dec (fun he => ?_) (fun he => ?_)
    · simp only [↓sxD, ↓sxP0, sxP1, sxF, sxA, sxS, sxK, encs, tys, sxN, Nat.reduceAdd, Nat.reduceMul, Nat.reduceEqDiff, Nat.reduceLeDiff, ↓reduceIte, reduceCtorEq, Nat.reduceSub, Nat.reduceBEq, ne_eq, decide_true, decide_false, Int.reduceToNat, Int.reduceEq, Int.reduceLT, Int.reduceLE, Int.reduceNe]
      exact EndW.fn (by simp only [sxL, encs, kpLL_map, sxN, Nat.reduceAdd, Nat.reduceMul, Nat.reduceEqDiff, Nat.reduceLeDiff, ↓reduceIte, reduceCtorEq, Nat.reduceSub, Nat.reduceBEq, ne_eq, decide_true, decide_false, Int.reduceToNat, Int.reduceEq, Int.reduceLT, Int.reduceLE, Int.reduceNe] <;> (try simp [folded_bad he]) <;> (try omega)) (by simp only [sxL, encs, kpLL_map, sxN, Nat.reduceAdd, Nat.reduceMul, Nat.reduceEqDiff, Nat.reduceLeDiff, ↓reduceIte, reduceCtorEq, Nat.reduceSub, Nat.reduceBEq, ne_eq, decide_true, decide_false, Int.reduceToNat, Int.reduceEq, Int.reduceLT, Int.reduceLE, Int.reduceNe] <;> (try simp) <;> (try omega))
    · simp only [↓sxD, ↓sxP0, sxP1, sxF, sxA, sxS, sxK, encs, tys, sxN, Nat.reduceAdd, Nat.reduceMul, Nat.reduceEqDiff, Nat.reduceLeDiff, ↓reduceIte, reduceCtorEq, Nat.reduceSub, Nat.reduceBEq, ne_eq, decide_true, decide_false, Int.reduceToNat, Int.reduceEq, Int.reduceLT, Int.reduceLE, Int.reduceNe]
      have he0 : (foldedS c r l).2.2 = 0 := Decidable.not_not.1 he
      repeat ((with_reducible refine Vc.go ?_ fun _ => ?_); (focus (first | omega | (simp only [InK]; omega) | (simp [InK]; done) | (simp [InK]; omega))); simp only [↓sxD, ↓sxP0, sxP1, sxF, sxA, sxS, sxK, encs, tys, sxN, Nat.reduceAdd, Nat.reduceMul, Nat.reduceEqDiff, Nat.reduceLeDiff, ↓reduceIte, reduceCtorEq, Nat.reduceSub, Nat.reduceBEq, ne_eq, decide_true, decide_false, Int.reduceToNat, Int.reduceEq, Int.reduceLT, Int.reduceLE, Int.reduceNe])
      refine CallI.fn (mod_s at' ((l.length : Int) + 1) (by omega) hat (by omega)) (by simp only [sxA, sxL, sxF, encs, sxN, Nat.reduceAdd, Nat.reduceMul, Nat.reduceEqDiff, Nat.reduceLeDiff, ↓reduceIte, reduceCtorEq, Nat.reduceSub, Nat.reduceBEq, ne_eq, decide_true, decide_false, Int.reduceToNat, Int.reduceEq, Int.reduceLT, Int.reduceLE, Int.reduceNe] <;> (try simp)) ?_
      simp only [↓sxD, ↓sxP0, sxP1, sxF, sxA, sxS, sxK, encs, tys, sxN, Nat.reduceAdd, Nat.reduceMul, Nat.reduceEqDiff, Nat.reduceLeDiff, ↓reduceIte, reduceCtorEq, Nat.reduceSub, Nat.reduceBEq, ne_eq, decide_true, decide_false, Int.reduceToNat, Int.reduceEq, Int.reduceLT, Int.reduceLE, Int.reduceNe]
      have hm0 := Int.emod_nonneg at' (b := (l.length : Int) + 1) (by omega)
      have hm1 := Int.emod_lt_of_pos at' (b := (l.length : Int) + 1) (by omega)
      obtain ⟨kn, hkn, hkl⟩ : ∃ kn : Nat, at' % ((l.length : Int) + 1) = kn ∧ kn ≤ l.length := ⟨(at' % ((l.length : Int) + 1)).toNat, by omega, by omega⟩
      rw [hkn]
      have hlen : (foldedS c r l).1.length ≤ 1000000000 := Nat.le_trans (folded_len c r l) (by omega)
      refine LoopW.comp [1, 3, 7, 9, 10] (by simp only [sxS, sxL, sxF, encs, sxN, Nat.reduceAdd, Nat.reduceMul, Nat.reduceEqDiff, Nat.reduceLeDiff, ↓reduceIte, reduceCtorEq, Nat.reduceSub, Nat.reduceBEq, ne_eq, decide_true, decide_false, Int.reduceToNat, Int.reduceEq, Int.reduceLT, Int.reduceLE, Int.reduceNe] <;> (try simp) <;> (try omega)) ?_
      simp only [sxS, sxF, sxN, Nat.reduceAdd, Nat.reduceMul, Nat.reduceEqDiff, Nat.reduceLeDiff, ↓reduceIte, reduceCtorEq, Nat.reduceSub, Nat.reduceBEq, ne_eq, decide_true, decide_false, Int.reduceToNat, Int.reduceEq, Int.reduceLT, Int.reduceLE, Int.reduceNe]
      refine LoopW.up Tok (fun k : Nat => [(10, (.v (.int .i64 (k + 5))))]) (fun k => []) (fun k => []) (fun k => []) (fun k => k ≤ 2) (fun k => 2 - k) (0) (by simp only [sxS, sxL, sxF, encs, sxN, Nat.reduceAdd, Nat.reduceMul, Nat.reduceEqDiff, Nat.reduceLeDiff, ↓reduceIte, reduceCtorEq, Nat.reduceSub, Nat.reduceBEq, ne_eq, decide_true, decide_false, Int.reduceToNat, Int.reduceEq, Int.reduceLT, Int.reduceLE, Int.reduceNe] <;> (try simp) <;> (try omega)) ?_ ?_
      · omega
      rintro k hk
      simp only [↓sxD, ↓sxP0, sxP1, sxF, sxA, sxS, sxK, encs, tys, sxN, Nat.reduceAdd, Nat.reduceMul, Nat.reduceEqDiff, Nat.reduceLeDiff, ↓reduceIte, reduceCtorEq, Nat.reduceSub, Nat.reduceBEq, ne_eq, decide_true, decide_false, Int.reduceToNat, Int.reduceEq, Int.reduceLT, Int.reduceLE, Int.reduceNe]
      refine BrW.dec (fun hlt => ?_) (fun hlt => ?_)
      · simp only [↓sxD, ↓sxP0, sxP1, sxF, sxA, sxS, sxK, encs, tys, sxN, Nat.reduceAdd, Nat.reduceMul, Nat.reduceEqDiff, Nat.reduceLeDiff, ↓reduceIte, reduceCtorEq, Nat.reduceSub, Nat.reduceBEq, ne_eq, decide_true, decide_false, Int.reduceToNat, Int.reduceEq, Int.reduceLT, Int.reduceLE, Int.reduceNe]
        refine DrawW.plan Tok mixed (.q 0 <| .q 1 <| .q 2 <| .q 4 <| .q 5 <| .q 6 <| .q 7 <| .q 10 <| .q 11 <| .q 12 <| .e2 3 [] (.e 8 [] <| .e 9 [] <| .e 13 [] <| .q 14 <| .done) 8 [] (.e 3 [] <| .e 9 [] <| .e 13 [] <| .q 14 <| .done)) (by kernel_rfl) (by kernel_rfl) ?_
        simp only [↓sxD, ↓sxP0, sxP1, sxF, sxA, sxS, sxK, encs, tys, sxN, Nat.reduceAdd, Nat.reduceMul, Nat.reduceEqDiff, Nat.reduceLeDiff, ↓reduceIte, reduceCtorEq, Nat.reduceSub, Nat.reduceBEq, ne_eq, decide_true, decide_false, Int.reduceToNat, Int.reduceEq, Int.reduceLT, Int.reduceLE, Int.reduceNe]
        repeat ((with_reducible refine Vc.go ?_ fun _ => ?_); (focus (first | omega | (simp only [InK]; omega) | (simp [InK]; done) | (simp [InK]; omega))); simp only [↓sxD, ↓sxP0, sxP1, sxF, sxA, sxS, sxK, encs, tys, sxN, Nat.reduceAdd, Nat.reduceMul, Nat.reduceEqDiff, Nat.reduceLeDiff, ↓reduceIte, reduceCtorEq, Nat.reduceSub, Nat.reduceBEq, ne_eq, decide_true, decide_false, Int.reduceToNat, Int.reduceEq, Int.reduceLT, Int.reduceLE, Int.reduceNe])
        rw [Int.toNat_natCast, ← List.map_take, ← List.map_drop]
        have hrow : List.map eF (l.take kn) ++ [[D.v (.int .i64 ((k : Int) + 5)), D.v (.int .i64 0)], [D.v (.int .i64 ((k : Int) + 5)), D.v (.int .i64 0)]] ++ List.map eF (l.drop kn) = (l.take kn ++ (⟨(k : Int) + 5, 0⟩ : Fold) :: ⟨(k : Int) + 5, 0⟩ :: l.drop kn).map eF := by simp [eF]
        have htw := turns_twice (c := c) (r := r) (l := l) (x := ⟨(k : Int) + 5, 0⟩) kn (by simp only [Fold.mk.injEq, and_true]; omega) (by omega) he0
        have hcw : Cnt (l.take kn ++ (⟨(k : Int) + 5, 0⟩ : Fold) :: ⟨(k : Int) + 5, 0⟩ :: l.drop kn) := by
          intro x hx
          simp only [List.mem_append, List.mem_cons] at hx
          rcases hx with hx | rfl | rfl | hx
          · exact hcnt x (List.mem_of_mem_take hx)
          · simp
          · simp
          · exact hcnt x (List.mem_of_mem_drop hx)
        refine ⟨?_, ?_⟩
        · refine CallI.ctr (folds_s b (l.take kn) (by simp; omega)) (by simp only [sxA, sxL, sxF, encs, sxN, Nat.reduceAdd, Nat.reduceMul, Nat.reduceEqDiff, Nat.reduceLeDiff, ↓reduceIte, reduceCtorEq, Nat.reduceSub, Nat.reduceBEq, ne_eq, decide_true, decide_false, Int.reduceToNat, Int.reduceEq, Int.reduceLT, Int.reduceLE, Int.reduceNe] <;> (try simp)) ?_
          rintro _ rfl
          simp only [↓sxD, ↓sxP0, sxP1, sxF, sxA, sxS, sxK, encs, tys, sxN, Nat.reduceAdd, Nat.reduceMul, Nat.reduceEqDiff, Nat.reduceLeDiff, ↓reduceIte, reduceCtorEq, Nat.reduceSub, Nat.reduceBEq, ne_eq, decide_true, decide_false, Int.reduceToNat, Int.reduceEq, Int.reduceLT, Int.reduceLE, Int.reduceNe]
          repeat ((with_reducible refine Vc.go ?_ fun _ => ?_); (focus (first | omega | (simp only [InK]; omega) | (simp [InK]; done) | (simp [InK]; omega))); simp only [↓sxD, ↓sxP0, sxP1, sxF, sxA, sxS, sxK, encs, tys, sxN, Nat.reduceAdd, Nat.reduceMul, Nat.reduceEqDiff, Nat.reduceLeDiff, ↓reduceIte, reduceCtorEq, Nat.reduceSub, Nat.reduceBEq, ne_eq, decide_true, decide_false, Int.reduceToNat, Int.reduceEq, Int.reduceLT, Int.reduceLE, Int.reduceNe])
          rw [hrow]
          refine CallI.fn (pile_s false c r _ hcw) (by simp only [sxA, sxL, sxF, encs, sxN, Nat.reduceAdd, Nat.reduceMul, Nat.reduceEqDiff, Nat.reduceLeDiff, ↓reduceIte, reduceCtorEq, Nat.reduceSub, Nat.reduceBEq, ne_eq, decide_true, decide_false, Int.reduceToNat, Int.reduceEq, Int.reduceLT, Int.reduceLE, Int.reduceNe] <;> (try simp)) ?_
          simp only [↓sxD, ↓sxP0, sxP1, sxF, sxA, sxS, sxK, encs, tys, sxN, Nat.reduceAdd, Nat.reduceMul, Nat.reduceEqDiff, Nat.reduceLeDiff, ↓reduceIte, reduceCtorEq, Nat.reduceSub, Nat.reduceBEq, ne_eq, decide_true, decide_false, Int.reduceToNat, Int.reduceEq, Int.reduceLT, Int.reduceLE, Int.reduceNe]
          rw [htw]
          simp only [↓sxD, ↓sxP0, sxP1, sxF, sxA, sxS, sxK, encs, tys, sxN, Nat.reduceAdd, Nat.reduceMul, Nat.reduceEqDiff, Nat.reduceLeDiff, ↓reduceIte, reduceCtorEq, Nat.reduceSub, Nat.reduceBEq, ne_eq, decide_true, decide_false, Int.reduceToNat, Int.reduceEq, Int.reduceLT, Int.reduceLE, Int.reduceNe]
          refine BrW.ff (by simp) ?_
          simp only [↓sxD, ↓sxP0, sxP1, sxF, sxA, sxS, sxK, encs, tys, sxN, Nat.reduceAdd, Nat.reduceMul, Nat.reduceEqDiff, Nat.reduceLeDiff, ↓reduceIte, reduceCtorEq, Nat.reduceSub, Nat.reduceBEq, ne_eq, decide_true, decide_false, Int.reduceToNat, Int.reduceEq, Int.reduceLT, Int.reduceLE, Int.reduceNe]
          refine CallI.fn (sameLeaves_s true true (foldedS c r l).1 (foldedS c r l).1 hlen) (by simp only [sxA, sxL, sxF, encs, sxN, Nat.reduceAdd, Nat.reduceMul, Nat.reduceEqDiff, Nat.reduceLeDiff, ↓reduceIte, reduceCtorEq, Nat.reduceSub, Nat.reduceBEq, ne_eq, decide_true, decide_false, Int.reduceToNat, Int.reduceEq, Int.reduceLT, Int.reduceLE, Int.reduceNe] <;> (try simp)) ?_
          simp only [↓sxD, ↓sxP0, sxP1, sxF, sxA, sxS, sxK, encs, tys, sxN, Nat.reduceAdd, Nat.reduceMul, Nat.reduceEqDiff, Nat.reduceLeDiff, ↓reduceIte, reduceCtorEq, Nat.reduceSub, Nat.reduceBEq, ne_eq, decide_true, decide_false, Int.reduceToNat, Int.reduceEq, Int.reduceLT, Int.reduceLE, Int.reduceNe]
          (with_reducible refine Vc.go ?_ fun _ => ?_); focus (first | omega | (simp only [InK]; omega) | (simp [InK]; done) | (simp [InK]; omega))
          simp only [↓sxD, ↓sxP0, sxP1, sxF, sxA, sxS, sxK, encs, tys, sxN, Nat.reduceAdd, Nat.reduceMul, Nat.reduceEqDiff, Nat.reduceLeDiff, ↓reduceIte, reduceCtorEq, Nat.reduceSub, Nat.reduceBEq, ne_eq, decide_true, decide_false, Int.reduceToNat, Int.reduceEq, Int.reduceLT, Int.reduceLE, Int.reduceNe]
          have hk5 : (k : Int) + 5 + 1 = ((k + 1 : Nat) : Int) + 5 := by omega
          rw [hk5]
          refine ⟨k + 1, StLe.auto (by simp only [sxS, sxL, sxF, encs, sxN, Nat.reduceAdd, Nat.reduceMul, Nat.reduceEqDiff, Nat.reduceLeDiff, ↓reduceIte, reduceCtorEq, Nat.reduceSub, Nat.reduceBEq, ne_eq, decide_true, decide_false, Int.reduceToNat, Int.reduceEq, Int.reduceLT, Int.reduceLE, Int.reduceNe] <;> (try simp) <;> (try omega)), ?_, ?_⟩
          · omega
          · omega
        · refine CallI.ctr (folds_s b (l.take kn) (by simp; omega)) (by simp only [sxA, sxL, sxF, encs, sxN, Nat.reduceAdd, Nat.reduceMul, Nat.reduceEqDiff, Nat.reduceLeDiff, ↓reduceIte, reduceCtorEq, Nat.reduceSub, Nat.reduceBEq, ne_eq, decide_true, decide_false, Int.reduceToNat, Int.reduceEq, Int.reduceLT, Int.reduceLE, Int.reduceNe] <;> (try simp)) ?_
          rintro _ rfl
          simp only [↓sxD, ↓sxP0, sxP1, sxF, sxA, sxS, sxK, encs, tys, sxN, Nat.reduceAdd, Nat.reduceMul, Nat.reduceEqDiff, Nat.reduceLeDiff, ↓reduceIte, reduceCtorEq, Nat.reduceSub, Nat.reduceBEq, ne_eq, decide_true, decide_false, Int.reduceToNat, Int.reduceEq, Int.reduceLT, Int.reduceLE, Int.reduceNe]
          repeat ((with_reducible refine Vc.go ?_ fun _ => ?_); (focus (first | omega | (simp only [InK]; omega) | (simp [InK]; done) | (simp [InK]; omega))); simp only [↓sxD, ↓sxP0, sxP1, sxF, sxA, sxS, sxK, encs, tys, sxN, Nat.reduceAdd, Nat.reduceMul, Nat.reduceEqDiff, Nat.reduceLeDiff, ↓reduceIte, reduceCtorEq, Nat.reduceSub, Nat.reduceBEq, ne_eq, decide_true, decide_false, Int.reduceToNat, Int.reduceEq, Int.reduceLT, Int.reduceLE, Int.reduceNe])
          rw [hrow]
          refine CallI.fn (pile_s false c r _ hcw) (by simp only [sxA, sxL, sxF, encs, sxN, Nat.reduceAdd, Nat.reduceMul, Nat.reduceEqDiff, Nat.reduceLeDiff, ↓reduceIte, reduceCtorEq, Nat.reduceSub, Nat.reduceBEq, ne_eq, decide_true, decide_false, Int.reduceToNat, Int.reduceEq, Int.reduceLT, Int.reduceLE, Int.reduceNe] <;> (try simp)) ?_
          simp only [↓sxD, ↓sxP0, sxP1, sxF, sxA, sxS, sxK, encs, tys, sxN, Nat.reduceAdd, Nat.reduceMul, Nat.reduceEqDiff, Nat.reduceLeDiff, ↓reduceIte, reduceCtorEq, Nat.reduceSub, Nat.reduceBEq, ne_eq, decide_true, decide_false, Int.reduceToNat, Int.reduceEq, Int.reduceLT, Int.reduceLE, Int.reduceNe]
          rw [htw]
          simp only [↓sxD, ↓sxP0, sxP1, sxF, sxA, sxS, sxK, encs, tys, sxN, Nat.reduceAdd, Nat.reduceMul, Nat.reduceEqDiff, Nat.reduceLeDiff, ↓reduceIte, reduceCtorEq, Nat.reduceSub, Nat.reduceBEq, ne_eq, decide_true, decide_false, Int.reduceToNat, Int.reduceEq, Int.reduceLT, Int.reduceLE, Int.reduceNe]
          refine BrW.ff (by simp) ?_
          simp only [↓sxD, ↓sxP0, sxP1, sxF, sxA, sxS, sxK, encs, tys, sxN, Nat.reduceAdd, Nat.reduceMul, Nat.reduceEqDiff, Nat.reduceLeDiff, ↓reduceIte, reduceCtorEq, Nat.reduceSub, Nat.reduceBEq, ne_eq, decide_true, decide_false, Int.reduceToNat, Int.reduceEq, Int.reduceLT, Int.reduceLE, Int.reduceNe]
          refine CallI.fn (sameLeaves_s true true (foldedS c r l).1 (foldedS c r l).1 hlen) (by simp only [sxA, sxL, sxF, encs, sxN, Nat.reduceAdd, Nat.reduceMul, Nat.reduceEqDiff, Nat.reduceLeDiff, ↓reduceIte, reduceCtorEq, Nat.reduceSub, Nat.reduceBEq, ne_eq, decide_true, decide_false, Int.reduceToNat, Int.reduceEq, Int.reduceLT, Int.reduceLE, Int.reduceNe] <;> (try simp)) ?_
          simp only [↓sxD, ↓sxP0, sxP1, sxF, sxA, sxS, sxK, encs, tys, sxN, Nat.reduceAdd, Nat.reduceMul, Nat.reduceEqDiff, Nat.reduceLeDiff, ↓reduceIte, reduceCtorEq, Nat.reduceSub, Nat.reduceBEq, ne_eq, decide_true, decide_false, Int.reduceToNat, Int.reduceEq, Int.reduceLT, Int.reduceLE, Int.reduceNe]
          (with_reducible refine Vc.go ?_ fun _ => ?_); focus (first | omega | (simp only [InK]; omega) | (simp [InK]; done) | (simp [InK]; omega))
          simp only [↓sxD, ↓sxP0, sxP1, sxF, sxA, sxS, sxK, encs, tys, sxN, Nat.reduceAdd, Nat.reduceMul, Nat.reduceEqDiff, Nat.reduceLeDiff, ↓reduceIte, reduceCtorEq, Nat.reduceSub, Nat.reduceBEq, ne_eq, decide_true, decide_false, Int.reduceToNat, Int.reduceEq, Int.reduceLT, Int.reduceLE, Int.reduceNe]
          have hk5 : (k : Int) + 5 + 1 = ((k + 1 : Nat) : Int) + 5 := by omega
          rw [hk5]
          refine ⟨k + 1, StLe.auto (by simp only [sxS, sxL, sxF, encs, sxN, Nat.reduceAdd, Nat.reduceMul, Nat.reduceEqDiff, Nat.reduceLeDiff, ↓reduceIte, reduceCtorEq, Nat.reduceSub, Nat.reduceBEq, ne_eq, decide_true, decide_false, Int.reduceToNat, Int.reduceEq, Int.reduceLT, Int.reduceLE, Int.reduceNe] <;> (try simp) <;> (try omega)), ?_, ?_⟩
          · omega
          · omega
      · simp only [↓sxD, ↓sxP0, sxP1, sxF, sxA, sxS, sxK, encs, tys, sxN, Nat.reduceAdd, Nat.reduceMul, Nat.reduceEqDiff, Nat.reduceLeDiff, ↓reduceIte, reduceCtorEq, Nat.reduceSub, Nat.reduceBEq, ne_eq, decide_true, decide_false, Int.reduceToNat, Int.reduceEq, Int.reduceLT, Int.reduceLE, Int.reduceNe]
        refine LoopW.comp [1, 3, 7, 14, 15] (by simp only [sxS, sxL, sxF, encs, sxN, Nat.reduceAdd, Nat.reduceMul, Nat.reduceEqDiff, Nat.reduceLeDiff, ↓reduceIte, reduceCtorEq, Nat.reduceSub, Nat.reduceBEq, ne_eq, decide_true, decide_false, Int.reduceToNat, Int.reduceEq, Int.reduceLT, Int.reduceLE, Int.reduceNe] <;> (try simp) <;> (try omega)) ?_
        simp only [sxS, sxF, sxN, Nat.reduceAdd, Nat.reduceMul, Nat.reduceEqDiff, Nat.reduceLeDiff, ↓reduceIte, reduceCtorEq, Nat.reduceSub, Nat.reduceBEq, ne_eq, decide_true, decide_false, Int.reduceToNat, Int.reduceEq, Int.reduceLT, Int.reduceLE, Int.reduceNe]
        refine LoopW.up Tok (fun m : Nat => [(15, (.v (.int .i64 m))), (14, .row 0)]) (fun m => []) (fun m => [(0, ((⟨6, 0⟩ : Fold) :: (l.take m).map swapK).map eF)]) (fun m => []) (fun m => m ≤ l.length) (fun m => l.length - m) (0) (by simp only [sxS, sxL, sxF, encs, sxN, Nat.reduceAdd, Nat.reduceMul, Nat.reduceEqDiff, Nat.reduceLeDiff, ↓reduceIte, reduceCtorEq, Nat.reduceSub, Nat.reduceBEq, ne_eq, decide_true, decide_false, Int.reduceToNat, Int.reduceEq, Int.reduceLT, Int.reduceLE, Int.reduceNe] <;> (try simp) <;> (try omega)) ?_ ?_
        · omega
        rintro m hm
        simp only [↓sxD, ↓sxP0, sxP1, sxF, sxA, sxS, sxK, encs, tys, sxN, Nat.reduceAdd, Nat.reduceMul, Nat.reduceEqDiff, Nat.reduceLeDiff, ↓reduceIte, reduceCtorEq, Nat.reduceSub, Nat.reduceBEq, ne_eq, decide_true, decide_false, Int.reduceToNat, Int.reduceEq, Int.reduceLT, Int.reduceLE, Int.reduceNe]
        refine BrW.dec (fun hlt2 => ?_) (fun hlt2 => ?_)
        · simp only [↓sxD, ↓sxP0, sxP1, sxF, sxA, sxS, sxK, encs, tys, sxN, Nat.reduceAdd, Nat.reduceMul, Nat.reduceEqDiff, Nat.reduceLeDiff, ↓reduceIte, reduceCtorEq, Nat.reduceSub, Nat.reduceBEq, ne_eq, decide_true, decide_false, Int.reduceToNat, Int.reduceEq, Int.reduceLT, Int.reduceLE, Int.reduceNe]
          have hml : m < l.length := by omega
          refine IxW.nat hml ?_
          simp only [↓sxD, ↓sxP0, sxP1, sxF, sxA, sxS, sxK, encs, tys, sxN, Nat.reduceAdd, Nat.reduceMul, Nat.reduceEqDiff, Nat.reduceLeDiff, ↓reduceIte, reduceCtorEq, Nat.reduceSub, Nat.reduceBEq, ne_eq, decide_true, decide_false, Int.reduceToNat, Int.reduceEq, Int.reduceLT, Int.reduceLE, Int.reduceNe]
          have hnx : ∀ kd : Int, swapK l[m] = ⟨kd, l[m].count⟩ → [D.v (.int .i64 6), D.v (.int .i64 0)] :: (List.map eF (List.map swapK (l.take m)) ++ [[D.v (.int .i64 kd), D.v (.int .i64 l[m].count)]]) = ((⟨6, 0⟩ : Fold) :: (l.take (m + 1)).map swapK).map eF := by
            intro kd h
            rw [List.take_succ_eq_append_getElem hml, List.map_append, List.map_cons, List.map_append]
            simp only [List.map_cons, List.map_nil, h]
            rfl
          refine BrW.dec (fun g1 => ?_) (fun g1 => ?_)
          · simp only [↓sxD, ↓sxP0, sxP1, sxF, sxA, sxS, sxK, encs, tys, sxN, Nat.reduceAdd, Nat.reduceMul, Nat.reduceEqDiff, Nat.reduceLeDiff, ↓reduceIte, reduceCtorEq, Nat.reduceSub, Nat.reduceBEq, ne_eq, decide_true, decide_false, Int.reduceToNat, Int.reduceEq, Int.reduceLT, Int.reduceLE, Int.reduceNe]
            repeat ((with_reducible refine Vc.go ?_ fun _ => ?_); (focus (first | omega | (simp only [InK]; omega) | (simp [InK]; done) | (simp [InK]; omega))); simp only [↓sxD, ↓sxP0, sxP1, sxF, sxA, sxS, sxK, encs, tys, sxN, Nat.reduceAdd, Nat.reduceMul, Nat.reduceEqDiff, Nat.reduceLeDiff, ↓reduceIte, reduceCtorEq, Nat.reduceSub, Nat.reduceBEq, ne_eq, decide_true, decide_false, Int.reduceToNat, Int.reduceEq, Int.reduceLT, Int.reduceLE, Int.reduceNe])
            rw [hnx 2 (by simp [swapK, g1])]
            refine ⟨m + 1, StLe.auto (by simp only [sxS, sxL, sxF, encs, sxN, Nat.reduceAdd, Nat.reduceMul, Nat.reduceEqDiff, Nat.reduceLeDiff, ↓reduceIte, reduceCtorEq, Nat.reduceSub, Nat.reduceBEq, ne_eq, decide_true, decide_false, Int.reduceToNat, Int.reduceEq, Int.reduceLT, Int.reduceLE, Int.reduceNe] <;> (try simp) <;> (try omega)), ?_, ?_⟩
            · omega
            · omega
          · simp only [↓sxD, ↓sxP0, sxP1, sxF, sxA, sxS, sxK, encs, tys, sxN, Nat.reduceAdd, Nat.reduceMul, Nat.reduceEqDiff, Nat.reduceLeDiff, ↓reduceIte, reduceCtorEq, Nat.reduceSub, Nat.reduceBEq, ne_eq, decide_true, decide_false, Int.reduceToNat, Int.reduceEq, Int.reduceLT, Int.reduceLE, Int.reduceNe]
            refine BrW.dec (fun g2 => ?_) (fun g2 => ?_)
            · simp only [↓sxD, ↓sxP0, sxP1, sxF, sxA, sxS, sxK, encs, tys, sxN, Nat.reduceAdd, Nat.reduceMul, Nat.reduceEqDiff, Nat.reduceLeDiff, ↓reduceIte, reduceCtorEq, Nat.reduceSub, Nat.reduceBEq, ne_eq, decide_true, decide_false, Int.reduceToNat, Int.reduceEq, Int.reduceLT, Int.reduceLE, Int.reduceNe]
              repeat ((with_reducible refine Vc.go ?_ fun _ => ?_); (focus (first | omega | (simp only [InK]; omega) | (simp [InK]; done) | (simp [InK]; omega))); simp only [↓sxD, ↓sxP0, sxP1, sxF, sxA, sxS, sxK, encs, tys, sxN, Nat.reduceAdd, Nat.reduceMul, Nat.reduceEqDiff, Nat.reduceLeDiff, ↓reduceIte, reduceCtorEq, Nat.reduceSub, Nat.reduceBEq, ne_eq, decide_true, decide_false, Int.reduceToNat, Int.reduceEq, Int.reduceLT, Int.reduceLE, Int.reduceNe])
              rw [hnx 1 (by simp [swapK, g2])]
              refine ⟨m + 1, StLe.auto (by simp only [sxS, sxL, sxF, encs, sxN, Nat.reduceAdd, Nat.reduceMul, Nat.reduceEqDiff, Nat.reduceLeDiff, ↓reduceIte, reduceCtorEq, Nat.reduceSub, Nat.reduceBEq, ne_eq, decide_true, decide_false, Int.reduceToNat, Int.reduceEq, Int.reduceLT, Int.reduceLE, Int.reduceNe] <;> (try simp) <;> (try omega)), ?_, ?_⟩
              · omega
              · omega
            · simp only [↓sxD, ↓sxP0, sxP1, sxF, sxA, sxS, sxK, encs, tys, sxN, Nat.reduceAdd, Nat.reduceMul, Nat.reduceEqDiff, Nat.reduceLeDiff, ↓reduceIte, reduceCtorEq, Nat.reduceSub, Nat.reduceBEq, ne_eq, decide_true, decide_false, Int.reduceToNat, Int.reduceEq, Int.reduceLT, Int.reduceLE, Int.reduceNe]
              refine BrW.dec (fun g3 => ?_) (fun g3 => ?_)
              · simp only [↓sxD, ↓sxP0, sxP1, sxF, sxA, sxS, sxK, encs, tys, sxN, Nat.reduceAdd, Nat.reduceMul, Nat.reduceEqDiff, Nat.reduceLeDiff, ↓reduceIte, reduceCtorEq, Nat.reduceSub, Nat.reduceBEq, ne_eq, decide_true, decide_false, Int.reduceToNat, Int.reduceEq, Int.reduceLT, Int.reduceLE, Int.reduceNe]
                repeat ((with_reducible refine Vc.go ?_ fun _ => ?_); (focus (first | omega | (simp only [InK]; omega) | (simp [InK]; done) | (simp [InK]; omega))); simp only [↓sxD, ↓sxP0, sxP1, sxF, sxA, sxS, sxK, encs, tys, sxN, Nat.reduceAdd, Nat.reduceMul, Nat.reduceEqDiff, Nat.reduceLeDiff, ↓reduceIte, reduceCtorEq, Nat.reduceSub, Nat.reduceBEq, ne_eq, decide_true, decide_false, Int.reduceToNat, Int.reduceEq, Int.reduceLT, Int.reduceLE, Int.reduceNe])
                rw [hnx 4 (by simp [swapK, g3])]
                refine ⟨m + 1, StLe.auto (by simp only [sxS, sxL, sxF, encs, sxN, Nat.reduceAdd, Nat.reduceMul, Nat.reduceEqDiff, Nat.reduceLeDiff, ↓reduceIte, reduceCtorEq, Nat.reduceSub, Nat.reduceBEq, ne_eq, decide_true, decide_false, Int.reduceToNat, Int.reduceEq, Int.reduceLT, Int.reduceLE, Int.reduceNe] <;> (try simp) <;> (try omega)), ?_, ?_⟩
                · omega
                · omega
              · simp only [↓sxD, ↓sxP0, sxP1, sxF, sxA, sxS, sxK, encs, tys, sxN, Nat.reduceAdd, Nat.reduceMul, Nat.reduceEqDiff, Nat.reduceLeDiff, ↓reduceIte, reduceCtorEq, Nat.reduceSub, Nat.reduceBEq, ne_eq, decide_true, decide_false, Int.reduceToNat, Int.reduceEq, Int.reduceLT, Int.reduceLE, Int.reduceNe]
                refine BrW.dec (fun g4 => ?_) (fun g4 => ?_)
                · simp only [↓sxD, ↓sxP0, sxP1, sxF, sxA, sxS, sxK, encs, tys, sxN, Nat.reduceAdd, Nat.reduceMul, Nat.reduceEqDiff, Nat.reduceLeDiff, ↓reduceIte, reduceCtorEq, Nat.reduceSub, Nat.reduceBEq, ne_eq, decide_true, decide_false, Int.reduceToNat, Int.reduceEq, Int.reduceLT, Int.reduceLE, Int.reduceNe]
                  repeat ((with_reducible refine Vc.go ?_ fun _ => ?_); (focus (first | omega | (simp only [InK]; omega) | (simp [InK]; done) | (simp [InK]; omega))); simp only [↓sxD, ↓sxP0, sxP1, sxF, sxA, sxS, sxK, encs, tys, sxN, Nat.reduceAdd, Nat.reduceMul, Nat.reduceEqDiff, Nat.reduceLeDiff, ↓reduceIte, reduceCtorEq, Nat.reduceSub, Nat.reduceBEq, ne_eq, decide_true, decide_false, Int.reduceToNat, Int.reduceEq, Int.reduceLT, Int.reduceLE, Int.reduceNe])
                  rw [hnx 3 (by simp [swapK, g4])]
                  refine ⟨m + 1, StLe.auto (by simp only [sxS, sxL, sxF, encs, sxN, Nat.reduceAdd, Nat.reduceMul, Nat.reduceEqDiff, Nat.reduceLeDiff, ↓reduceIte, reduceCtorEq, Nat.reduceSub, Nat.reduceBEq, ne_eq, decide_true, decide_false, Int.reduceToNat, Int.reduceEq, Int.reduceLT, Int.reduceLE, Int.reduceNe] <;> (try simp) <;> (try omega)), ?_, ?_⟩
                  · omega
                  · omega
                · simp only [↓sxD, ↓sxP0, sxP1, sxF, sxA, sxS, sxK, encs, tys, sxN, Nat.reduceAdd, Nat.reduceMul, Nat.reduceEqDiff, Nat.reduceLeDiff, ↓reduceIte, reduceCtorEq, Nat.reduceSub, Nat.reduceBEq, ne_eq, decide_true, decide_false, Int.reduceToNat, Int.reduceEq, Int.reduceLT, Int.reduceLE, Int.reduceNe]
                  repeat ((with_reducible refine Vc.go ?_ fun _ => ?_); (focus (first | omega | (simp only [InK]; omega) | (simp [InK]; done) | (simp [InK]; omega))); simp only [↓sxD, ↓sxP0, sxP1, sxF, sxA, sxS, sxK, encs, tys, sxN, Nat.reduceAdd, Nat.reduceMul, Nat.reduceEqDiff, Nat.reduceLeDiff, ↓reduceIte, reduceCtorEq, Nat.reduceSub, Nat.reduceBEq, ne_eq, decide_true, decide_false, Int.reduceToNat, Int.reduceEq, Int.reduceLT, Int.reduceLE, Int.reduceNe])
                  rw [hnx l[m].kind (by simp [swapK, g1, g2, g3, g4])]
                  refine ⟨m + 1, StLe.auto (by simp only [sxS, sxL, sxF, encs, sxN, Nat.reduceAdd, Nat.reduceMul, Nat.reduceEqDiff, Nat.reduceLeDiff, ↓reduceIte, reduceCtorEq, Nat.reduceSub, Nat.reduceBEq, ne_eq, decide_true, decide_false, Int.reduceToNat, Int.reduceEq, Int.reduceLT, Int.reduceLE, Int.reduceNe] <;> (try simp) <;> (try omega)), ?_, ?_⟩
                  · omega
                  · omega
        · simp only [↓sxD, ↓sxP0, sxP1, sxF, sxA, sxS, sxK, encs, tys, sxN, Nat.reduceAdd, Nat.reduceMul, Nat.reduceEqDiff, Nat.reduceLeDiff, ↓reduceIte, reduceCtorEq, Nat.reduceSub, Nat.reduceBEq, ne_eq, decide_true, decide_false, Int.reduceToNat, Int.reduceEq, Int.reduceLT, Int.reduceLE, Int.reduceNe]
          have hml : m = l.length := by omega
          subst hml
          rw [List.take_length]
          refine DrawW.plan Tok mixed (.q 0 <| .q 1 <| .q 2 <| .e 3 [0] <| .e 4 [0] <| .e 5 [] <| .q 6 <| .q 7 <| .q 8 <| .q 9 <| .q 10 <| .done) (by kernel_rfl) (by kernel_rfl) ?_
          simp only [↓sxD, ↓sxP0, sxP1, sxF, sxA, sxS, sxK, encs, tys, sxN, Nat.reduceAdd, Nat.reduceMul, Nat.reduceEqDiff, Nat.reduceLeDiff, ↓reduceIte, reduceCtorEq, Nat.reduceSub, Nat.reduceBEq, ne_eq, decide_true, decide_false, Int.reduceToNat, Int.reduceEq, Int.reduceLT, Int.reduceLE, Int.reduceNe]
          repeat ((with_reducible refine Vc.go ?_ fun _ => ?_); (focus (first | omega | (simp only [InK]; omega) | (simp [InK]; done) | (simp [InK]; omega))); simp only [↓sxD, ↓sxP0, sxP1, sxF, sxA, sxS, sxK, encs, tys, sxN, Nat.reduceAdd, Nat.reduceMul, Nat.reduceEqDiff, Nat.reduceLeDiff, ↓reduceIte, reduceCtorEq, Nat.reduceSub, Nat.reduceBEq, ne_eq, decide_true, decide_false, Int.reduceToNat, Int.reduceEq, Int.reduceLT, Int.reduceLE, Int.reduceNe])
          have hro : [D.v (.int .i64 6), D.v (.int .i64 0)] :: (List.map eF (List.map swapK l) ++ [[D.v (.int .i64 6), D.v (.int .i64 0)]]) = ((⟨6, 0⟩ : Fold) :: l.map swapK ++ [(⟨6, 0⟩ : Fold)]).map eF := by
            rw [List.map_append, List.map_cons]
            rfl
          have hto := turns_other (c := c) (r := r) (l := l) (by omega) he0
          have hco : Cnt ((⟨6, 0⟩ : Fold) :: l.map swapK ++ [(⟨6, 0⟩ : Fold)]) := by
            intro x hx
            simp only [List.cons_append, List.mem_cons, List.mem_append, List.mem_map, List.not_mem_nil, or_false] at hx
            rcases hx with rfl | ⟨y, hy, rfl⟩ | rfl
            · simp
            · exact hcnt y hy
            · simp
          rw [hro]
          refine CallI.fn (pile_s false c r _ hco) (by simp only [sxA, sxL, sxF, encs, sxN, Nat.reduceAdd, Nat.reduceMul, Nat.reduceEqDiff, Nat.reduceLeDiff, ↓reduceIte, reduceCtorEq, Nat.reduceSub, Nat.reduceBEq, ne_eq, decide_true, decide_false, Int.reduceToNat, Int.reduceEq, Int.reduceLT, Int.reduceLE, Int.reduceNe] <;> (try simp)) ?_
          simp only [↓sxD, ↓sxP0, sxP1, sxF, sxA, sxS, sxK, encs, tys, sxN, Nat.reduceAdd, Nat.reduceMul, Nat.reduceEqDiff, Nat.reduceLeDiff, ↓reduceIte, reduceCtorEq, Nat.reduceSub, Nat.reduceBEq, ne_eq, decide_true, decide_false, Int.reduceToNat, Int.reduceEq, Int.reduceLT, Int.reduceLE, Int.reduceNe]
          rw [List.cons_append] at hto
          rw [hto]
          refine BrW.tt (by simp) ?_
          simp only [↓sxD, ↓sxP0, sxP1, sxF, sxA, sxS, sxK, encs, tys, sxN, Nat.reduceAdd, Nat.reduceMul, Nat.reduceEqDiff, Nat.reduceLeDiff, ↓reduceIte, reduceCtorEq, Nat.reduceSub, Nat.reduceBEq, ne_eq, decide_true, decide_false, Int.reduceToNat, Int.reduceEq, Int.reduceLT, Int.reduceLE, Int.reduceNe]
          refine CallI.fn (sameLeaves_s true true (foldedS c r l).1 (foldedS c r l).1 hlen) (by simp only [sxA, sxL, sxF, encs, sxN, Nat.reduceAdd, Nat.reduceMul, Nat.reduceEqDiff, Nat.reduceLeDiff, ↓reduceIte, reduceCtorEq, Nat.reduceSub, Nat.reduceBEq, ne_eq, decide_true, decide_false, Int.reduceToNat, Int.reduceEq, Int.reduceLT, Int.reduceLE, Int.reduceNe] <;> (try simp)) ?_
          simp only [↓sxD, ↓sxP0, sxP1, sxF, sxA, sxS, sxK, encs, tys, sxN, Nat.reduceAdd, Nat.reduceMul, Nat.reduceEqDiff, Nat.reduceLeDiff, ↓reduceIte, reduceCtorEq, Nat.reduceSub, Nat.reduceBEq, ne_eq, decide_true, decide_false, Int.reduceToNat, Int.reduceEq, Int.reduceLT, Int.reduceLE, Int.reduceNe]
          exact EndW.fn (by simp only [sxL, encs, kpLL_map, sxN, Nat.reduceAdd, Nat.reduceMul, Nat.reduceEqDiff, Nat.reduceLeDiff, ↓reduceIte, reduceCtorEq, Nat.reduceSub, Nat.reduceBEq, ne_eq, decide_true, decide_false, Int.reduceToNat, Int.reduceEq, Int.reduceLT, Int.reduceLE, Int.reduceNe] <;> (try simp) <;> (try omega)) (by simp only [sxL, encs, kpLL_map, sxN, Nat.reduceAdd, Nat.reduceMul, Nat.reduceEqDiff, Nat.reduceLeDiff, ↓reduceIte, reduceCtorEq, Nat.reduceSub, Nat.reduceBEq, ne_eq, decide_true, decide_false, Int.reduceToNat, Int.reduceEq, Int.reduceLT, Int.reduceLE, Int.reduceNe] <;> (try simp) <;> (try omega))
end Go.Proofs.Ytfpkpokkgbobmaa
