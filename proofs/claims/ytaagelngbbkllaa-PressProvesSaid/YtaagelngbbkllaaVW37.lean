/-
  Chapter 9: the laws of trees and of the best order.
-/
import Derived.Test.YtaagelngbbkllaaVW36
import Derived.Test.YtaagelngbbkllaaVW22
import Derived.Test.YtaagelngbbkllaaVW33
import Derived.Test.YtaagelngbbkllaaVWk
namespace Go.Proofs.Ytaagelngbbkllaa
open Go Go.Vx
set_option linter.unusedSimpArgs false
set_option linter.unusedVariables false
set_option maxRecDepth 20000
theorem fewC_ok {c : Cols} (h : fewC c = true) : (c.minutes.length ≠ 6 ∧ c.minutes.length ≤ 8 ∧ c.dry.length ≤ 8) ∧ ∀ r ∈ c.dry, r.length ≤ 8 := by
  simpa only [fewC, Bool.and_eq_true, decide_eq_true_eq, List.all_eq_true] using h
theorem slimT_ok {l : List Node} (h : slimT l = true) : l.length ≤ 3002 ∧ ∀ x ∈ l, x.next.length ≤ 8 := by
  simp only [slimT, Bool.and_eq_true, decide_eq_true_eq, List.all_eq_true] at h
  exact ⟨by omega, h.2⟩
theorem treesLaw_s (c : Cols) (ms : Int) (tree : List Node) : Ctr Try.prog 12 [cV true true true c, (.v (.int .i64 ms)), .sl true 2 (tree.map eN)] (fun rr => rr = ⟨(.v (.bool (true))), []⟩) := by
  refine Ctr.of (rs := [.tmp 6]) Tok true Try.func12 rfl rfl rfl rfl (by simp [ofDL]) (fun w0 kp => ?_)
  simp only [↓sxD, ↓sxP0, ↓sxGd, sxP1, sxF, sxA, sxS, sxK, sxG, sxH, sxU, encs, tys, sxN, sevalprocAttr, ne_eq, decide_true, decide_false]
  refine CallI.fn (awake_s) (by simp only [sxA, sxL, sxF, sxG, sxH, sxU, encs, sxN, sevalprocAttr, ne_eq, decide_true, decide_false] <;> (try simp) <;> (try rfl)) ?_
  simp only [↓sxD, ↓sxP0, ↓sxGd, sxP1, sxF, sxA, sxS, sxK, sxG, sxH, sxU, encs, tys, sxN, sevalprocAttr, ne_eq, decide_true, decide_false]
  refine CallI.fn (few_s true true true c) (by simp only [sxA, sxL, sxF, sxG, sxH, sxU, encs, sxN, sevalprocAttr, ne_eq, decide_true, decide_false] <;> (try simp) <;> (try rfl)) ?_
  simp only [↓sxD, ↓sxP0, ↓sxGd, sxP1, sxF, sxA, sxS, sxK, sxG, sxH, sxU, encs, tys, sxN, sevalprocAttr, ne_eq, decide_true, decide_false]
  refine BrW.of (fun hf => ?_) (fun hf => ?_)
  · simp only [↓sxD, ↓sxP0, ↓sxGd, sxP1, sxF, sxA, sxS, sxK, sxG, sxH, sxU, encs, tys, sxN, sevalprocAttr, ne_eq, decide_true, decide_false]
    refine CallI.fn (slim_s true tree) (by simp only [sxA, sxL, sxF, sxG, sxH, sxU, encs, sxN, sevalprocAttr, ne_eq, decide_true, decide_false] <;> (try simp) <;> (try rfl)) ?_
    simp only [↓sxD, ↓sxP0, ↓sxGd, sxP1, sxF, sxA, sxS, sxK, sxG, sxH, sxU, encs, tys, sxN, sevalprocAttr, ne_eq, decide_true, decide_false]
    refine BrW.of (fun hs => ?_) (fun hs => ?_)
    · obtain ⟨⟨f0, f1, f2⟩, f3⟩ := fewC_ok hf
      obtain ⟨s1, s2⟩ := slimT_ok hs
      have hd : ∀ r ∈ c.dry, r.length ≤ 1000000000 := fun r hr => by have := f3 r hr; omega
      have hcp : c.minutes.length ≤ 1000 ∧ c.dry.length ≤ 1000 ∧ ∀ r ∈ c.dry, r.length ≤ 1000000 := ⟨by omega, by omega, fun r hr => by have := f3 r hr; omega⟩
      have hnx : ∀ x ∈ tree, x.next.length ≤ 1000000 := fun x hx => by have := s2 x hx; omega
      have c1 := checkTree_s c ms tree hd (by omega) hnx
      have c2 := checkColoursR_s true true true c hd
      simp only [↓sxD, ↓sxP0, ↓sxGd, sxP1, sxF, sxA, sxS, sxK, sxG, sxH, sxU, encs, tys, sxN, sevalprocAttr, ne_eq, decide_true, decide_false]
      refine CallI.fn (copyColours_s true true true c hcp) (by simp only [sxA, sxL, sxF, sxG, sxH, sxU, encs, sxN, sevalprocAttr, ne_eq, decide_true, decide_false] <;> (try simp) <;> (try rfl)) ?_
      simp only [↓sxD, ↓sxP0, ↓sxGd, sxP1, sxF, sxA, sxS, sxK, sxG, sxH, sxU, encs, tys, sxN, sevalprocAttr, ne_eq, decide_true, decide_false]
      refine CallI.fn (copyTree_s true tree (by omega) hnx) (by simp only [sxA, sxL, sxF, sxG, sxH, sxU, encs, sxN, sevalprocAttr, ne_eq, decide_true, decide_false] <;> (try simp) <;> (try rfl)) ?_
      simp only [↓sxD, ↓sxP0, ↓sxGd, sxP1, sxF, sxA, sxS, sxK, sxG, sxH, sxU, encs, tys, sxN, sevalprocAttr, ne_eq, decide_true, decide_false]
      by_cases h1 : colErr c = 0
      · have hc := colErr_ok h1
        have c3 := checkTreeR_s c ms tree hc (by omega) hnx
        rw [show treeP c ms tree = treeE c ms tree by rw [treeP, if_pos h1]] at c1
        rw [h1] at c2
        refine CallI.fn (c1) (by simp only [sxA, sxL, sxF, sxG, sxH, sxU, encs, sxN, sevalprocAttr, ne_eq, decide_true, decide_false] <;> (try simp) <;> (try rfl)) ?_
        simp only [↓sxD, ↓sxP0, ↓sxGd, sxP1, sxF, sxA, sxS, sxK, sxG, sxH, sxU, encs, tys, sxN, sevalprocAttr, ne_eq, decide_true, decide_false]
        refine CallI.fn (c2) (by simp only [sxA, sxL, sxF, sxG, sxH, sxU, encs, sxN, sevalprocAttr, ne_eq, decide_true, decide_false] <;> (try simp) <;> (try rfl)) ?_
        simp only [↓sxD, ↓sxP0, ↓sxGd, sxP1, sxF, sxA, sxS, sxK, sxG, sxH, sxU, encs, tys, sxN, sevalprocAttr, ne_eq, decide_true, decide_false]
        refine BrW.no (by simp) ?_
        simp only [↓sxD, ↓sxP0, ↓sxGd, sxP1, sxF, sxA, sxS, sxK, sxG, sxH, sxU, encs, tys, sxN, sevalprocAttr, ne_eq, decide_true, decide_false]
        refine CallI.fn (c3) (by simp only [sxA, sxL, sxF, sxG, sxH, sxU, encs, sxN, sevalprocAttr, ne_eq, decide_true, decide_false] <;> (try simp) <;> (try rfl)) ?_
        simp only [↓sxD, ↓sxP0, ↓sxGd, sxP1, sxF, sxA, sxS, sxK, sxG, sxH, sxU, encs, tys, sxN, sevalprocAttr, ne_eq, decide_true, decide_false]
        exact EndW.fn (by simp only [sxL, sxG, sxH, sxU, encs, kpLL_map, sxN, sevalprocAttr, ne_eq, decide_true, decide_false] <;> (try simp) <;> (try omega)) (by simp only [sxL, sxG, sxH, sxU, encs, kpLL_map, sxN, sevalprocAttr, ne_eq, decide_true, decide_false] <;> (try simp) <;> (try omega))
      · rw [show treeP c ms tree = (0, colErr c) by rw [treeP, if_neg h1]] at c1
        refine CallI.fn (c1) (by simp only [sxA, sxL, sxF, sxG, sxH, sxU, encs, sxN, sevalprocAttr, ne_eq, decide_true, decide_false] <;> (try simp) <;> (try rfl)) ?_
        simp only [↓sxD, ↓sxP0, ↓sxGd, sxP1, sxF, sxA, sxS, sxK, sxG, sxH, sxU, encs, tys, sxN, sevalprocAttr, ne_eq, decide_true, decide_false]
        refine CallI.fn (c2) (by simp only [sxA, sxL, sxF, sxG, sxH, sxU, encs, sxN, sevalprocAttr, ne_eq, decide_true, decide_false] <;> (try simp) <;> (try rfl)) ?_
        simp only [↓sxD, ↓sxP0, ↓sxGd, sxP1, sxF, sxA, sxS, sxK, sxG, sxH, sxU, encs, tys, sxN, sevalprocAttr, ne_eq, decide_true, decide_false]
        refine BrW.yes h1 ?_
        simp only [↓sxD, ↓sxP0, ↓sxGd, sxP1, sxF, sxA, sxS, sxK, sxG, sxH, sxU, encs, tys, sxN, sevalprocAttr, ne_eq, decide_true, decide_false]
        exact EndW.fn (by simp only [sxL, sxG, sxH, sxU, encs, kpLL_map, sxN, sevalprocAttr, ne_eq, decide_true, decide_false] <;> (try simp) <;> (try omega)) (by simp only [sxL, sxG, sxH, sxU, encs, kpLL_map, sxN, sevalprocAttr, ne_eq, decide_true, decide_false] <;> (try simp) <;> (try omega))
    · simp only [↓sxD, ↓sxP0, ↓sxGd, sxP1, sxF, sxA, sxS, sxK, sxG, sxH, sxU, encs, tys, sxN, sevalprocAttr, ne_eq, decide_true, decide_false]
      exact EndW.fn (by simp only [sxL, sxG, sxH, sxU, encs, kpLL_map, sxN, sevalprocAttr, ne_eq, decide_true, decide_false] <;> (try simp) <;> (try omega)) (by simp only [sxL, sxG, sxH, sxU, encs, kpLL_map, sxN, sevalprocAttr, ne_eq, decide_true, decide_false] <;> (try simp) <;> (try omega))
  · simp only [↓sxD, ↓sxP0, ↓sxGd, sxP1, sxF, sxA, sxS, sxK, sxG, sxH, sxU, encs, tys, sxN, sevalprocAttr, ne_eq, decide_true, decide_false]
    exact EndW.fn (by simp only [sxL, sxG, sxH, sxU, encs, kpLL_map, sxN, sevalprocAttr, ne_eq, decide_true, decide_false] <;> (try simp) <;> (try omega)) (by simp only [sxL, sxG, sxH, sxU, encs, kpLL_map, sxN, sevalprocAttr, ne_eq, decide_true, decide_false] <;> (try simp) <;> (try omega))
theorem proves_le {c : Cols} {ms : Int} {tree : List Node} {o : List Int} (h1 : (treeP c ms tree).2 = 0) (h2 : (ordMin c o).2 = 0) : ms ≤ (ordMin c o).1 := by
  unfold treeP at h1
  split at h1
  · rename_i hc
    unfold ordMin at h2 ⊢
    rw [if_pos hc] at h2 ⊢
    split at h2
    · rename_i ho
      rw [if_pos ho]
      split at h2
      · simp at h2
      · rename_i hb
        rw [if_neg hb]
        exact tree_proves h1 ho (by simpa using hb)
    · rename_i ho
      exact absurd h2 ho
  · rename_i hc
    exact absurd h1 hc
theorem provesLaw_s (c : Cols) (ms : Int) (tree : List Node) (o : List Int) : Ctr Try.prog 14 [cV true true true c, .agg [(.v (.int .i64 ms)), .sl true 2 (tree.map eN)], .sl true 1 (o.map eI)] (fun rr => rr = ⟨(.v (.bool (true))), []⟩) := by
  refine Ctr.of (rs := [.tmp 6]) Tok true Try.func14 rfl rfl rfl rfl (by simp [ofDL]) (fun w0 kp => ?_)
  simp only [↓sxD, ↓sxP0, ↓sxGd, sxP1, sxF, sxA, sxS, sxK, sxG, sxH, sxU, encs, tys, sxN, sevalprocAttr, ne_eq, decide_true, decide_false]
  refine CallI.fn (awake_s) (by simp only [sxA, sxL, sxF, sxG, sxH, sxU, encs, sxN, sevalprocAttr, ne_eq, decide_true, decide_false] <;> (try simp) <;> (try rfl)) ?_
  simp only [↓sxD, ↓sxP0, ↓sxGd, sxP1, sxF, sxA, sxS, sxK, sxG, sxH, sxU, encs, tys, sxN, sevalprocAttr, ne_eq, decide_true, decide_false]
  refine CallI.fn (few_s true true true c) (by simp only [sxA, sxL, sxF, sxG, sxH, sxU, encs, sxN, sevalprocAttr, ne_eq, decide_true, decide_false] <;> (try simp) <;> (try rfl)) ?_
  simp only [↓sxD, ↓sxP0, ↓sxGd, sxP1, sxF, sxA, sxS, sxK, sxG, sxH, sxU, encs, tys, sxN, sevalprocAttr, ne_eq, decide_true, decide_false]
  refine BrW.of (fun hf => ?_) (fun hf => ?_)
  · simp only [↓sxD, ↓sxP0, ↓sxGd, sxP1, sxF, sxA, sxS, sxK, sxG, sxH, sxU, encs, tys, sxN, sevalprocAttr, ne_eq, decide_true, decide_false]
    refine CallI.fn (slim_s true tree) (by simp only [sxA, sxL, sxF, sxG, sxH, sxU, encs, sxN, sevalprocAttr, ne_eq, decide_true, decide_false] <;> (try simp) <;> (try rfl)) ?_
    simp only [↓sxD, ↓sxP0, ↓sxGd, sxP1, sxF, sxA, sxS, sxK, sxG, sxH, sxU, encs, tys, sxN, sevalprocAttr, ne_eq, decide_true, decide_false]
    refine BrW.of (fun hs => ?_) (fun hs => ?_)
    · simp only [↓sxD, ↓sxP0, ↓sxGd, sxP1, sxF, sxA, sxS, sxK, sxG, sxH, sxU, encs, tys, sxN, sevalprocAttr, ne_eq, decide_true, decide_false]
      refine BrW.dec (fun ho => ?_) (fun ho => ?_)
      · simp only [↓sxD, ↓sxP0, ↓sxGd, sxP1, sxF, sxA, sxS, sxK, sxG, sxH, sxU, encs, tys, sxN, sevalprocAttr, ne_eq, decide_true, decide_false]
        exact EndW.fn (by simp only [sxL, sxG, sxH, sxU, encs, kpLL_map, sxN, sevalprocAttr, ne_eq, decide_true, decide_false] <;> (try simp) <;> (try omega)) (by simp only [sxL, sxG, sxH, sxU, encs, kpLL_map, sxN, sevalprocAttr, ne_eq, decide_true, decide_false] <;> (try simp) <;> (try omega))
      · obtain ⟨⟨f0, f1, f2⟩, f3⟩ := fewC_ok hf
        obtain ⟨s1, s2⟩ := slimT_ok hs
        have hd : ∀ r ∈ c.dry, r.length ≤ 1000000000 := fun r hr => by have := f3 r hr; omega
        have hcp : c.minutes.length ≤ 1000 ∧ c.dry.length ≤ 1000 ∧ ∀ r ∈ c.dry, r.length ≤ 1000000 := ⟨by omega, by omega, fun r hr => by have := f3 r hr; omega⟩
        have hnx : ∀ x ∈ tree, x.next.length ≤ 1000000 := fun x hx => by have := s2 x hx; omega
        have c1 := checkTree_s c ms tree hd (by omega) hnx
        have c4 := orderMinutes_s true true true true c o hd
        simp only [↓sxD, ↓sxP0, ↓sxGd, sxP1, sxF, sxA, sxS, sxK, sxG, sxH, sxU, encs, tys, sxN, sevalprocAttr, ne_eq, decide_true, decide_false]
        refine DrawW.plan Tok mixed (.q 0 <| .q 2 <| .q 3 <| .q 4 <| .q 5 <| .e 1 [3, 5] <| .e 6 [3] <| .e 7 [] <| .q 8 <| .q 9 <| .q 10 <| .q 11 <| .q 12 <| .done) (by kernel_rfl) (by kernel_rfl) ?_
        simp only [↓sxD, ↓sxP0, ↓sxGd, sxP1, sxF, sxA, sxS, sxK, sxG, sxH, sxU, encs, tys, sxN, sevalprocAttr, ne_eq, decide_true, decide_false]
        refine CallI.fn (copyColours_s true true true c hcp) (by simp only [sxA, sxL, sxF, sxG, sxH, sxU, encs, sxN, sevalprocAttr, ne_eq, decide_true, decide_false] <;> (try simp) <;> (try rfl)) ?_
        simp only [↓sxD, ↓sxP0, ↓sxGd, sxP1, sxF, sxA, sxS, sxK, sxG, sxH, sxU, encs, tys, sxN, sevalprocAttr, ne_eq, decide_true, decide_false]
        refine CallI.fn (copyTree_s true tree (by omega) hnx) (by simp only [sxA, sxL, sxF, sxG, sxH, sxU, encs, sxN, sevalprocAttr, ne_eq, decide_true, decide_false] <;> (try simp) <;> (try rfl)) ?_
        simp only [↓sxD, ↓sxP0, ↓sxGd, sxP1, sxF, sxA, sxS, sxK, sxG, sxH, sxU, encs, tys, sxN, sevalprocAttr, ne_eq, decide_true, decide_false]
        refine CallI.fn (c1) (by simp only [sxA, sxL, sxF, sxG, sxH, sxU, encs, sxN, sevalprocAttr, ne_eq, decide_true, decide_false] <;> (try simp) <;> (try rfl)) ?_
        simp only [↓sxD, ↓sxP0, ↓sxGd, sxP1, sxF, sxA, sxS, sxK, sxG, sxH, sxU, encs, tys, sxN, sevalprocAttr, ne_eq, decide_true, decide_false]
        refine CallI.fn (copyColours_s true true true c hcp) (by simp only [sxA, sxL, sxF, sxG, sxH, sxU, encs, sxN, sevalprocAttr, ne_eq, decide_true, decide_false] <;> (try simp) <;> (try rfl)) ?_
        simp only [↓sxD, ↓sxP0, ↓sxGd, sxP1, sxF, sxA, sxS, sxK, sxG, sxH, sxU, encs, tys, sxN, sevalprocAttr, ne_eq, decide_true, decide_false]
        refine CallI.fn (copyInts_s true o (by omega)) (by simp only [sxA, sxL, sxF, sxG, sxH, sxU, encs, sxN, sevalprocAttr, ne_eq, decide_true, decide_false] <;> (try simp) <;> (try rfl)) ?_
        simp only [↓sxD, ↓sxP0, ↓sxGd, sxP1, sxF, sxA, sxS, sxK, sxG, sxH, sxU, encs, tys, sxN, sevalprocAttr, ne_eq, decide_true, decide_false]
        refine CallI.fn (c4) (by simp only [sxA, sxL, sxF, sxG, sxH, sxU, encs, sxN, sevalprocAttr, ne_eq, decide_true, decide_false] <;> (try simp) <;> (try rfl)) ?_
        simp only [↓sxD, ↓sxP0, ↓sxGd, sxP1, sxF, sxA, sxS, sxK, sxG, sxH, sxU, encs, tys, sxN, sevalprocAttr, ne_eq, decide_true, decide_false]
        refine BrW.dec (fun e1 => ?_) (fun e1 => ?_)
        · simp only [↓sxD, ↓sxP0, ↓sxGd, sxP1, sxF, sxA, sxS, sxK, sxG, sxH, sxU, encs, tys, sxN, sevalprocAttr, ne_eq, decide_true, decide_false]
          exact EndW.fn (by simp only [sxL, sxG, sxH, sxU, encs, kpLL_map, sxN, sevalprocAttr, ne_eq, decide_true, decide_false] <;> (try simp) <;> (try omega)) (by simp only [sxL, sxG, sxH, sxU, encs, kpLL_map, sxN, sevalprocAttr, ne_eq, decide_true, decide_false] <;> (try simp) <;> (try omega))
        · simp only [↓sxD, ↓sxP0, ↓sxGd, sxP1, sxF, sxA, sxS, sxK, sxG, sxH, sxU, encs, tys, sxN, sevalprocAttr, ne_eq, decide_true, decide_false]
          refine BrW.dec (fun e2 => ?_) (fun e2 => ?_)
          · simp only [↓sxD, ↓sxP0, ↓sxGd, sxP1, sxF, sxA, sxS, sxK, sxG, sxH, sxU, encs, tys, sxN, sevalprocAttr, ne_eq, decide_true, decide_false]
            exact EndW.fn (by simp only [sxL, sxG, sxH, sxU, encs, kpLL_map, sxN, sevalprocAttr, ne_eq, decide_true, decide_false] <;> (try simp) <;> (try omega)) (by simp only [sxL, sxG, sxH, sxU, encs, kpLL_map, sxN, sevalprocAttr, ne_eq, decide_true, decide_false] <;> (try simp) <;> (try omega))
          · simp only [↓sxD, ↓sxP0, ↓sxGd, sxP1, sxF, sxA, sxS, sxK, sxG, sxH, sxU, encs, tys, sxN, sevalprocAttr, ne_eq, decide_true, decide_false]
            have hle := proves_le (Decidable.not_not.1 e1) (Decidable.not_not.1 e2)
            exact EndW.fn (by simp only [sxL, sxG, sxH, sxU, encs, kpLL_map, sxN, sevalprocAttr, ne_eq, decide_true, decide_false] <;> (try simp [hle]) <;> (try omega)) (by simp only [sxL, sxG, sxH, sxU, encs, kpLL_map, sxN, sevalprocAttr, ne_eq, decide_true, decide_false] <;> (try simp) <;> (try omega))
    · simp only [↓sxD, ↓sxP0, ↓sxGd, sxP1, sxF, sxA, sxS, sxK, sxG, sxH, sxU, encs, tys, sxN, sevalprocAttr, ne_eq, decide_true, decide_false]
      exact EndW.fn (by simp only [sxL, sxG, sxH, sxU, encs, kpLL_map, sxN, sevalprocAttr, ne_eq, decide_true, decide_false] <;> (try simp) <;> (try omega)) (by simp only [sxL, sxG, sxH, sxU, encs, kpLL_map, sxN, sevalprocAttr, ne_eq, decide_true, decide_false] <;> (try simp) <;> (try omega))
  · simp only [↓sxD, ↓sxP0, ↓sxGd, sxP1, sxF, sxA, sxS, sxK, sxG, sxH, sxU, encs, tys, sxN, sevalprocAttr, ne_eq, decide_true, decide_false]
    exact EndW.fn (by simp only [sxL, sxG, sxH, sxU, encs, kpLL_map, sxN, sevalprocAttr, ne_eq, decide_true, decide_false] <;> (try simp) <;> (try omega)) (by simp only [sxL, sxG, sxH, sxU, encs, kpLL_map, sxN, sevalprocAttr, ne_eq, decide_true, decide_false] <;> (try simp) <;> (try omega))
theorem bstK_le {c : Cols} (hc : ColOk c) : ∀ k, k ≤ (ordA c).length → (0 ≤ (bstK c k).minutes ∧ (bstK c k).minutes ≤ 1000000) ∧ ∀ j (hj : j < (ordA c).length), j < k → (allE c (ordA c)[j]).barred = false → (bstK c k).minutes ≤ endB (allE c (ordA c)[j])
  | 0, _ => ⟨by simp [bstK, bst], fun j _ h => by omega⟩
  | k + 1, hk => by
    have ih := bstK_le hc k (by omega)
    obtain ⟨o1, o2⟩ := ordA_ok (List.getElem_mem (show k < (ordA c).length from hk))
    have hok := allE_ok hc o2.rg (ordA c)[k].length (Nat.le_refl _)
    rw [List.take_length] at hok
    have heb := endB_b hok
    rw [bstK_succ (by omega), bst1]
    split
    · rename_i h
      simp only [Bool.and_eq_true, decide_eq_true_eq] at h
      refine ⟨⟨heb.1, by simp only; omega⟩, fun j hj hjk hb => ?_⟩
      by_cases e : j = k
      · subst e; exact Int.le_refl _
      · have := ih.2 j hj (by omega) hb
        simp only; omega
    · rename_i h
      simp only [Bool.and_eq_true, decide_eq_true_eq] at h
      refine ⟨ih.1, fun j hj hjk hb => ?_⟩
      by_cases e : j = k
      · subst e
        rw [hb] at h
        simp at h
        exact h
      · exact ih.2 j hj (by omega) hb
theorem bstO_eq (c : Cols) : bstK c (ordA c).length = bstO c := by simp [bstK, bstO]
theorem bstO_b {c : Cols} (hc : ColOk c) : 0 ≤ (bstO c).minutes ∧ (bstO c).minutes ≤ 1000000 := by
  have := (bstK_le hc _ (Nat.le_refl _)).1
  rwa [bstO_eq] at this
theorem bstO_min {c : Cols} (hc : ColOk c) {o : List Int} (h : BgOk c.minutes.length o) (hl : o.length = c.minutes.length) (hb : (allE c o).barred = false) : (bstO c).minutes ≤ endB (allE c o) := by
  have hm : o ∈ ordA c := ordL_in c.minutes.length [] o hl h.nd h.rg
  obtain ⟨j, hj, rfl⟩ := List.getElem_of_mem hm
  have := (bstK_le hc _ (Nat.le_refl _)).2 j hj hj hb
  rwa [bstO_eq] at this
theorem bstO_len (c : Cols) : (bstO c).order.length ≤ c.minutes.length := by
  have := bstK_len c (ordA c).length
  rwa [bstO_eq] at this
theorem bstO_none {c : Cols} (h : (bstO c).any = false) : (bstO c).minutes = 1000000 ∧ (bstO c).order = [] := by
  have := bstK_inv c (ordA c).length
  rw [bstO_eq] at this
  exact this h
def nxS (n : Nat) (l : List Nd) : Prop := ∀ x ∈ l, (x.next.getD []).length ≤ n
theorem nxS_push {n : Nat} {l : List Nd} {k : Int} (h : nxS n l) : nxS n (l ++ [⟨k, none⟩]) := fun x hx => by
  rcases List.mem_append.1 hx with hx | hx
  · exact h x hx
  · rw [List.mem_singleton] at hx; subst hx; simp
theorem grK_nx {c : Cols} {n : Nat} {rec : Beg → List Nd → List Nd} (hr : ∀ y t, nxS n t → nxS n (rec y t)) (x : Beg) {nodes : List Nd} (h : nxS n nodes) : ∀ k, nxS n (grK c rec x nodes k).1 ∧ (grK c rec x nodes k).2.length ≤ k
  | 0 => ⟨nxS_push h, by simp [grK]⟩
  | k + 1 => by
    have ih := grK_nx hr x h k (c := c)
    simp only [grK]
    split
    · exact ⟨ih.1, by omega⟩
    · exact ⟨hr _ _ ih.1, by simp; omega⟩
theorem grF_nx {c : Cols} {ms : Int} {rec : Beg → List Nd → List Nd} (hr : ∀ y t, nxS c.minutes.length t → nxS c.minutes.length (rec y t)) (x : Beg) {nodes : List Nd} (h : nxS c.minutes.length nodes) : nxS c.minutes.length (grF c ms rec x nodes) := by
  have hk := grK_nx hr x h c.minutes.length (c := c)
  unfold grF
  split
  · exact nxS_push h
  · split
    · exact nxS_push h
    · intro y hy
      rcases List.mem_or_eq_of_mem_set hy with hy | rfl
      · exact hk.1 y hy
      · exact hk.2
theorem growE_nx (c : Cols) (ms : Int) : ∀ f y t, nxS c.minutes.length t → nxS c.minutes.length (growE c ms f y t)
  | 0, y, t, h => grF_nx (fun _ _ h => h) y h
  | f + 1, y, t, h => grF_nx (growE_nx c ms f) y h
def treeN (c : Cols) : List Node := (treeB c).map toN
theorem treeN_len {c : Cols} (hc : ColOk c) : 1 ≤ (treeN c).length ∧ (treeN c).length ≤ 1957 := by
  have hn := hc.n
  have h := grow_ok (c := c) (ms := (bstO c).minutes) (T := []) (fun o h hl hb => bstO_min hc h hl hb) c.minutes.length [] (BgOk.nil _) (by simp)
  have h1 := h.lo []
  have h2 := h.hi []
  have h3 := cntE_le c.minutes.length hn
  have e : (treeN c).length = (growE c (bstO c).minutes c.minutes.length (allE c []) []).length := by rw [treeN, List.length_map]; rfl
  simp at h1 h2
  omega
theorem treeN_nx (c : Cols) : ∀ x ∈ treeN c, x.next.length ≤ c.minutes.length := fun x hx => by
  obtain ⟨y, hy, rfl⟩ := List.mem_map.1 hx
  exact growE_nx c (bstO c).minutes c.minutes.length g0 [] (fun x hx => absurd hx (List.not_mem_nil)) y hy
theorem treeN_ok {c : Cols} (hc : ColOk c) : treeE c (bstO c).minutes (treeN c) = (0, 0) := by
  have h := grow_ok (c := c) (ms := (bstO c).minutes) (T := treeN c) (fun o h hl hb => bstO_min hc h hl hb) c.minutes.length [] (BgOk.nil _) (by simp)
  have hl := treeN_len hc
  unfold treeE
  rw [if_pos (bstO_b hc), if_pos (by omega)]
  refine h.acc [] fun i _ z hz => ?_
  show ((treeB c).map toN)[i]? = _
  rw [List.getElem?_map]
  have : (treeB c)[i]? = some z := hz
  rw [this]; rfl
theorem wkN (x : Nd) : WkL (eM x) (eN (toN x)) := by
  refine ⟨WkD.refl _, ?_, trivial⟩
  cases x with
  | mk k n =>
    cases n with
    | none => exact WkD.nil _ _
    | some l => exact WkD.refl _
theorem bestN_s (c : Cols) (hd : ∀ r ∈ c.dry, r.length ≤ 1000000000) (h1 : colErr c = 0) : Ctr Try.prog 61 [cV true true true c] (fun rr => rr = ⟨.tup [.sl true 1 ((bstO c).order.map eI), (.v (.int .i64 (if (bstO c).any = true then (bstO c).minutes else 0))), .sl true 2 ((treeN c).map eN), (.v (.int .i64 (if (bstO c).any = true then 0 else 12)))], []⟩) := by
  have h := bestOrder_s true true true c hd
  refine Ctr.wk ?_ h
  rw [bestV, if_pos h1]
  refine WkV.tup ⟨?_, WkV.refl _, ?_, WkV.refl _, trivial⟩
  · cases ha : (bstO c).any with
    | true => exact WkV.refl _
    | false => rw [(bstO_none ha).2]; exact WkV.refl _
  · rw [treeN, List.map_map]
    exact WkV.sl wkN true 2 (treeB c)
theorem bestLaw_s (c : Cols) : Ctr Try.prog 11 [cV true true true c] (fun rr => rr = ⟨(.v (.bool (true))), []⟩) := by
  refine Ctr.of (rs := [.tmp 2]) Tok true Try.func11 rfl rfl rfl rfl (by simp [ofDL]) (fun w0 kp => ?_)
  simp only [↓sxD, ↓sxP0, ↓sxGd, sxP1, sxF, sxA, sxS, sxK, sxG, sxH, sxU, encs, tys, sxN, sevalprocAttr, ne_eq, decide_true, decide_false]
  refine CallI.fn (awake_s) (by simp only [sxA, sxL, sxF, sxG, sxH, sxU, encs, sxN, sevalprocAttr, ne_eq, decide_true, decide_false] <;> (try simp) <;> (try rfl)) ?_
  simp only [↓sxD, ↓sxP0, ↓sxGd, sxP1, sxF, sxA, sxS, sxK, sxG, sxH, sxU, encs, tys, sxN, sevalprocAttr, ne_eq, decide_true, decide_false]
  refine CallI.fn (few_s true true true c) (by simp only [sxA, sxL, sxF, sxG, sxH, sxU, encs, sxN, sevalprocAttr, ne_eq, decide_true, decide_false] <;> (try simp) <;> (try rfl)) ?_
  simp only [↓sxD, ↓sxP0, ↓sxGd, sxP1, sxF, sxA, sxS, sxK, sxG, sxH, sxU, encs, tys, sxN, sevalprocAttr, ne_eq, decide_true, decide_false]
  refine BrW.of (fun hf => ?_) (fun hf => ?_)
  · obtain ⟨⟨f0, f1, f2⟩, f3⟩ := fewC_ok hf
    have hd : ∀ r ∈ c.dry, r.length ≤ 1000000000 := fun r hr => by have := f3 r hr; omega
    have hcp : c.minutes.length ≤ 1000 ∧ c.dry.length ≤ 1000 ∧ ∀ r ∈ c.dry, r.length ≤ 1000000 := ⟨by omega, by omega, fun r hr => by have := f3 r hr; omega⟩
    have c2 := checkColoursR_s true true true c hd
    simp only [↓sxD, ↓sxP0, ↓sxGd, sxP1, sxF, sxA, sxS, sxK, sxG, sxH, sxU, encs, tys, sxN, sevalprocAttr, ne_eq, decide_true, decide_false]
    refine CallI.fn (copyColours_s true true true c hcp) (by simp only [sxA, sxL, sxF, sxG, sxH, sxU, encs, sxN, sevalprocAttr, ne_eq, decide_true, decide_false] <;> (try simp) <;> (try rfl)) ?_
    simp only [↓sxD, ↓sxP0, ↓sxGd, sxP1, sxF, sxA, sxS, sxK, sxG, sxH, sxU, encs, tys, sxN, sevalprocAttr, ne_eq, decide_true, decide_false]
    by_cases h1 : colErr c = 0
    · have hc := colErr_ok h1
      have hn := hc.n
      have hl := treeN_len hc
      have hnx : ∀ x ∈ treeN c, x.next.length ≤ 1000000 := fun x hx => by have := treeN_nx c x hx; omega
      have hok := treeN_ok hc
      have hol := bstO_len c
      have c1 := bestN_s c hd h1
      have c3 := bestR_s c hc
      have c4 := checkTreeR_s c (bstO c).minutes (treeN c) hc (by omega) hnx
      have c5 := checkTree_s c (bstO c).minutes (treeN c) hd (by omega) hnx
      rw [show treeP c (bstO c).minutes (treeN c) = treeE c (bstO c).minutes (treeN c) by rw [treeP, if_pos h1]] at c5
      rw [hok] at c4 c5
      rw [h1] at c2
      cases ha : (bstO c).any with
      | true =>
        rw [ha, if_pos rfl, if_pos rfl] at c1
        rw [ha, if_pos rfl] at c3
        refine CallI.fn (c1) (by simp only [sxA, sxL, sxF, sxG, sxH, sxU, encs, sxN, sevalprocAttr, ne_eq, decide_true, decide_false] <;> (try simp) <;> (try rfl)) ?_
        simp only [↓sxD, ↓sxP0, ↓sxGd, sxP1, sxF, sxA, sxS, sxK, sxG, sxH, sxU, encs, tys, sxN, sevalprocAttr, ne_eq, decide_true, decide_false]
        refine CallI.fn (c2) (by simp only [sxA, sxL, sxF, sxG, sxH, sxU, encs, sxN, sevalprocAttr, ne_eq, decide_true, decide_false] <;> (try simp) <;> (try rfl)) ?_
        simp only [↓sxD, ↓sxP0, ↓sxGd, sxP1, sxF, sxA, sxS, sxK, sxG, sxH, sxU, encs, tys, sxN, sevalprocAttr, ne_eq, decide_true, decide_false]
        refine BrW.no (by simp) ?_
        simp only [↓sxD, ↓sxP0, ↓sxGd, sxP1, sxF, sxA, sxS, sxK, sxG, sxH, sxU, encs, tys, sxN, sevalprocAttr, ne_eq, decide_true, decide_false]
        refine CallI.fn (c3) (by simp only [sxA, sxL, sxF, sxG, sxH, sxU, encs, sxN, sevalprocAttr, ne_eq, decide_true, decide_false] <;> (try simp) <;> (try rfl)) ?_
        simp only [↓sxD, ↓sxP0, ↓sxGd, sxP1, sxF, sxA, sxS, sxK, sxG, sxH, sxU, encs, tys, sxN, sevalprocAttr, ne_eq, decide_true, decide_false]
        refine CallI.fn (c4) (by simp only [sxA, sxL, sxF, sxG, sxH, sxU, encs, sxN, sevalprocAttr, ne_eq, decide_true, decide_false] <;> (try simp) <;> (try rfl)) ?_
        simp only [↓sxD, ↓sxP0, ↓sxGd, sxP1, sxF, sxA, sxS, sxK, sxG, sxH, sxU, encs, tys, sxN, sevalprocAttr, ne_eq, decide_true, decide_false]
        refine CallI.fn (copyColours_s true true true c hcp) (by simp only [sxA, sxL, sxF, sxG, sxH, sxU, encs, sxN, sevalprocAttr, ne_eq, decide_true, decide_false] <;> (try simp) <;> (try rfl)) ?_
        simp only [↓sxD, ↓sxP0, ↓sxGd, sxP1, sxF, sxA, sxS, sxK, sxG, sxH, sxU, encs, tys, sxN, sevalprocAttr, ne_eq, decide_true, decide_false]
        refine CallI.fn (copyTree_s true (treeN c) (by omega) hnx) (by simp only [sxA, sxL, sxF, sxG, sxH, sxU, encs, sxN, sevalprocAttr, ne_eq, decide_true, decide_false] <;> (try simp) <;> (try rfl)) ?_
        simp only [↓sxD, ↓sxP0, ↓sxGd, sxP1, sxF, sxA, sxS, sxK, sxG, sxH, sxU, encs, tys, sxN, sevalprocAttr, ne_eq, decide_true, decide_false]
        refine CallI.fn (c5) (by simp only [sxA, sxL, sxF, sxG, sxH, sxU, encs, sxN, sevalprocAttr, ne_eq, decide_true, decide_false] <;> (try simp) <;> (try rfl)) ?_
        simp only [↓sxD, ↓sxP0, ↓sxGd, sxP1, sxF, sxA, sxS, sxK, sxG, sxH, sxU, encs, tys, sxN, sevalprocAttr, ne_eq, decide_true, decide_false]
        refine CallI.fn (ints_s true true (bstO c).order (bstO c).order (by omega)) (by simp only [sxA, sxL, sxF, sxG, sxH, sxU, encs, sxN, sevalprocAttr, ne_eq, decide_true, decide_false] <;> (try simp) <;> (try rfl)) ?_
        simp only [↓sxD, ↓sxP0, ↓sxGd, sxP1, sxF, sxA, sxS, sxK, sxG, sxH, sxU, encs, tys, sxN, sevalprocAttr, ne_eq, decide_true, decide_false]
        exact EndW.fn (by simp only [sxL, sxG, sxH, sxU, encs, kpLL_map, sxN, sevalprocAttr, ne_eq, decide_true, decide_false] <;> (try simp) <;> (try omega)) (by simp only [sxL, sxG, sxH, sxU, encs, kpLL_map, sxN, sevalprocAttr, ne_eq, decide_true, decide_false] <;> (try simp) <;> (try omega))
      | false =>
        obtain ⟨i1, i2⟩ := bstO_none ha
        rw [ha, if_neg (by decide), if_neg (by decide), i2] at c1
        rw [ha, if_neg (by decide), i2] at c3
        rw [i1] at c4 c5
        refine CallI.fn (c1) (by simp only [sxA, sxL, sxF, sxG, sxH, sxU, encs, sxN, sevalprocAttr, ne_eq, decide_true, decide_false] <;> (try simp) <;> (try rfl)) ?_
        simp only [↓sxD, ↓sxP0, ↓sxGd, sxP1, sxF, sxA, sxS, sxK, sxG, sxH, sxU, encs, tys, sxN, sevalprocAttr, ne_eq, decide_true, decide_false]
        refine CallI.fn (c2) (by simp only [sxA, sxL, sxF, sxG, sxH, sxU, encs, sxN, sevalprocAttr, ne_eq, decide_true, decide_false] <;> (try simp) <;> (try rfl)) ?_
        simp only [↓sxD, ↓sxP0, ↓sxGd, sxP1, sxF, sxA, sxS, sxK, sxG, sxH, sxU, encs, tys, sxN, sevalprocAttr, ne_eq, decide_true, decide_false]
        refine BrW.no (by simp) ?_
        simp only [↓sxD, ↓sxP0, ↓sxGd, sxP1, sxF, sxA, sxS, sxK, sxG, sxH, sxU, encs, tys, sxN, sevalprocAttr, ne_eq, decide_true, decide_false]
        refine CallI.fn (c3) (by simp only [sxA, sxL, sxF, sxG, sxH, sxU, encs, sxN, sevalprocAttr, ne_eq, decide_true, decide_false] <;> (try simp) <;> (try rfl)) ?_
        simp only [↓sxD, ↓sxP0, ↓sxGd, sxP1, sxF, sxA, sxS, sxK, sxG, sxH, sxU, encs, tys, sxN, sevalprocAttr, ne_eq, decide_true, decide_false]
        refine CallI.fn (c4) (by simp only [sxA, sxL, sxF, sxG, sxH, sxU, encs, sxN, sevalprocAttr, ne_eq, decide_true, decide_false] <;> (try simp) <;> (try rfl)) ?_
        simp only [↓sxD, ↓sxP0, ↓sxGd, sxP1, sxF, sxA, sxS, sxK, sxG, sxH, sxU, encs, tys, sxN, sevalprocAttr, ne_eq, decide_true, decide_false]
        refine CallI.fn (copyColours_s true true true c hcp) (by simp only [sxA, sxL, sxF, sxG, sxH, sxU, encs, sxN, sevalprocAttr, ne_eq, decide_true, decide_false] <;> (try simp) <;> (try rfl)) ?_
        simp only [↓sxD, ↓sxP0, ↓sxGd, sxP1, sxF, sxA, sxS, sxK, sxG, sxH, sxU, encs, tys, sxN, sevalprocAttr, ne_eq, decide_true, decide_false]
        refine CallI.fn (copyTree_s true (treeN c) (by omega) hnx) (by simp only [sxA, sxL, sxF, sxG, sxH, sxU, encs, sxN, sevalprocAttr, ne_eq, decide_true, decide_false] <;> (try simp) <;> (try rfl)) ?_
        simp only [↓sxD, ↓sxP0, ↓sxGd, sxP1, sxF, sxA, sxS, sxK, sxG, sxH, sxU, encs, tys, sxN, sevalprocAttr, ne_eq, decide_true, decide_false]
        refine CallI.fn (c5) (by simp only [sxA, sxL, sxF, sxG, sxH, sxU, encs, sxN, sevalprocAttr, ne_eq, decide_true, decide_false] <;> (try simp) <;> (try rfl)) ?_
        simp only [↓sxD, ↓sxP0, ↓sxGd, sxP1, sxF, sxA, sxS, sxK, sxG, sxH, sxU, encs, tys, sxN, sevalprocAttr, ne_eq, decide_true, decide_false]
        exact EndW.fn (by simp only [sxL, sxG, sxH, sxU, encs, kpLL_map, sxN, sevalprocAttr, ne_eq, decide_true, decide_false] <;> (try simp) <;> (try omega)) (by simp only [sxL, sxG, sxH, sxU, encs, kpLL_map, sxN, sevalprocAttr, ne_eq, decide_true, decide_false] <;> (try simp) <;> (try omega))
    · have c1 := bestOrder_s true true true c hd
      rw [show bestV c = .tup [.sl true 1 [], (.v (.int .i64 0)), .sl true 2 [], (.v (.int .i64 (colErr c)))] by rw [bestV, if_neg h1]] at c1
      refine CallI.fn (c1) (by simp only [sxA, sxL, sxF, sxG, sxH, sxU, encs, sxN, sevalprocAttr, ne_eq, decide_true, decide_false] <;> (try simp) <;> (try rfl)) ?_
      simp only [↓sxD, ↓sxP0, ↓sxGd, sxP1, sxF, sxA, sxS, sxK, sxG, sxH, sxU, encs, tys, sxN, sevalprocAttr, ne_eq, decide_true, decide_false]
      refine CallI.fn (c2) (by simp only [sxA, sxL, sxF, sxG, sxH, sxU, encs, sxN, sevalprocAttr, ne_eq, decide_true, decide_false] <;> (try simp) <;> (try rfl)) ?_
      simp only [↓sxD, ↓sxP0, ↓sxGd, sxP1, sxF, sxA, sxS, sxK, sxG, sxH, sxU, encs, tys, sxN, sevalprocAttr, ne_eq, decide_true, decide_false]
      refine BrW.yes h1 ?_
      simp only [↓sxD, ↓sxP0, ↓sxGd, sxP1, sxF, sxA, sxS, sxK, sxG, sxH, sxU, encs, tys, sxN, sevalprocAttr, ne_eq, decide_true, decide_false]
      repeat ((with_reducible refine Vc.go ?_ fun _ => ?_); (focus (first | omega | (simp only [InK]; omega) | (simp [InK]; done) | (simp [InK]; omega))); simp only [↓sxD, ↓sxP0, ↓sxGd, sxP1, sxF, sxA, sxS, sxK, sxG, sxH, sxU, encs, tys, sxN, sevalprocAttr, ne_eq, decide_true, decide_false])
      exact EndW.fn (by simp only [sxL, sxG, sxH, sxU, encs, kpLL_map, sxN, sevalprocAttr, ne_eq, decide_true, decide_false] <;> (try simp) <;> (try omega)) (by simp only [sxL, sxG, sxH, sxU, encs, kpLL_map, sxN, sevalprocAttr, ne_eq, decide_true, decide_false] <;> (try simp) <;> (try omega))
  · simp only [↓sxD, ↓sxP0, ↓sxGd, sxP1, sxF, sxA, sxS, sxK, sxG, sxH, sxU, encs, tys, sxN, sevalprocAttr, ne_eq, decide_true, decide_false]
    exact EndW.fn (by simp only [sxL, sxG, sxH, sxU, encs, kpLL_map, sxN, sevalprocAttr, ne_eq, decide_true, decide_false] <;> (try simp) <;> (try omega)) (by simp only [sxL, sxG, sxH, sxU, encs, kpLL_map, sxN, sevalprocAttr, ne_eq, decide_true, decide_false] <;> (try simp) <;> (try omega))
end Go.Proofs.Ytaagelngbbkllaa
