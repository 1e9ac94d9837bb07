/-
  Chapter 6, walks: folds are looked for (program, exported).
-/
import Derived.Test.YtfpkpokkgbobmaaVW42
namespace Go.Proofs.Ytfpkpokkgbobmaa
open Go Go.Vx
set_option linter.unusedSimpArgs false
set_option maxRecDepth 20000
def firstN {α : Type} (G : Nat → Option α) : Nat → Nat → Option α
  | 0, _ => none
  | m + 1, n => (G n).or (firstN G m (n + 1))
def ffS (c r : Int) (l : List Cell) : List Fold × Int :=
  if (schS c r l).2 ≠ 0 then ([], (schS c r l).2) else if 16 < l.length then ([], 8) else
  match firstN (fun n => findS c.toNat l n (flatP c.toNat r.toNat)) (c.toNat + r.toNat - 1) 0 with
  | some x => (x, 0)
  | none => ([], 12)
theorem copyF_s (b : Bool) (c r : Int) (l : List Cell) (hl : l.length ≤ 1000000000) : Ctr Try.prog 51 [.agg [(.v (.int .i64 c)), (.v (.int .i64 r)), .sl b 4 (l.map eC)]] (fun rr => rr = ⟨.agg [(.v (.int .i64 c)), (.v (.int .i64 r)), .sl true 4 (l.map eC)], []⟩) := by
  refine Ctr.of (rs := [.cell 2 77]) Tok true Try.func51 rfl rfl rfl rfl (by simp [ofDL]) (fun w0 kp => ?_)
  simp only [↓sxD, ↓sxP0, sxP1, sxF, sxA, sxS, sxK, encs, tys, sxN, sevalprocAttr, ne_eq, decide_true, decide_false]
  (with_reducible refine Vc.go ?_ fun _ => ?_); focus (first | omega | (simp only [InK]; omega) | (simp [InK]; done) | (simp [InK]; omega))
  simp only [↓sxD, ↓sxP0, sxP1, sxF, sxA, sxS, sxK, encs, tys, sxN, sevalprocAttr, ne_eq, decide_true, decide_false]
  exact EndW.fn (by simp only [sxL, encs, kpLL_map, sxN, sevalprocAttr, ne_eq, decide_true, decide_false] <;> (try simp [kpL, kpD]) <;> (try omega)) (by simp only [sxL, encs, kpLL_map, sxN, sevalprocAttr, ne_eq, decide_true, decide_false] <;> (try simp) <;> (try omega))
theorem flat_lf (cn rn : Nat) : allP (LfOk cn rn) (flatG cn rn) := fun l hl y hy => by
  obtain ⟨c, r, hc, hr, rfl⟩ := mem_grid hl
  simp only [oneL, List.mem_singleton] at hy
  subst hy
  exact ⟨⟨by simp, by simp⟩, ⟨by simp, by simp; omega⟩, by simp, by simp; omega⟩
theorem side_sum {cn rn : Nat} (h1 : 1 ≤ cn) (h2 : cn ≤ 8) (h3 : 1 ≤ rn) (h4 : rn ≤ 8) (h : rn * cn ≤ 16) : cn + rn ≤ 10 := by
  have : cn = 1 ∨ cn = 2 ∨ cn = 3 ∨ cn = 4 ∨ cn = 5 ∨ cn = 6 ∨ cn = 7 ∨ cn = 8 := by omega
  rcases this with rfl | rfl | rfl | rfl | rfl | rfl | rfl | rfl <;> omega
set_option maxHeartbeats 2000000 in
theorem foldsFor_s (c r : Int) (l : List Cell) : Ctr Try.prog 64 [.agg [(.v (.int .i64 c)), (.v (.int .i64 r)), .sl true 4 (l.map eC)]] (fun rr => rr = ⟨.tup [.sl true 2 ((ffS c r l).1.map eF), (.v (.int .i64 ((ffS c r l).2)))], []⟩) := by
  have encs := And.intro encs sxMut
  refine Ctr.of (rs := [.tmp 2, .tmp 3]) Tok true Try.func64 rfl rfl rfl rfl (by simp [ofDL]) (fun w0 kp => ?_)
  simp only [↓sxD, ↓sxP0, sxP1, sxF, sxA, sxS, sxK, encs, tys, sxN, sevalprocAttr, ne_eq, decide_true, decide_false]
  refine CallI.fn (check_s true c r l) (by simp only [sxA, sxL, sxF, encs, sxN, sevalprocAttr, ne_eq, decide_true, decide_false] <;> (try simp)) ?_
  simp only [↓sxD, ↓sxP0, sxP1, sxF, sxA, sxS, sxK, encs, tys, sxN, sevalprocAttr, ne_eq, decide_true, decide_false]
  refine BrW.dec (fun he => ?_) (fun he => ?_)
  · simp only [↓sxD, ↓sxP0, sxP1, sxF, sxA, sxS, sxK, encs, tys, sxN, sevalprocAttr, ne_eq, decide_true, decide_false]
    exact EndW.fn (by simp only [sxL, encs, kpLL_map, sxN, sevalprocAttr, ne_eq, decide_true, decide_false] <;> (try simp [ffS, he]) <;> (try omega)) (by simp only [sxL, encs, kpLL_map, sxN, sevalprocAttr, ne_eq, decide_true, decide_false] <;> (try simp) <;> (try omega))
  · have he0 : (schS c r l).2 = 0 := Decidable.not_not.1 he
    have htn := sch_turns he0
    obtain ⟨cn, rn, rfl, rfl, h1, h2, h3, h4, h5, -⟩ := sch_fine he0
    simp only [↓sxD, ↓sxP0, sxP1, sxF, sxA, sxS, sxK, encs, tys, sxN, sevalprocAttr, ne_eq, decide_true, decide_false]
    refine BrW.dec (fun hg => ?_) (fun hg => ?_)
    · have hg' : 16 < l.length := by omega
      simp only [↓sxD, ↓sxP0, sxP1, sxF, sxA, sxS, sxK, encs, tys, sxN, sevalprocAttr, ne_eq, decide_true, decide_false]
      exact EndW.fn (by simp only [sxL, encs, kpLL_map, sxN, sevalprocAttr, ne_eq, decide_true, decide_false] <;> (try simp [ffS, he0, hg']) <;> (try omega)) (by simp only [sxL, encs, kpLL_map, sxN, sevalprocAttr, ne_eq, decide_true, decide_false] <;> (try simp) <;> (try omega))
    · have hg' : ¬ 16 < l.length := by omega
      have hs := side_sum h1 h2 h3 h4 (by omega)
      have hS : ffS cn rn l = match firstN (fun n => findS cn l n (flatP cn rn)) (cn + rn - 1) 0 with | some x => (x, 0) | none => ([], 12) := by
        unfold ffS; rw [if_neg he, if_neg hg']; rfl
      generalize hG : (fun n => findS cn l n (flatP cn rn)) = G at hS
      have hGn : ∀ n, G n = findS cn l n (flatP cn rn) := fun n => by rw [← hG]
      simp only [↓sxD, ↓sxP0, sxP1, sxF, sxA, sxS, sxK, encs, tys, sxN, sevalprocAttr, ne_eq, decide_true, decide_false]
      repeat ((with_reducible refine Vc.go ?_ fun _ => ?_); (focus (first | omega | (simp only [InK]; omega) | (simp [InK]; done) | (simp [InK]; omega))); simp only [↓sxD, ↓sxP0, sxP1, sxF, sxA, sxS, sxK, encs, tys, sxN, sevalprocAttr, ne_eq, decide_true, decide_false])
      refine LoopW.comp [1, 5, 24, 25] (by simp only [sxS, sxL, sxF, encs, sxN, sevalprocAttr, ne_eq, decide_true, decide_false] <;> (try simp) <;> (try omega)) ?_
      simp only [sxS, sxF, sxN, sevalprocAttr, ne_eq, decide_true, decide_false]
      refine LoopW.up Tok (fun n : Nat => [(25, (.v (.int .i64 n)))]) (fun n => [(1, [(.v (.int .i64 cn)), (.v (.int .i64 rn)), .sl true 4 (l.map eC), .row 0])]) (fun n => []) (fun n => [.own 32 2 []]) (fun n => n ≤ cn + rn - 1 ∧ firstN G (cn + rn - 1) 0 = firstN G (cn + rn - 1 - n) n) (fun n => cn + rn - 1 - n) (0) (by simp only [sxS, sxL, sxF, encs, sxN, sevalprocAttr, ne_eq, decide_true, decide_false] <;> (try simp) <;> (try omega)) ?_ ?_
      · exact ⟨by omega, rfl⟩
      rintro n ⟨hn, hf⟩
      simp only [↓sxD, ↓sxP0, sxP1, sxF, sxA, sxS, sxK, encs, tys, sxN, sevalprocAttr, ne_eq, decide_true, decide_false]
      refine BrW.dec (fun hlt => ?_) (fun hlt => ?_)
      · have hn2 : n < cn + rn - 1 := by omega
        rw [show cn + rn - 1 - n = (cn + rn - 1 - (n + 1)) + 1 by omega, firstN, hGn] at hf
        simp only [↓sxD, ↓sxP0, sxP1, sxF, sxA, sxS, sxK, encs, tys, sxN, sevalprocAttr, ne_eq, decide_true, decide_false]
        refine BrW.tt (by simp; omega) ?_
        simp only [↓sxD, ↓sxP0, sxP1, sxF, sxA, sxS, sxK, encs, tys, sxN, sevalprocAttr, ne_eq, decide_true, decide_false]
        refine CallI.fn (flat_s cn rn (by omega) (by omega)) (by simp only [sxA, sxL, sxF, encs, sxN, sevalprocAttr, ne_eq, decide_true, decide_false] <;> (try simp)) ?_
        simp only [↓sxD, ↓sxP0, sxP1, sxF, sxA, sxS, sxK, encs, tys, sxN, sevalprocAttr, ne_eq, decide_true, decide_false]
        refine CallI.ctrM (k := 1) (γ := [some 0]) (find_s cn rn l h2 h4 h5 htn n (flatP cn rn) 1 [] (flatP_good h1 (by omega) h3 (by omega)) (by rw [Nat.one_mul]; exact Nat.pow_le_pow_right (n := 2) (by omega) (show n ≤ 12 by omega)) (flat_lf cn rn) (by simp; omega)) rfl (by simp only [sxS, sxL, sxF, encs, List.map_cons, List.map_nil, sxN, sevalprocAttr, ne_eq, decide_true, decide_false] <;> (try simp [flatP])) (by simp) (by simp only [sxS, sxL, sxF, encs, List.map_cons, List.map_nil, sxN, sevalprocAttr, ne_eq, decide_true, decide_false] <;> (try simp [flatP])) (by simp only [sxS, sxL, sxF, encs, List.map_cons, List.map_nil, sxN, sevalprocAttr, ne_eq, decide_true, decide_false] <;> (try simp [flatP])) ?_
        rintro _ _ _ ⟨rfl, rfl, rfl⟩
        simp only [↓sxD, ↓sxP0, sxP1, sxF, sxA, sxS, sxK, encs, tys, sxN, sevalprocAttr, ne_eq, decide_true, decide_false]
        refine BrW.of (fun hs2 => ?_) (fun hs2 => ?_)
        · obtain ⟨x, hx⟩ := Option.isSome_iff_exists.1 hs2
          rw [hx] at hf ⊢
          rw [hf] at hS
          simp only [↓sxD, ↓sxP0, sxP1, sxF, sxA, sxS, sxK, encs, tys, sxN, sevalprocAttr, ne_eq, decide_true, decide_false]
          exact EndW.fn (by simp only [sxL, encs, kpLL_map, sxN, sevalprocAttr, ne_eq, decide_true, decide_false] <;> (try simp [hS]) <;> (try omega)) (by simp only [sxL, encs, kpLL_map, sxN, sevalprocAttr, ne_eq, decide_true, decide_false] <;> (try simp) <;> (try omega))
        · have hx : findS cn l n (flatP cn rn) = none := by
            cases hx : findS cn l n (flatP cn rn) with
            | none => rfl
            | some y => rw [hx] at hs2; cases hs2
          rw [hx] at hf ⊢
          simp only [Option.getD_none, List.append_nil]
          simp only [↓sxD, ↓sxP0, sxP1, sxF, sxA, sxS, sxK, encs, tys, sxN, sevalprocAttr, ne_eq, decide_true, decide_false]
          repeat ((with_reducible refine Vc.go ?_ fun _ => ?_); (focus (first | omega | (simp only [InK]; omega) | (simp [InK]; done) | (simp [InK]; omega))); simp only [↓sxD, ↓sxP0, sxP1, sxF, sxA, sxS, sxK, encs, tys, sxN, sevalprocAttr, ne_eq, decide_true, decide_false])
          refine ⟨n + 1, StLe.auto (by simp only [sxS, sxL, sxF, encs, sxN, sevalprocAttr, ne_eq, decide_true, decide_false] <;> (try simp) <;> (try omega)), ?_, ?_⟩
          · exact ⟨by omega, hf⟩
          · omega
      · have hn2 : n = cn + rn - 1 := by omega
        subst hn2
        rw [Nat.sub_self, firstN] at hf
        rw [hf] at hS
        simp only [↓sxD, ↓sxP0, sxP1, sxF, sxA, sxS, sxK, encs, tys, sxN, sevalprocAttr, ne_eq, decide_true, decide_false]
        exact EndW.fn (by simp only [sxL, encs, kpLL_map, sxN, sevalprocAttr, ne_eq, decide_true, decide_false] <;> (try simp [hS]) <;> (try omega)) (by simp only [sxL, encs, kpLL_map, sxN, sevalprocAttr, ne_eq, decide_true, decide_false] <;> (try simp) <;> (try omega))
end Go.Proofs.Ytfpkpokkgbobmaa
