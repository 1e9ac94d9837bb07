/-
  Chapter 9, walks: one colour more.
-/
import Derived.Test.YtaagelngbbkllaaVW11
import Derived.Test.YtaagelngbbkllaaVW12
namespace Go.Proofs.Ytaagelngbbkllaa
open Go Go.Vx
set_option linter.unusedSimpArgs false
set_option linter.unusedVariables false
set_option maxRecDepth 20000
theorem with_s (b1 b2 b3 b4 b5 : Bool) (c : Cols) (x : Beg) (m : Nat) (i : Int) (hc : ColOk c) (h : BegOk c x m) (hm : m ≤ 1000) (hi : 0 ≤ i ∧ i < (c.minutes.length : Int)) : Ctr Try.prog 127 [cV b1 b2 b3 c, gV b4 b5 x, (.v (.int .i64 i))] (fun rr => rr = ⟨gV true true (withE c x i), []⟩) := by
  have encs := And.intro encs gV_eq
  have hlo := h.lo
  have hle := h.le
  refine Ctr.of (rs := [.cell 6 151]) Tok true Try.func127 rfl rfl rfl rfl (by simp [ofDL]) (fun w0 kp => ?_)
  simp only [↓sxD, ↓sxP0, ↓sxP3, ↓sxGd, sxP1, sxF, sxA, sxS, sxK, sxG, sxZ, sxH, sxU, encs, tys, sxN, sevalprocAttr, ne_eq, decide_true, decide_false]
  refine CallI.fn (end_s b4 b5 x (by omega)) (by simp only [sxA, sxL, sxF, sxG, sxH, sxU, encs, sxN, sevalprocAttr, ne_eq, decide_true, decide_false] <;> (try simp) <;> (try rfl)) ?_
  simp only [↓sxD, ↓sxP0, ↓sxP3, ↓sxGd, sxP1, sxF, sxA, sxS, sxK, sxG, sxZ, sxH, sxU, encs, tys, sxN, sevalprocAttr, ne_eq, decide_true, decide_false]
  have hk1 := clone_s b4 (x.order.map eI) (by simp [kpLL_map, encs, kpL, kpD]) (by simp; omega)
  have hk2 := clone_s b5 (x.ends.map eI) (by simp [kpLL_map, encs, kpL, kpD]) (by simp; omega)
  refine DrawW.plan Tok mixed (.q 0 <| .q 1 <| .q 3 <| .q 4 <| .q 6 <| .q 7 <| .e2 2 [4, 7] (.e2 5 [7] (.q 8 <| .e 9 [1, 4, 7] <| .e 10 [] <| .done) 9 [1, 4, 7] (.e 5 [7] <| .q 8 <| .e 10 [] <| .done)) 9 [1, 4, 7] (.e 2 [4, 7] <| .e 5 [7] <| .q 8 <| .e 10 [] <| .done)) (by kernel_rfl) (by kernel_rfl) ?_
  simp only [↓sxD, ↓sxP0, ↓sxP3, ↓sxGd, sxP1, sxF, sxA, sxS, sxK, sxG, sxZ, sxH, sxU, encs, tys, sxN, sevalprocAttr, ne_eq, decide_true, decide_false]
  refine ⟨?_, ?_⟩
  rotate_left
  any_goals (
    skip
    refine CallI.ctr (hk1) (by simp only [sxA, sxL, sxF, sxG, sxH, sxU, encs, sxN, sevalprocAttr, ne_eq, decide_true, decide_false] <;> (try simp) <;> (try rfl)) ?_
    rintro _ rfl
    simp only [↓sxD, ↓sxP0, ↓sxP3, ↓sxGd, sxP1, sxF, sxA, sxS, sxK, sxG, sxZ, sxH, sxU, encs, tys, sxN, sevalprocAttr, ne_eq, decide_true, decide_false])
  rotate_left
  refine ⟨?_, ?_⟩
  all_goals (
    skip
    refine CallI.ctr (hk2) (by simp only [sxA, sxL, sxF, sxG, sxH, sxU, encs, sxN, sevalprocAttr, ne_eq, decide_true, decide_false] <;> (try simp) <;> (try rfl)) ?_
    rintro _ rfl
    simp only [↓sxD, ↓sxP0, ↓sxP3, ↓sxGd, sxP1, sxF, sxA, sxS, sxK, sxG, sxZ, sxH, sxU, encs, tys, sxN, sevalprocAttr, ne_eq, decide_true, decide_false]
    skip
    refine LoopW.comp [2, 3, 4, 6, 7, 8, 24, 25, 26] (by simp only [sxS, sxL, sxF, sxG, sxH, sxU, encs, sxN, sevalprocAttr, ne_eq, decide_true, decide_false] <;> (try simp) <;> (try omega)) ?_
    simp only [sxS, sxF, sxG, sxH, sxU, sxN, sevalprocAttr, ne_eq, decide_true, decide_false]
    refine LoopW.up Tok (fun k : Nat => [(7, (.v (.int .i64 (atK c x i k)))), (26, (.v (.int .i64 k)))]) (fun k => [(3, [.row 0, .row 1, .v (.bool (barK c x i k))])]) (fun k => []) (fun k => []) (fun k => k ≤ m) (fun k => m - k) (0) (by simp only [sxS, sxL, sxF, sxG, sxH, sxU, encs, sxN, sevalprocAttr, ne_eq, decide_true, decide_false] <;> (try simp [atK, barK, encs]) <;> (try omega)) ?_ ?_
    · omega
    rintro k hk
    simp only [↓sxD, ↓sxP0, ↓sxP3, ↓sxGd, sxP1, sxF, sxA, sxS, sxK, sxG, sxZ, sxH, sxU, encs, tys, sxN, sevalprocAttr, ne_eq, decide_true, decide_false]
    refine BrW.dec (fun hlt => ?_) (fun hlt => ?_)
    · simp only [↓sxD, ↓sxP0, ↓sxP3, ↓sxGd, sxP1, sxF, sxA, sxS, sxK, sxG, sxZ, sxH, sxU, encs, tys, sxN, sevalprocAttr, ne_eq, decide_true, decide_false]
      have hlt : k < m := by omega
      have ho : k < x.order.length := by omega
      have he : k < x.ends.length := by omega
      refine IxW.nat ho ?_
      simp only [↓sxD, ↓sxP0, ↓sxP3, ↓sxGd, sxP1, sxF, sxA, sxS, sxK, sxG, sxZ, sxH, sxU, encs, tys, sxN, sevalprocAttr, ne_eq, decide_true, decide_false]
      have hob := h.o _ (List.getElem_mem ho)
      have hr : x.order[k].toNat < c.dry.length := by have := hc.len; omega
      refine IxW.map (c.dry[x.order[k].toNat]'hr) (by omega) (List.getElem?_eq_getElem hr) ?_
      simp only [↓sxD, ↓sxP0, ↓sxP3, ↓sxGd, sxP1, sxF, sxA, sxS, sxK, sxG, sxZ, sxH, sxU, encs, tys, sxN, sevalprocAttr, ne_eq, decide_true, decide_false]
      have hri := hc.row _ (List.getElem_mem hr)
      have hd : i.toNat < (c.dry[x.order[k].toNat]'hr).length := by omega
      have hx : (c.dry[x.order[k].toNat]'hr)[i.toNat]? = some (dryE c x.order[k] i) := by
        simp [dryE, List.getD_eq_getElem?_getD, List.getElem?_eq_getElem hr, List.getElem?_eq_getElem hd]
      refine IxW.map (dryE c x.order[k] i) (by omega) hx ?_
      simp only [↓sxD, ↓sxP0, ↓sxP3, ↓sxGd, sxP1, sxF, sxA, sxS, sxK, sxG, sxZ, sxH, sxU, encs, tys, sxN, sevalprocAttr, ne_eq, decide_true, decide_false]
      have hda := dryE_b hc x.order[k] i
      have hea := h.e _ (List.getElem_mem he)
      refine BrW.of (fun hb => ?_) (fun hb => ?_)
      · simp only [↓sxD, ↓sxP0, ↓sxP3, ↓sxGd, sxP1, sxF, sxA, sxS, sxK, sxG, sxZ, sxH, sxU, encs, tys, sxN, sevalprocAttr, ne_eq, decide_true, decide_false]
        refine IxW.nat he ?_
        simp only [↓sxD, ↓sxP0, ↓sxP3, ↓sxGd, sxP1, sxF, sxA, sxS, sxK, sxG, sxZ, sxH, sxU, encs, tys, sxN, sevalprocAttr, ne_eq, decide_true, decide_false]
        repeat ((with_reducible refine Vc.go ?_ fun _ => ?_); (focus (first | omega | (simp only [InK]; omega) | (simp [InK]; done) | (simp [InK]; omega))); simp only [↓sxD, ↓sxP0, ↓sxP3, ↓sxGd, sxP1, sxF, sxA, sxS, sxK, sxG, sxZ, sxH, sxU, encs, tys, sxN, sevalprocAttr, ne_eq, decide_true, decide_false])
        have hbk : barK c x i (k + 1) = true := by rw [barK_succ ho, hb]; rfl
        refine ⟨k + 1, StLe.auto (by simp only [sxS, sxL, sxF, sxG, sxH, sxU, encs, sxN, sevalprocAttr, ne_eq, decide_true, decide_false] <;> (try simp [atK_succ ho he, hbk, encs]) <;> (try omega)), ?_, ?_⟩
        · omega
        · omega
      · simp only [↓sxD, ↓sxP0, ↓sxP3, ↓sxGd, sxP1, sxF, sxA, sxS, sxK, sxG, sxZ, sxH, sxU, encs, tys, sxN, sevalprocAttr, ne_eq, decide_true, decide_false]
        refine IxW.nat he ?_
        simp only [↓sxD, ↓sxP0, ↓sxP3, ↓sxGd, sxP1, sxF, sxA, sxS, sxK, sxG, sxZ, sxH, sxU, encs, tys, sxN, sevalprocAttr, ne_eq, decide_true, decide_false]
        repeat ((with_reducible refine Vc.go ?_ fun _ => ?_); (focus (first | omega | (simp only [InK]; omega) | (simp [InK]; done) | (simp [InK]; omega))); simp only [↓sxD, ↓sxP0, ↓sxP3, ↓sxGd, sxP1, sxF, sxA, sxS, sxK, sxG, sxZ, sxH, sxU, encs, tys, sxN, sevalprocAttr, ne_eq, decide_true, decide_false])
        have hbk : barK c x i (k + 1) = decide (dryE c x.order[k] i < 0) := by rw [barK_succ ho, hb]; rfl
        refine ⟨k + 1, StLe.auto (by simp only [sxS, sxL, sxF, sxG, sxH, sxU, encs, sxN, sevalprocAttr, ne_eq, decide_true, decide_false] <;> (try simp [atK_succ ho he, hbk, encs]) <;> (try omega)), ?_, ?_⟩
        · omega
        · omega
    · simp only [↓sxD, ↓sxP0, ↓sxP3, ↓sxGd, sxP1, sxF, sxA, sxS, sxK, sxG, sxZ, sxH, sxU, encs, tys, sxN, sevalprocAttr, ne_eq, decide_true, decide_false]
      have hke : k = m := by omega
      subst hke
      have hmi : i.toNat < c.minutes.length := by omega
      have hmx : c.minutes[i.toNat]? = some (minE c i) := by
        simp [minE, List.getD_eq_getElem?_getD, List.getElem?_eq_getElem hmi]
      have hmb := minE_b hc i
      have hab := atK_b hc h i k (Nat.le_refl _)
      refine DrawW.plan Tok mixed (.q 0 <| .q 1 <| .q 2 <| .q 5 <| .q 6 <| .q 7 <| .q 8 <| .q 9 <| .q 10 <| .q 11 <| .q 12 <| .q 13 <| .q 14 <| .e2 3 [1, 6, 10, 13] (.e2 4 [6, 10, 13] (.q 17 <| .e 15 [1, 6] <| .e 16 [] <| .e 18 [] <| .q 19 <| .e 20 [] <| .done) 15 [1, 6] (.e 4 [6, 10, 13] <| .q 17 <| .e 16 [] <| .e 18 [] <| .q 19 <| .e 20 [] <| .done)) 15 [1, 6] (.e 3 [1, 6, 10, 13] <| .e 4 [6, 10, 13] <| .q 17 <| .e 16 [] <| .e 18 [] <| .q 19 <| .e 20 [] <| .done)) (by kernel_rfl) (by kernel_rfl) ?_
      simp only [↓sxD, ↓sxP0, ↓sxP3, ↓sxGd, sxP1, sxF, sxA, sxS, sxK, sxG, sxZ, sxH, sxU, encs, tys, sxN, sevalprocAttr, ne_eq, decide_true, decide_false]
      refine IxW.map (minE c i) (by omega) hmx ?_
      simp only [↓sxD, ↓sxP0, ↓sxP3, ↓sxGd, sxP1, sxF, sxA, sxS, sxK, sxG, sxZ, sxH, sxU, encs, tys, sxN, sevalprocAttr, ne_eq, decide_true, decide_false]
      repeat ((with_reducible refine Vc.go ?_ fun _ => ?_); (focus (first | omega | (simp only [InK]; omega) | (simp [InK]; done) | (simp [InK]; omega))); simp only [↓sxD, ↓sxP0, ↓sxP3, ↓sxGd, sxP1, sxF, sxA, sxS, sxK, sxG, sxZ, sxH, sxU, encs, tys, sxN, sevalprocAttr, ne_eq, decide_true, decide_false])
      refine ⟨?_, ?_⟩
      all_goals (
        skip
        repeat ((with_reducible refine Vc.go ?_ fun _ => ?_); (focus (first | omega | (simp only [InK]; omega) | (simp [InK]; done) | (simp [InK]; omega))); simp only [↓sxD, ↓sxP0, ↓sxP3, ↓sxGd, sxP1, sxF, sxA, sxS, sxK, sxG, sxZ, sxH, sxU, encs, tys, sxN, sevalprocAttr, ne_eq, decide_true, decide_false]))
      any_goals (
        first
        | with_reducible refine ⟨?_, ?_⟩
        | skip)
      all_goals (
        skip
        repeat ((with_reducible refine Vc.go ?_ fun _ => ?_); (focus (first | omega | (simp only [InK]; omega) | (simp [InK]; done) | (simp [InK]; omega))); simp only [↓sxD, ↓sxP0, ↓sxP3, ↓sxGd, sxP1, sxF, sxA, sxS, sxK, sxG, sxZ, sxH, sxU, encs, tys, sxN, sevalprocAttr, ne_eq, decide_true, decide_false])
        exact EndW.fn (by simp only [sxL, sxG, sxH, sxU, encs, kpLL_map, sxN, sevalprocAttr, ne_eq, decide_true, decide_false] <;> (try simp [withE, hlo, eI]) <;> (try omega)) (by simp only [sxL, sxG, sxH, sxU, encs, kpLL_map, sxN, sevalprocAttr, ne_eq, decide_true, decide_false] <;> (try simp) <;> (try omega))))
end Go.Proofs.Ytaagelngbbkllaa
