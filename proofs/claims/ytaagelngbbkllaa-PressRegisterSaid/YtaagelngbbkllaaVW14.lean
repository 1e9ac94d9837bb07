/-
  Chapter 9, walks: a whole order; the least that is left.
-/
import Derived.Test.YtaagelngbbkllaaVW13
namespace Go.Proofs.Ytaagelngbbkllaa
open Go Go.Vx
set_option linter.unusedSimpArgs false
set_option linter.unusedVariables false
set_option maxRecDepth 20000
def g0 : Beg := ⟨[], [], false⟩
def allE (c : Cols) (order : List Int) : Beg := order.foldl (withE c) g0
theorem g0_ok (c : Cols) : BegOk c g0 0 := ⟨rfl, rfl, fun o h => absurd h (List.not_mem_nil), fun o h => absurd h (List.not_mem_nil)⟩
theorem allE_succ {c : Cols} {l : List Int} {k : Nat} (h : k < l.length) : allE c (l.take (k + 1)) = withE c (allE c (l.take k)) l[k] := by
  unfold allE
  rw [List.take_succ_eq_append_getElem h, List.foldl_append]; rfl
theorem allE_ok {c : Cols} (hc : ColOk c) {l : List Int} (hl : ∀ o ∈ l, 0 ≤ o ∧ o < (c.minutes.length : Int)) : ∀ k, k ≤ l.length → BegOk c (allE c (l.take k)) k
  | 0, _ => g0_ok c
  | k + 1, hk => by
    rw [allE_succ hk]
    exact with_ok hc (allE_ok hc hl k (by omega)) (hl _ (List.getElem_mem hk))
theorem all_s (b1 b2 b3 b4 : Bool) (c : Cols) (l : List Int) (hc : ColOk c) (hn : l.length ≤ 1000) (hl : ∀ o ∈ l, 0 ≤ o ∧ o < (c.minutes.length : Int)) : Ctr Try.prog 100 [cV b1 b2 b3 c, .sl b4 1 (l.map eI)] (fun rr => rr = ⟨gV true true (allE c l), []⟩) := by
  have encs := And.intro encs gV_eq
  refine Ctr.of (rs := [.cell 4 151]) Tok true Try.func100 rfl rfl rfl rfl (by simp [ofDL]) (fun w0 kp => ?_)
  simp only [↓sxD, ↓sxP0, ↓sxP3, ↓sxGd, sxP1, sxF, sxA, sxS, sxK, sxG, sxZ, sxH, sxU, encs, tys, sxN, sevalprocAttr, ne_eq, decide_true, decide_false]
  refine LoopW.comp [2, 4, 5, 8, 9, 10] (by simp only [sxS, sxL, sxF, sxG, sxH, sxU, encs, sxN, sevalprocAttr, ne_eq, decide_true, decide_false] <;> (try simp) <;> (try omega)) ?_
  simp only [sxS, sxF, sxG, sxH, sxU, sxN, sevalprocAttr, ne_eq, decide_true, decide_false]
  refine LoopW.up Tok (fun k : Nat => [(10, (.v (.int .i64 k)))]) (fun k => [(2, [.sl true 1 ((allE c (l.take k)).order.map eI), .sl true 1 ((allE c (l.take k)).ends.map eI), .v (.bool (allE c (l.take k)).barred)])]) (fun k => []) (fun k => []) (fun k => k ≤ l.length) (fun k => l.length - k) (0) (by simp only [sxS, sxL, sxF, sxG, sxH, sxU, encs, sxN, sevalprocAttr, ne_eq, decide_true, decide_false] <;> (try simp [allE, g0, encs]) <;> (try omega)) ?_ ?_
  · omega
  rintro k hk
  simp only [↓sxD, ↓sxP0, ↓sxP3, ↓sxGd, sxP1, sxF, sxA, sxS, sxK, sxG, sxZ, sxH, sxU, encs, tys, sxN, sevalprocAttr, ne_eq, decide_true, decide_false]
  refine BrW.dec (fun hlt => ?_) (fun hlt => ?_)
  · simp only [↓sxD, ↓sxP0, ↓sxP3, ↓sxGd, sxP1, sxF, sxA, sxS, sxK, sxG, sxZ, sxH, sxU, encs, tys, sxN, sevalprocAttr, ne_eq, decide_true, decide_false]
    have hlt : k < l.length := by omega
    refine IxW.nat hlt ?_
    simp only [↓sxD, ↓sxP0, ↓sxP3, ↓sxGd, sxP1, sxF, sxA, sxS, sxK, sxG, sxZ, sxH, sxU, encs, tys, sxN, sevalprocAttr, ne_eq, decide_true, decide_false]
    refine CallI.fn (with_s b1 b2 b3 true true c (allE c (l.take k)) k l[k] hc (allE_ok hc hl k hk) (by omega) (hl _ (List.getElem_mem hlt))) (by simp only [sxA, sxL, sxF, sxG, sxH, sxU, encs, sxN, sevalprocAttr, ne_eq, decide_true, decide_false] <;> (try simp) <;> (try rfl)) ?_
    simp only [↓sxD, ↓sxP0, ↓sxP3, ↓sxGd, sxP1, sxF, sxA, sxS, sxK, sxG, sxZ, sxH, sxU, encs, tys, sxN, sevalprocAttr, ne_eq, decide_true, decide_false]
    repeat ((with_reducible refine Vc.go ?_ fun _ => ?_); (focus (first | omega | (simp only [InK]; omega) | (simp [InK]; done) | (simp [InK]; omega))); simp only [↓sxD, ↓sxP0, ↓sxP3, ↓sxGd, sxP1, sxF, sxA, sxS, sxK, sxG, sxZ, sxH, sxU, encs, tys, sxN, sevalprocAttr, ne_eq, decide_true, decide_false])
    refine ⟨k + 1, StLe.auto (by simp only [sxS, sxL, sxF, sxG, sxH, sxU, encs, sxN, sevalprocAttr, ne_eq, decide_true, decide_false] <;> (try simp [allE_succ hlt, encs]) <;> (try omega)), ?_, ?_⟩
    · omega
    · omega
  · simp only [↓sxD, ↓sxP0, ↓sxP3, ↓sxGd, sxP1, sxF, sxA, sxS, sxK, sxG, sxZ, sxH, sxU, encs, tys, sxN, sevalprocAttr, ne_eq, decide_true, decide_false]
    have hke : k = l.length := by omega
    subst hke
    exact EndW.fn (by simp only [sxL, sxG, sxH, sxU, encs, kpLL_map, sxN, sevalprocAttr, ne_eq, decide_true, decide_false] <;> (try simp) <;> (try omega)) (by simp only [sxL, sxG, sxH, sxU, encs, kpLL_map, sxN, sevalprocAttr, ne_eq, decide_true, decide_false] <;> (try simp) <;> (try omega))
def lsK (c : Cols) (x : Beg) : Nat → Int
  | 0 => endB x
  | k + 1 => lsK c x k + if memB (k : Int) x.order = true then 0 else minE c (k : Int)
def leastE (c : Cols) (x : Beg) : Int := lsK c x c.minutes.length
theorem lsK_b {c : Cols} (hc : ColOk c) {x : Beg} {m : Nat} (h : BegOk c x m) : ∀ k, 0 ≤ lsK c x k ∧ lsK c x k ≤ 20000 * (m : Int) + 10000 * (k : Int)
  | 0 => by have := endB_b h; simp only [lsK]; omega
  | k + 1 => by
    have := lsK_b hc h k
    have hm := minE_b hc (k : Int)
    simp only [lsK]
    split <;> omega
theorem least_s (b1 b2 b3 b4 b5 : Bool) (c : Cols) (x : Beg) (m : Nat) (hc : ColOk c) (h : BegOk c x m) (hm : m ≤ 1000) : Ctr Try.prog 133 [cV b1 b2 b3 c, gV b4 b5 x] (fun rr => rr = ⟨(.v (.int .i64 (leastE c x))), []⟩) := by
  have encs := And.intro encs gV_eq
  have hlo := h.lo
  have hle := h.le
  have hn := hc.n
  refine Ctr.of (rs := [.tmp 4]) Tok true Try.func133 rfl rfl rfl rfl (by simp [ofDL]) (fun w0 kp => ?_)
  simp only [↓sxD, ↓sxP0, ↓sxP3, ↓sxGd, sxP1, sxF, sxA, sxS, sxK, sxG, sxZ, sxH, sxU, encs, tys, sxN, sevalprocAttr, ne_eq, decide_true, decide_false]
  refine CallI.fn (end_s b4 b5 x (by omega)) (by simp only [sxA, sxL, sxF, sxG, sxH, sxU, encs, sxN, sevalprocAttr, ne_eq, decide_true, decide_false] <;> (try simp) <;> (try rfl)) ?_
  simp only [↓sxD, ↓sxP0, ↓sxP3, ↓sxGd, sxP1, sxF, sxA, sxS, sxK, sxG, sxZ, sxH, sxU, encs, tys, sxN, sevalprocAttr, ne_eq, decide_true, decide_false]
  refine LoopW.comp [3, 5, 12, 13, 14] (by simp only [sxS, sxL, sxF, sxG, sxH, sxU, encs, sxN, sevalprocAttr, ne_eq, decide_true, decide_false] <;> (try simp) <;> (try omega)) ?_
  simp only [sxS, sxF, sxG, sxH, sxU, sxN, sevalprocAttr, ne_eq, decide_true, decide_false]
  refine LoopW.up Tok (fun k : Nat => [(5, (.v (.int .i64 (lsK c x k)))), (14, (.v (.int .i64 k)))]) (fun k => []) (fun k => []) (fun k => []) (fun k => k ≤ c.minutes.length) (fun k => c.minutes.length - k) (0) (by simp only [sxS, sxL, sxF, sxG, sxH, sxU, encs, sxN, sevalprocAttr, ne_eq, decide_true, decide_false] <;> (try simp [lsK, encs]) <;> (try omega)) ?_ ?_
  · omega
  rintro k hk
  simp only [↓sxD, ↓sxP0, ↓sxP3, ↓sxGd, sxP1, sxF, sxA, sxS, sxK, sxG, sxZ, sxH, sxU, encs, tys, sxN, sevalprocAttr, ne_eq, decide_true, decide_false]
  refine BrW.dec (fun hlt => ?_) (fun hlt => ?_)
  · simp only [↓sxD, ↓sxP0, ↓sxP3, ↓sxGd, sxP1, sxF, sxA, sxS, sxK, sxG, sxZ, sxH, sxU, encs, tys, sxN, sevalprocAttr, ne_eq, decide_true, decide_false]
    have hlt : k < c.minutes.length := by omega
    have hb := lsK_b hc h k
    have hmb := minE_b hc (k : Int)
    refine IxW.map (minE c (k : Int)) (by omega) (by simp [minE, List.getD_eq_getElem?_getD, List.getElem?_eq_getElem hlt]) ?_
    simp only [↓sxD, ↓sxP0, ↓sxP3, ↓sxGd, sxP1, sxF, sxA, sxS, sxK, sxG, sxZ, sxH, sxU, encs, tys, sxN, sevalprocAttr, ne_eq, decide_true, decide_false]
    refine CallI.fn (containsI_s b4 x.order k (by omega)) (by simp only [sxA, sxL, sxF, sxG, sxH, sxU, encs, sxN, sevalprocAttr, ne_eq, decide_true, decide_false] <;> (try simp) <;> (try rfl)) ?_
    simp only [↓sxD, ↓sxP0, ↓sxP3, ↓sxGd, sxP1, sxF, sxA, sxS, sxK, sxG, sxZ, sxH, sxU, encs, tys, sxN, sevalprocAttr, ne_eq, decide_true, decide_false]
    refine BrW.of (fun hin => ?_) (fun hin => ?_)
    · simp only [↓sxD, ↓sxP0, ↓sxP3, ↓sxGd, sxP1, sxF, sxA, sxS, sxK, sxG, sxZ, sxH, sxU, encs, tys, sxN, sevalprocAttr, ne_eq, decide_true, decide_false]
      have he : lsK c x (k + 1) = lsK c x k := by simp only [lsK, hin]; simp
      repeat ((with_reducible refine Vc.go ?_ fun _ => ?_); (focus (first | omega | (simp only [InK]; omega) | (simp [InK]; done) | (simp [InK]; omega))); simp only [↓sxD, ↓sxP0, ↓sxP3, ↓sxGd, sxP1, sxF, sxA, sxS, sxK, sxG, sxZ, sxH, sxU, encs, tys, sxN, sevalprocAttr, ne_eq, decide_true, decide_false])
      refine ⟨k + 1, StLe.auto (by simp only [sxS, sxL, sxF, sxG, sxH, sxU, encs, sxN, sevalprocAttr, ne_eq, decide_true, decide_false] <;> (try simp [he, encs]) <;> (try omega)), ?_, ?_⟩
      · omega
      · omega
    · simp only [↓sxD, ↓sxP0, ↓sxP3, ↓sxGd, sxP1, sxF, sxA, sxS, sxK, sxG, sxZ, sxH, sxU, encs, tys, sxN, sevalprocAttr, ne_eq, decide_true, decide_false]
      have he : lsK c x (k + 1) = lsK c x k + minE c (k : Int) := by simp only [lsK, hin]; simp
      repeat ((with_reducible refine Vc.go ?_ fun _ => ?_); (focus (first | omega | (simp only [InK]; omega) | (simp [InK]; done) | (simp [InK]; omega))); simp only [↓sxD, ↓sxP0, ↓sxP3, ↓sxGd, sxP1, sxF, sxA, sxS, sxK, sxG, sxZ, sxH, sxU, encs, tys, sxN, sevalprocAttr, ne_eq, decide_true, decide_false])
      refine ⟨k + 1, StLe.auto (by simp only [sxS, sxL, sxF, sxG, sxH, sxU, encs, sxN, sevalprocAttr, ne_eq, decide_true, decide_false] <;> (try simp [he, encs]) <;> (try omega)), ?_, ?_⟩
      · omega
      · omega
  · simp only [↓sxD, ↓sxP0, ↓sxP3, ↓sxGd, sxP1, sxF, sxA, sxS, sxK, sxG, sxZ, sxH, sxU, encs, tys, sxN, sevalprocAttr, ne_eq, decide_true, decide_false]
    have hke : k = c.minutes.length := by omega
    subst hke
    exact EndW.fn (by simp only [sxL, sxG, sxH, sxU, encs, kpLL_map, sxN, sevalprocAttr, ne_eq, decide_true, decide_false] <;> (try simp [leastE]) <;> (try omega)) (by simp only [sxL, sxG, sxH, sxU, encs, kpLL_map, sxN, sevalprocAttr, ne_eq, decide_true, decide_false] <;> (try simp) <;> (try omega))
end Go.Proofs.Ytaagelngbbkllaa
