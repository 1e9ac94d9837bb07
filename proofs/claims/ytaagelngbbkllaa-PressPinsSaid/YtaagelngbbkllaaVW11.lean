/-
  Chapter 9, walks: the orders.
-/
import Derived.Test.YtaagelngbbkllaaVW3
namespace Go.Proofs.Ytaagelngbbkllaa
open Go Go.Vx
set_option linter.unusedSimpArgs false
set_option linter.unusedVariables false
set_option maxRecDepth 20000
theorem clone_s (b : Bool) (els : List (List D)) (hk : kpLL els) (hl : els.length ≤ 1000000) : Ctr Try.prog 132 [.sl b 1 els] (fun rr => rr = ⟨.row 0, [.own 3 1 els]⟩) := by
  refine Ctr.of (rs := [.tmp 2]) Tok false Try.func132 rfl rfl rfl rfl (by simp [ofDL]) (fun w0 kp => ?_)
  simp only [↓sxD, ↓sxP0, ↓sxP3, ↓sxGd, sxP1, sxF, sxA, sxS, sxK, sxG, sxZ, sxH, sxU, encs, tys, sxN, sevalprocAttr, ne_eq, decide_true, decide_false]
  intro z hz
  refine BrW.of (fun h => ?_) (fun h => ?_)
  · simp only [↓sxD, ↓sxP0, ↓sxP3, ↓sxGd, sxP1, sxF, sxA, sxS, sxK, sxG, sxZ, sxH, sxU, encs, tys, sxN, sevalprocAttr, ne_eq, decide_true, decide_false]
    rw [hz h]
    exact EndW.r [none] (by simp) (by simp only [sxL, sxF, sxG, sxH, sxU, encs, kpLL_map, sxN, sevalprocAttr, ne_eq, decide_true, decide_false] <;> simp) (by simp only [sxL, sxF, sxG, sxH, sxU, encs, kpLL_map, sxN, sevalprocAttr, ne_eq, decide_true, decide_false] <;> simp) (by simp only [sxL, sxF, sxG, sxH, sxU, encs, kpLL_map, sxN, sevalprocAttr, ne_eq, decide_true, decide_false] <;> simp) (by simp only [sxL, sxF, sxG, sxH, sxU, encs, kpLL_map, sxN, sevalprocAttr, ne_eq, decide_true, decide_false] <;> simp)
  · simp only [↓sxD, ↓sxP0, ↓sxP3, ↓sxGd, sxP1, sxF, sxA, sxS, sxK, sxG, sxZ, sxH, sxU, encs, tys, sxN, sevalprocAttr, ne_eq, decide_true, decide_false]
    (with_reducible refine Vc.go ?_ fun _ => ?_); focus (first | omega | (simp only [InK]; omega) | (simp [InK]; done) | (simp [InK]; omega))
    simp only [↓sxD, ↓sxP0, ↓sxP3, ↓sxGd, sxP1, sxF, sxA, sxS, sxK, sxG, sxZ, sxH, sxU, encs, tys, sxN, sevalprocAttr, ne_eq, decide_true, decide_false]
    exact EndW.r [some 1] (by simp) (by simp only [sxL, sxF, sxG, sxH, sxU, encs, kpLL_map, sxN, sevalprocAttr, ne_eq, decide_true, decide_false] <;> simp [hk]) (by simp only [sxL, sxF, sxG, sxH, sxU, encs, kpLL_map, sxN, sevalprocAttr, ne_eq, decide_true, decide_false] <;> simp [hk]) (by simp only [sxL, sxF, sxG, sxH, sxU, encs, kpLL_map, sxN, sevalprocAttr, ne_eq, decide_true, decide_false] <;> simp [hk]) (by simp only [sxL, sxF, sxG, sxH, sxU, encs, kpLL_map, sxN, sevalprocAttr, ne_eq, decide_true, decide_false] <;> simp [hk])
/-- all orders of numbers below 'n' that begin so; 'm' are left. -/
def ordL (n : Nat) : Nat → List Int → List (List Int)
  | 0, head => [head]
  | m + 1, head => (List.range n).flatMap fun i : Nat => if memB (i : Int) head = true then [] else ordL n m (head ++ [(i : Int)])
def eO (o : List Int) : List SV := [.sl true 1 (o.map eI)]
def ordC (head : List Int) (n : Int) : List SV := [.pt true [.sl true 1 (head.map eI)], .pt true [.v (.int .i64 n)]]
theorem orders_s (head : List Int) (n : Int) : Ctr Try.prog 114 [.sl true 1 (head.map eI), (.v (.int .i64 n))] (fun rr => rr = ⟨.clo 131 (ordC head n), []⟩) := by
  have encs := And.intro encs (show ∀ head n, ordC head n = [.pt true [.sl true 1 (head.map eI)], .pt true [.v (.int .i64 n)]] from fun _ _ => rfl)
  refine Ctr.ofB (rs := [.tmp 4]) Tok Try.func114 rfl rfl rfl rfl (by simp [ofDL]) (fun w0 kp => ?_)
  simp only [↓sxD, ↓sxP0, ↓sxP3, ↓sxGd, sxP1, sxF, sxA, sxS, sxK, sxG, sxZ, sxH, sxU, encs, tys, sxN, sevalprocAttr, ne_eq, decide_true, decide_false]
  simp only [endY, boxV, boxL, bxPs, bxPs.bx1, bxD, assB, ptB, bxV, bxL, toDL, toD, consO, vD, oneV, dedN, addN, memN, sxL, sxS, sxF, sxG, sxH, sxU, encs, sxN, sevalprocAttr, ne_eq, decide_true, decide_false]
  exact EndW.fn (by simp only [sxL, sxG, sxH, sxU, encs, kpLL_map, sxN, sevalprocAttr, ne_eq, decide_true, decide_false] <;> (try simp) <;> (try omega)) (by simp only [sxL, sxG, sxH, sxU, encs, kpLL_map, sxN, sevalprocAttr, ne_eq, decide_true, decide_false] <;> (try simp) <;> (try omega))
def pcL (n m : Nat) (head : List Int) (i : Nat) : List (List Int) := if memB (i : Int) head = true then [] else ordL n m (head ++ [(i : Int)])
def ysL (n m : Nat) (head : List Int) (k : Nat) : List (List Int) := (List.range k).flatMap (pcL n m head)
theorem ysL_succ (n m : Nat) (head : List Int) (k : Nat) : ysL n m head (k + 1) = ysL n m head k ++ pcL n m head k := by simp [ysL, List.range_succ]
theorem ysL_all (n m : Nat) (head : List Int) : ysL n m head n = ordL n (m + 1) head := rfl
theorem ysL_le {n m : Nat} {head : List Int} : ∀ {k j : Nat}, k ≤ j → ysL n m head k <+: ysL n m head j
  | k, j, h => by
    induction h with
    | refl => exact List.prefix_rfl
    | step _ ih => exact ih.trans (by rw [ysL_succ]; exact List.prefix_append _ _)
theorem ordersIt_s (n : Nat) (hn : n ≤ 1000) : ∀ (m : Nat) (head : List Int), head.length + m = n → ItCtr Try.prog 131 (ordC head (n : Int)) ((ordL n m head).map eO)
  | 0, head, hm => by
    have encs := And.intro encs (show ∀ head n, ordC head n = [.pt true [.sl true 1 (head.map eI)], .pt true [.v (.int .i64 n)]] from fun _ _ => rfl)
    refine ItCtr.of Tok Try.func131 rfl rfl rfl rfl (by simp [ofDL, encs]) (fun w0 kp yd hok => ?_)
    simp only [↓sxD, ↓sxP0, ↓sxP3, ↓sxGd, sxP1, sxF, sxA, sxS, sxK, sxG, sxZ, sxH, sxU, encs, tys, sxN, sevalprocAttr, ne_eq, decide_true, decide_false]
    refine BrW.yes (by omega) ?_
    simp only [↓sxD, ↓sxP0, ↓sxP3, ↓sxGd, sxP1, sxF, sxA, sxS, sxK, sxG, sxZ, sxH, sxU, encs, tys, sxN, sevalprocAttr, ne_eq, decide_true, decide_false]
    refine YldI.of (ys := []) hok rfl rfl (by simp only [sxS, sxL, sxF, sxG, sxH, sxU, sxA, encs, sxN, sevalprocAttr, ne_eq, decide_true, decide_false] <;> rfl) (by simp only [sxS, sxL, sxF, sxG, sxH, sxU, sxA, encs, sxN, sevalprocAttr, ne_eq, decide_true, decide_false] <;> rfl) rfl rfl rfl (by simp [ordL, eO]) ?_ ?_
    · simp only [↓sxD, ↓sxP0, ↓sxP3, ↓sxGd, sxP1, sxF, sxA, sxS, sxK, sxG, sxZ, sxH, sxU, encs, tys, sxN, sevalprocAttr, ne_eq, decide_true, decide_false]
      intro _
      simp [ordL, eO]
    · simp only [↓sxD, ↓sxP0, ↓sxP3, ↓sxGd, sxP1, sxF, sxA, sxS, sxK, sxG, sxZ, sxH, sxU, encs, tys, sxN, sevalprocAttr, ne_eq, decide_true, decide_false]
      intro h
      cases h
  | m + 1, head, hm => by
    have encs := And.intro encs (show ∀ head n, ordC head n = [.pt true [.sl true 1 (head.map eI)], .pt true [.v (.int .i64 n)]] from fun _ _ => rfl)
    refine ItCtr.of Tok Try.func131 rfl rfl rfl rfl (by simp [ofDL, encs]) (fun w0 kp yd hok => ?_)
    simp only [↓sxD, ↓sxP0, ↓sxP3, ↓sxGd, sxP1, sxF, sxA, sxS, sxK, sxG, sxZ, sxH, sxU, encs, tys, sxN, sevalprocAttr, ne_eq, decide_true, decide_false]
    refine BrW.no (by omega) ?_
    simp only [↓sxD, ↓sxP0, ↓sxP3, ↓sxGd, sxP1, sxF, sxA, sxS, sxK, sxG, sxZ, sxH, sxU, encs, tys, sxN, sevalprocAttr, ne_eq, decide_true, decide_false]
    refine LoopW.comp [1, 2, 3, 5, 13, 14, 27, 28, 29, 30, 31] (by simp only [sxS, sxL, sxF, sxG, sxH, sxU, encs, sxN, sevalprocAttr, ne_eq, decide_true, decide_false] <;> (try simp) <;> (try omega)) ?_
    simp only [sxS, sxF, sxG, sxH, sxU, sxN, sevalprocAttr, ne_eq, decide_true, decide_false]
    refine LoopW.upG Tok (fun k : Nat => [(14, (.v (.int .i64 k)))]) (fun k => []) (fun k => []) (fun k => []) (fun k => (ysL n m head k).map eO) (fun k => k ≤ n) (fun k => n - k) (0) (by simp only [sxS, sxL, sxF, sxG, sxH, sxU, encs, sxN, sevalprocAttr, ne_eq, decide_true, decide_false] <;> (try simp [ysL, encs]) <;> (try omega)) ?_ ?_
    · omega
    rintro k hk
    simp only [↓sxD, ↓sxP0, ↓sxP3, ↓sxGd, sxP1, sxF, sxA, sxS, sxK, sxG, sxZ, sxH, sxU, encs, tys, sxN, sevalprocAttr, ne_eq, decide_true, decide_false]
    refine BrW.dec (fun hlt => ?_) (fun hlt => ?_)
    · simp only [↓sxD, ↓sxP0, ↓sxP3, ↓sxGd, sxP1, sxF, sxA, sxS, sxK, sxG, sxZ, sxH, sxU, encs, tys, sxN, sevalprocAttr, ne_eq, decide_true, decide_false]
      have hlt : k < n := by omega
      refine CallI.fn (containsI_s true head k (by omega)) (by simp only [sxA, sxL, sxF, sxG, sxH, sxU, encs, sxN, sevalprocAttr, ne_eq, decide_true, decide_false] <;> (try simp) <;> (try rfl)) ?_
      simp only [↓sxD, ↓sxP0, ↓sxP3, ↓sxGd, sxP1, sxF, sxA, sxS, sxK, sxG, sxZ, sxH, sxU, encs, tys, sxN, sevalprocAttr, ne_eq, decide_true, decide_false]
      refine BrW.of (fun hin => ?_) (fun hin => ?_)
      · simp only [↓sxD, ↓sxP0, ↓sxP3, ↓sxGd, sxP1, sxF, sxA, sxS, sxK, sxG, sxZ, sxH, sxU, encs, tys, sxN, sevalprocAttr, ne_eq, decide_true, decide_false]
        have he : ysL n m head (k + 1) = ysL n m head k := by rw [ysL_succ]; simp [pcL, hin]
        rw [← he]
        repeat ((with_reducible refine Vc.go ?_ fun _ => ?_); (focus (first | omega | (simp only [InK]; omega) | (simp [InK]; done) | (simp [InK]; omega))); simp only [↓sxD, ↓sxP0, ↓sxP3, ↓sxGd, sxP1, sxF, sxA, sxS, sxK, sxG, sxZ, sxH, sxU, encs, tys, sxN, sevalprocAttr, ne_eq, decide_true, decide_false])
        refine ⟨k + 1, StLe.auto (by simp only [sxS, sxL, sxF, sxG, sxH, sxU, encs, sxN, sevalprocAttr, ne_eq, decide_true, decide_false] <;> (try simp) <;> (try omega)), ?_, ?_⟩
        · omega
        · omega
      · simp only [↓sxD, ↓sxP0, ↓sxP3, ↓sxGd, sxP1, sxF, sxA, sxS, sxK, sxG, sxZ, sxH, sxU, encs, tys, sxN, sevalprocAttr, ne_eq, decide_true, decide_false]
        have he : ysL n m head (k + 1) = ysL n m head k ++ ordL n m (head ++ [(k : Int)]) := by rw [ysL_succ]; simp [pcL, hin]
        refine DrawW.plan Tok mixed (.q 0 <| .q 2 <| .q 5 <| .e2 1 [5] (.e 3 [0, 5] <| .e 4 [5] <| .e 6 [] <| .done) 3 [0, 5] (.e 1 [5] <| .e 4 [5] <| .e 6 [] <| .done)) (by kernel_rfl) (by kernel_rfl) ?_
        simp only [↓sxD, ↓sxP0, ↓sxP3, ↓sxGd, sxP1, sxF, sxA, sxS, sxK, sxG, sxZ, sxH, sxU, encs, tys, sxN, sevalprocAttr, ne_eq, decide_true, decide_false]
        have hcl := clone_s true (head.map eI) (by simp [kpLL_map, encs, kpL, kpD]) (by simp; omega)
        have ih := ordersIt_s n hn m (head ++ [(k : Int)]) (by simp; omega)
        have hmore : ∀ pre d, (pre ++ [d]) <+: (ordL n m (head ++ [(k : Int)])).map eO → ((ysL n m head k).map eO ++ pre) ++ [d] <+: (ordL n (m + 1) head).map eO := fun pre d h => by
          rw [List.append_assoc]
          refine ((List.prefix_append_right_inj _).2 h).trans ?_
          rw [← List.map_append, ← he, ← ysL_all]
          exact (ysL_le (by omega)).map eO
        have encs := And.intro encs (show ∀ o, eO o = [.sl true 1 (o.map eI)] from fun _ => rfl)
        refine ⟨?_, ?_⟩
        · refine CallI.ctr (hcl) (by simp only [sxA, sxL, sxF, sxG, sxH, sxU, encs, sxN, sevalprocAttr, ne_eq, decide_true, decide_false] <;> (try simp) <;> (try rfl)) ?_
          rintro _ rfl
          simp only [↓sxD, ↓sxP0, ↓sxP3, ↓sxGd, sxP1, sxF, sxA, sxS, sxK, sxG, sxZ, sxH, sxU, encs, tys, sxN, sevalprocAttr, ne_eq, decide_true, decide_false]
          repeat ((with_reducible refine Vc.go ?_ fun _ => ?_); (focus (first | omega | (simp only [InK]; omega) | (simp [InK]; done) | (simp [InK]; omega))); simp only [↓sxD, ↓sxP0, ↓sxP3, ↓sxGd, sxP1, sxF, sxA, sxS, sxK, sxG, sxZ, sxH, sxU, encs, tys, sxN, sevalprocAttr, ne_eq, decide_true, decide_false])
          refine CallI.frz [3] (by simp only [sxS, sxL, sxF, sxG, sxH, sxU, sxA, encs, sxN, sevalprocAttr, ne_eq, decide_true, decide_false] <;> rfl) (by simp only [sxS, sxL, sxF, sxG, sxH, sxU, sxA, encs, sxN, sevalprocAttr, ne_eq, decide_true, decide_false] <;> rfl) ?_
          refine CallI.fn (orders_s (head ++ [(k : Int)]) (n : Int)) (by simp only [sxA, sxL, sxF, sxG, sxH, sxU, encs, sxN, sevalprocAttr, ne_eq, decide_true, decide_false] <;> (try simp) <;> (try rfl)) ?_
          simp only [↓sxD, ↓sxP0, ↓sxP3, ↓sxGd, sxP1, sxF, sxA, sxS, sxK, sxG, sxZ, sxH, sxU, encs, tys, sxN, sevalprocAttr, ne_eq, decide_true, decide_false]
          refine RangeW.it Tok (fun _ => rfl) (fun hro => by first | rfl | exact (by rw [hro] at *; contradiction)) (ih) [(1, .pt true [.sl true 1 (head.map eI)]), (2, .pt true [.v (.int .i64 n)]), (3, .box 0 0), (13, (.v (.int .i64 ((n : Int))))), (14, (.v (.int .i64 ((k : Int))))), (26, .clo 131 (ordC (head ++ [(k : Int)]) n))] (fun ys => [some ⟨178, [.v (.func (.yield yd.yl) ⟨[]⟩ ⟨[]⟩)]⟩]) (fun ys => [.gh false ((ysL n m head k).map eO ++ ys)]) (fun _ => True) trivial (by simp only [sxS, sxL, sxF, sxG, sxH, sxU, encs, sxN, sevalprocAttr, ne_eq, decide_true, decide_false] <;> (try simp) <;> (try omega)) rfl rfl (by simp [eO]) ?_ (fun hJall => ?_)
          · rintro pre d hpre - ρ σ μ ho' hy hs
            obtain ⟨o, rfl⟩ : ∃ o, d = eO o := by
              have := hpre.subset (show d ∈ pre ++ [d] by simp)
              obtain ⟨o, _, rfl⟩ := List.mem_map.1 this
              exact ⟨o, rfl⟩
            obtain ⟨yd', ro, mks, fr, lp, sz⟩ := ho'
            obtain rfl : yd' = yd := hy
            simp only [↓sxD, ↓sxP0, ↓sxP3, ↓sxGd, sxP1, sxF, sxA, sxS, sxK, sxG, sxZ, sxH, sxU, encs, tys, sxN, sevalprocAttr, ne_eq, decide_true, decide_false]
            intro fr'
            refine YldI.of (ys := (ysL n m head k).map eO ++ pre) hok rfl rfl (by simp only [sxS, sxL, sxF, sxG, sxH, sxU, sxA, encs, sxN, sevalprocAttr, ne_eq, decide_true, decide_false] <;> rfl) (by simp only [sxS, sxL, sxF, sxG, sxH, sxU, sxA, encs, sxN, sevalprocAttr, ne_eq, decide_true, decide_false] <;> rfl) rfl rfl rfl (hmore pre _ hpre) ?_ ?_
            · simp only [↓sxD, ↓sxP0, ↓sxP3, ↓sxGd, sxP1, sxF, sxA, sxS, sxK, sxG, sxZ, sxH, sxU, encs, tys, sxN, sevalprocAttr, ne_eq, decide_true, decide_false]
              simp only [sxS, sxL, sxF, sxG, sxH, sxU, encs, sxN, sevalprocAttr, ne_eq, decide_true, decide_false] <;> (try simp) <;> (try omega)
            · simp only [↓sxD, ↓sxP0, ↓sxP3, ↓sxGd, sxP1, sxF, sxA, sxS, sxK, sxG, sxZ, sxH, sxU, encs, tys, sxN, sevalprocAttr, ne_eq, decide_true, decide_false]
              intro h
              cases h
          · simp only [↓sxD, ↓sxP0, ↓sxP3, ↓sxGd, sxP1, sxF, sxA, sxS, sxK, sxG, sxZ, sxH, sxU, encs, tys, sxN, sevalprocAttr, ne_eq, decide_true, decide_false]
            repeat ((with_reducible refine Vc.go ?_ fun _ => ?_); (focus (first | omega | (simp only [InK]; omega) | (simp [InK]; done) | (simp [InK]; omega))); simp only [↓sxD, ↓sxP0, ↓sxP3, ↓sxGd, sxP1, sxF, sxA, sxS, sxK, sxG, sxZ, sxH, sxU, encs, tys, sxN, sevalprocAttr, ne_eq, decide_true, decide_false])
            refine ⟨k + 1, StLe.auto (by simp only [sxS, sxL, sxF, sxG, sxH, sxU, encs, sxN, sevalprocAttr, ne_eq, decide_true, decide_false] <;> (try simp [he, encs]) <;> (try omega)), ?_, ?_⟩
            · omega
            · omega
        · refine CallI.ctr (hcl) (by simp only [sxA, sxL, sxF, sxG, sxH, sxU, encs, sxN, sevalprocAttr, ne_eq, decide_true, decide_false] <;> (try simp) <;> (try rfl)) ?_
          rintro _ rfl
          simp only [↓sxD, ↓sxP0, ↓sxP3, ↓sxGd, sxP1, sxF, sxA, sxS, sxK, sxG, sxZ, sxH, sxU, encs, tys, sxN, sevalprocAttr, ne_eq, decide_true, decide_false]
          repeat ((with_reducible refine Vc.go ?_ fun _ => ?_); (focus (first | omega | (simp only [InK]; omega) | (simp [InK]; done) | (simp [InK]; omega))); simp only [↓sxD, ↓sxP0, ↓sxP3, ↓sxGd, sxP1, sxF, sxA, sxS, sxK, sxG, sxZ, sxH, sxU, encs, tys, sxN, sevalprocAttr, ne_eq, decide_true, decide_false])
          refine CallI.frz [3] (by simp only [sxS, sxL, sxF, sxG, sxH, sxU, sxA, encs, sxN, sevalprocAttr, ne_eq, decide_true, decide_false] <;> rfl) (by simp only [sxS, sxL, sxF, sxG, sxH, sxU, sxA, encs, sxN, sevalprocAttr, ne_eq, decide_true, decide_false] <;> rfl) ?_
          refine CallI.fn (orders_s (head ++ [(k : Int)]) (n : Int)) (by simp only [sxA, sxL, sxF, sxG, sxH, sxU, encs, sxN, sevalprocAttr, ne_eq, decide_true, decide_false] <;> (try simp) <;> (try rfl)) ?_
          simp only [↓sxD, ↓sxP0, ↓sxP3, ↓sxGd, sxP1, sxF, sxA, sxS, sxK, sxG, sxZ, sxH, sxU, encs, tys, sxN, sevalprocAttr, ne_eq, decide_true, decide_false]
          refine RangeW.it Tok (fun _ => rfl) (fun hro => by first | rfl | exact (by rw [hro] at *; contradiction)) (ih) [(1, .pt true [.sl true 1 (head.map eI)]), (2, .pt true [.v (.int .i64 n)]), (3, .box 0 0), (13, (.v (.int .i64 ((n : Int))))), (14, (.v (.int .i64 ((k : Int))))), (26, .clo 131 (ordC (head ++ [(k : Int)]) n))] (fun ys => [some ⟨178, [.v (.func (.yield yd.yl) ⟨[]⟩ ⟨[]⟩)]⟩]) (fun ys => [.gh false ((ysL n m head k).map eO ++ ys)]) (fun _ => True) trivial (by simp only [sxS, sxL, sxF, sxG, sxH, sxU, encs, sxN, sevalprocAttr, ne_eq, decide_true, decide_false] <;> (try simp) <;> (try omega)) rfl rfl (by simp [eO]) ?_ (fun hJall => ?_)
          · rintro pre d hpre - ρ σ μ ho' hy hs
            obtain ⟨o, rfl⟩ : ∃ o, d = eO o := by
              have := hpre.subset (show d ∈ pre ++ [d] by simp)
              obtain ⟨o, _, rfl⟩ := List.mem_map.1 this
              exact ⟨o, rfl⟩
            obtain ⟨yd', ro, mks, fr, lp, sz⟩ := ho'
            obtain rfl : yd' = yd := hy
            simp only [↓sxD, ↓sxP0, ↓sxP3, ↓sxGd, sxP1, sxF, sxA, sxS, sxK, sxG, sxZ, sxH, sxU, encs, tys, sxN, sevalprocAttr, ne_eq, decide_true, decide_false]
            intro fr'
            refine YldI.of (ys := (ysL n m head k).map eO ++ pre) hok rfl rfl (by simp only [sxS, sxL, sxF, sxG, sxH, sxU, sxA, encs, sxN, sevalprocAttr, ne_eq, decide_true, decide_false] <;> rfl) (by simp only [sxS, sxL, sxF, sxG, sxH, sxU, sxA, encs, sxN, sevalprocAttr, ne_eq, decide_true, decide_false] <;> rfl) rfl rfl rfl (hmore pre _ hpre) ?_ ?_
            · simp only [↓sxD, ↓sxP0, ↓sxP3, ↓sxGd, sxP1, sxF, sxA, sxS, sxK, sxG, sxZ, sxH, sxU, encs, tys, sxN, sevalprocAttr, ne_eq, decide_true, decide_false]
              simp only [sxS, sxL, sxF, sxG, sxH, sxU, encs, sxN, sevalprocAttr, ne_eq, decide_true, decide_false] <;> (try simp) <;> (try omega)
            · simp only [↓sxD, ↓sxP0, ↓sxP3, ↓sxGd, sxP1, sxF, sxA, sxS, sxK, sxG, sxZ, sxH, sxU, encs, tys, sxN, sevalprocAttr, ne_eq, decide_true, decide_false]
              intro h
              cases h
          · simp only [↓sxD, ↓sxP0, ↓sxP3, ↓sxGd, sxP1, sxF, sxA, sxS, sxK, sxG, sxZ, sxH, sxU, encs, tys, sxN, sevalprocAttr, ne_eq, decide_true, decide_false]
            repeat ((with_reducible refine Vc.go ?_ fun _ => ?_); (focus (first | omega | (simp only [InK]; omega) | (simp [InK]; done) | (simp [InK]; omega))); simp only [↓sxD, ↓sxP0, ↓sxP3, ↓sxGd, sxP1, sxF, sxA, sxS, sxK, sxG, sxZ, sxH, sxU, encs, tys, sxN, sevalprocAttr, ne_eq, decide_true, decide_false])
            refine ⟨k + 1, StLe.auto (by simp only [sxS, sxL, sxF, sxG, sxH, sxU, encs, sxN, sevalprocAttr, ne_eq, decide_true, decide_false] <;> (try simp [he, encs]) <;> (try omega)), ?_, ?_⟩
            · omega
            · omega
    · simp only [↓sxD, ↓sxP0, ↓sxP3, ↓sxGd, sxP1, sxF, sxA, sxS, sxK, sxG, sxZ, sxH, sxU, encs, tys, sxN, sevalprocAttr, ne_eq, decide_true, decide_false]
      have hke : k = n := by omega
      subst hke
      intro _
      rw [ysL_all]
end Go.Proofs.Ytaagelngbbkllaa
