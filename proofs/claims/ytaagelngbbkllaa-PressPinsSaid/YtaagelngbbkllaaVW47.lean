/-
  Chapter 9, walks: offsets of pins.
-/
import Derived.Test.YtaagelngbbkllaaVW46
namespace Go.Proofs.Ytaagelngbbkllaa
open Go Go.Vx
set_option linter.unusedSimpArgs false
set_option linter.unusedVariables false
set_option maxRecDepth 20000
def offP (p q : Pn) : Pn := ⟨p.a - q.b, p.b - q.a, p.c - q.d, p.d - q.c, p.e - q.f, p.f - q.e⟩
def OkP (p : Pn) : Prop := (-1000000 ≤ p.a ∧ p.a ≤ 1000000) ∧ (-1000000 ≤ p.b ∧ p.b ≤ 1000000) ∧ (-1000000 ≤ p.c ∧ p.c ≤ 1000000) ∧ (-1000000 ≤ p.d ∧ p.d ≤ 1000000) ∧ (-1000000 ≤ p.e ∧ p.e ≤ 1000000) ∧ (-1000000 ≤ p.f ∧ p.f ≤ 1000000)
def offC (p q : Pn) : Nat → List SV
  | 0 => [(.v (.int .i64 p.a)), (.v (.int .i64 p.b)), (.v (.int .i64 p.c)), (.v (.int .i64 p.d)), (.v (.int .i64 p.e)), (.v (.int .i64 p.f))]
  | 1 => [(.v (.int .i64 (p.a - q.b))), (.v (.int .i64 (p.b - q.a))), (.v (.int .i64 p.c)), (.v (.int .i64 p.d)), (.v (.int .i64 p.e)), (.v (.int .i64 p.f))]
  | 2 => [(.v (.int .i64 (p.a - q.b))), (.v (.int .i64 (p.b - q.a))), (.v (.int .i64 (p.c - q.d))), (.v (.int .i64 (p.d - q.c))), (.v (.int .i64 p.e)), (.v (.int .i64 p.f))]
  | _ => [(.v (.int .i64 (p.a - q.b))), (.v (.int .i64 (p.b - q.a))), (.v (.int .i64 (p.c - q.d))), (.v (.int .i64 (p.d - q.c))), (.v (.int .i64 (p.e - q.f))), (.v (.int .i64 (p.f - q.e)))]
set_option maxHeartbeats 4000000 in
theorem offset_s (p q : Pn) (hp : OkP p) (hq : OkP q) : Ctr Try.prog 106 [.agg [(.v (.int .i64 p.a)), (.v (.int .i64 p.b)), (.v (.int .i64 p.c)), (.v (.int .i64 p.d)), (.v (.int .i64 p.e)), (.v (.int .i64 p.f))], .agg [(.v (.int .i64 q.a)), (.v (.int .i64 q.b)), (.v (.int .i64 q.c)), (.v (.int .i64 q.d)), (.v (.int .i64 q.e)), (.v (.int .i64 q.f))]] (fun rr => rr = ⟨pnV (offP p q), []⟩) := by
  obtain ⟨⟨p1, p2⟩, ⟨p3, p4⟩, ⟨p5, p6⟩, ⟨p7, p8⟩, ⟨p9, p10⟩, p11, p12⟩ := hp
  obtain ⟨⟨q1, q2⟩, ⟨q3, q4⟩, ⟨q5, q6⟩, ⟨q7, q8⟩, ⟨q9, q10⟩, q11, q12⟩ := hq
  have encs := And.intro encs (And.intro (show ∀ p, pnV p = .agg [(.v (.int .i64 p.a)), (.v (.int .i64 p.b)), (.v (.int .i64 p.c)), (.v (.int .i64 p.d)), (.v (.int .i64 p.e)), (.v (.int .i64 p.f))] from fun _ => rfl) (And.intro (show offC p q 0 = [(.v (.int .i64 p.a)), (.v (.int .i64 p.b)), (.v (.int .i64 p.c)), (.v (.int .i64 p.d)), (.v (.int .i64 p.e)), (.v (.int .i64 p.f))] from rfl)
    (And.intro (show offC p q 1 = [(.v (.int .i64 (p.a - q.b))), (.v (.int .i64 (p.b - q.a))), (.v (.int .i64 p.c)), (.v (.int .i64 p.d)), (.v (.int .i64 p.e)), (.v (.int .i64 p.f))] from rfl) (And.intro (show offC p q 2 = [(.v (.int .i64 (p.a - q.b))), (.v (.int .i64 (p.b - q.a))), (.v (.int .i64 (p.c - q.d))), (.v (.int .i64 (p.d - q.c))), (.v (.int .i64 p.e)), (.v (.int .i64 p.f))] from rfl) (show offC p q 3 = [(.v (.int .i64 (p.a - q.b))), (.v (.int .i64 (p.b - q.a))), (.v (.int .i64 (p.c - q.d))), (.v (.int .i64 (p.d - q.c))), (.v (.int .i64 (p.e - q.f))), (.v (.int .i64 (p.f - q.e)))] from rfl)))))
  refine Ctr.of (rs := [.cell 4 89]) Tok true Try.func106 rfl rfl rfl rfl (by simp [ofDL]) (fun w0 kp => ?_)
  simp only [↓sxD, ↓sxP0, ↓sxP3, ↓sxGd, sxP1, sxF, sxA, sxS, sxK, sxG, sxZ, sxH, sxU, encs, tys, sxN, sevalprocAttr, ne_eq, decide_true, decide_false]
  refine CallI.fn (parts_s p) (by simp only [sxA, sxL, sxF, sxG, sxH, sxU, encs, sxN, sevalprocAttr, ne_eq, decide_true, decide_false] <;> (try simp) <;> (try rfl)) ?_
  simp only [↓sxD, ↓sxP0, ↓sxP3, ↓sxGd, sxP1, sxF, sxA, sxS, sxK, sxG, sxZ, sxH, sxU, encs, tys, sxN, sevalprocAttr, ne_eq, decide_true, decide_false]
  refine CallI.fn (parts_s q) (by simp only [sxA, sxL, sxF, sxG, sxH, sxU, encs, sxN, sevalprocAttr, ne_eq, decide_true, decide_false] <;> (try simp) <;> (try rfl)) ?_
  simp only [↓sxD, ↓sxP0, ↓sxP3, ↓sxGd, sxP1, sxF, sxA, sxS, sxK, sxG, sxZ, sxH, sxU, encs, tys, sxN, sevalprocAttr, ne_eq, decide_true, decide_false]
  refine LoopW.comp [4, 5, 11, 12] (by simp only [sxS, sxL, sxF, sxG, sxH, sxU, encs, sxN, sevalprocAttr, ne_eq, decide_true, decide_false] <;> (try simp) <;> (try omega)) ?_
  simp only [sxS, sxF, sxG, sxH, sxU, sxN, sevalprocAttr, ne_eq, decide_true, decide_false]
  refine LoopW.up Tok (fun k : Nat => [(12, (.v (.int .i64 k)))]) (fun k => [(3, offC p q k)]) (fun k => []) (fun k => []) (fun k => k ≤ 3) (fun k => 3 - k) (0) (by simp only [sxS, sxL, sxF, sxG, sxH, sxU, encs, sxN, sevalprocAttr, ne_eq, decide_true, decide_false] <;> (try simp) <;> (try omega)) ?_ ?_
  · omega
  rintro k hk
  obtain rfl | rfl | rfl | rfl : k = 0 ∨ k = 1 ∨ k = 2 ∨ k = 3 := by omega
  · simp only [↓sxD, ↓sxP0, ↓sxP3, ↓sxGd, sxP1, sxF, sxA, sxS, sxK, sxG, sxZ, sxH, sxU, encs, tys, sxN, sevalprocAttr, ne_eq, decide_true, decide_false]
    refine ArrIx.go (by simp) ?_
    simp only [↓sxD, ↓sxP0, ↓sxP3, ↓sxGd, sxP1, sxF, sxA, sxS, sxK, sxG, sxZ, sxH, sxU, encs, tys, sxN, sevalprocAttr, ne_eq, decide_true, decide_false]
    refine DrawW.plan Tok mixed (.q 0 <| .q 1 <| .q 2 <| .q 3 <| .q 4 <| .q 5 <| .q 6 <| .q 7 <| .q 8 <| .q 9 <| .q 10 <| .q 11 <| .q 12 <| .q 13 <| .q 14 <| .q 15 <| .q 16 <| .e 17 [] <| .done) (by kernel_rfl) (by kernel_rfl) ?_
    simp only [↓sxD, ↓sxP0, ↓sxP3, ↓sxGd, sxP1, sxF, sxA, sxS, sxK, sxG, sxZ, sxH, sxU, encs, tys, sxN, sevalprocAttr, ne_eq, decide_true, decide_false]
    repeat ((with_reducible refine Vc.go ?_ fun _ => ?_); (focus (first | omega | (simp only [InK]; omega) | (simp [InK]; done) | (simp [InK]; omega))); simp only [↓sxD, ↓sxP0, ↓sxP3, ↓sxGd, sxP1, sxF, sxA, sxS, sxK, sxG, sxZ, sxH, sxU, encs, tys, sxN, sevalprocAttr, ne_eq, decide_true, decide_false])
    refine ⟨1, StLe.auto (by simp only [sxS, sxL, sxF, sxG, sxH, sxU, encs, sxN, sevalprocAttr, ne_eq, decide_true, decide_false] <;> (try simp) <;> (try omega)), ?_, ?_⟩
    all_goals omega
  · simp only [↓sxD, ↓sxP0, ↓sxP3, ↓sxGd, sxP1, sxF, sxA, sxS, sxK, sxG, sxZ, sxH, sxU, encs, tys, sxN, sevalprocAttr, ne_eq, decide_true, decide_false]
    refine ArrIx.go (by simp) ?_
    simp only [↓sxD, ↓sxP0, ↓sxP3, ↓sxGd, sxP1, sxF, sxA, sxS, sxK, sxG, sxZ, sxH, sxU, encs, tys, sxN, sevalprocAttr, ne_eq, decide_true, decide_false]
    refine DrawW.plan Tok mixed (.q 0 <| .q 1 <| .q 2 <| .q 3 <| .q 4 <| .q 5 <| .q 6 <| .q 7 <| .q 8 <| .q 9 <| .q 10 <| .q 11 <| .q 12 <| .q 13 <| .q 14 <| .q 15 <| .q 16 <| .e 17 [] <| .done) (by kernel_rfl) (by kernel_rfl) ?_
    simp only [↓sxD, ↓sxP0, ↓sxP3, ↓sxGd, sxP1, sxF, sxA, sxS, sxK, sxG, sxZ, sxH, sxU, encs, tys, sxN, sevalprocAttr, ne_eq, decide_true, decide_false]
    repeat ((with_reducible refine Vc.go ?_ fun _ => ?_); (focus (first | omega | (simp only [InK]; omega) | (simp [InK]; done) | (simp [InK]; omega))); simp only [↓sxD, ↓sxP0, ↓sxP3, ↓sxGd, sxP1, sxF, sxA, sxS, sxK, sxG, sxZ, sxH, sxU, encs, tys, sxN, sevalprocAttr, ne_eq, decide_true, decide_false])
    refine ⟨2, StLe.auto (by simp only [sxS, sxL, sxF, sxG, sxH, sxU, encs, sxN, sevalprocAttr, ne_eq, decide_true, decide_false] <;> (try simp) <;> (try omega)), ?_, ?_⟩
    all_goals omega
  · simp only [↓sxD, ↓sxP0, ↓sxP3, ↓sxGd, sxP1, sxF, sxA, sxS, sxK, sxG, sxZ, sxH, sxU, encs, tys, sxN, sevalprocAttr, ne_eq, decide_true, decide_false]
    refine ArrIx.go (by simp) ?_
    simp only [↓sxD, ↓sxP0, ↓sxP3, ↓sxGd, sxP1, sxF, sxA, sxS, sxK, sxG, sxZ, sxH, sxU, encs, tys, sxN, sevalprocAttr, ne_eq, decide_true, decide_false]
    refine DrawW.plan Tok mixed (.q 0 <| .q 1 <| .q 2 <| .q 3 <| .q 4 <| .q 5 <| .q 6 <| .q 7 <| .q 8 <| .q 9 <| .q 10 <| .q 11 <| .q 12 <| .q 13 <| .q 14 <| .q 15 <| .q 16 <| .e 17 [] <| .done) (by kernel_rfl) (by kernel_rfl) ?_
    simp only [↓sxD, ↓sxP0, ↓sxP3, ↓sxGd, sxP1, sxF, sxA, sxS, sxK, sxG, sxZ, sxH, sxU, encs, tys, sxN, sevalprocAttr, ne_eq, decide_true, decide_false]
    repeat ((with_reducible refine Vc.go ?_ fun _ => ?_); (focus (first | omega | (simp only [InK]; omega) | (simp [InK]; done) | (simp [InK]; omega))); simp only [↓sxD, ↓sxP0, ↓sxP3, ↓sxGd, sxP1, sxF, sxA, sxS, sxK, sxG, sxZ, sxH, sxU, encs, tys, sxN, sevalprocAttr, ne_eq, decide_true, decide_false])
    refine ⟨3, StLe.auto (by simp only [sxS, sxL, sxF, sxG, sxH, sxU, encs, sxN, sevalprocAttr, ne_eq, decide_true, decide_false] <;> (try simp) <;> (try omega)), ?_, ?_⟩
    all_goals omega
  · simp only [↓sxD, ↓sxP0, ↓sxP3, ↓sxGd, sxP1, sxF, sxA, sxS, sxK, sxG, sxZ, sxH, sxU, encs, tys, sxN, sevalprocAttr, ne_eq, decide_true, decide_false]
    exact EndW.fn (by simp only [sxL, sxG, sxH, sxU, encs, kpLL_map, sxN, sevalprocAttr, ne_eq, decide_true, decide_false] <;> (try simp [offP]) <;> (try omega)) (by simp only [sxL, sxG, sxH, sxU, encs, kpLL_map, sxN, sevalprocAttr, ne_eq, decide_true, decide_false] <;> (try simp) <;> (try omega))
def offD (p q : Pn) : Nat → List SV
  | 0 => [(.v (.int .i64 0)), (.v (.int .i64 0)), (.v (.int .i64 0)), (.v (.int .i64 0)), (.v (.int .i64 0)), (.v (.int .i64 0))]
  | 1 => [(.v (.int .i64 (p.a - q.b))), (.v (.int .i64 (p.b - q.a))), (.v (.int .i64 0)), (.v (.int .i64 0)), (.v (.int .i64 0)), (.v (.int .i64 0))]
  | 2 => [(.v (.int .i64 (p.a - q.b))), (.v (.int .i64 (p.b - q.a))), (.v (.int .i64 (p.c - q.d))), (.v (.int .i64 (p.d - q.c))), (.v (.int .i64 0)), (.v (.int .i64 0))]
  | _ => [(.v (.int .i64 (p.a - q.b))), (.v (.int .i64 (p.b - q.a))), (.v (.int .i64 (p.c - q.d))), (.v (.int .i64 (p.d - q.c))), (.v (.int .i64 (p.e - q.f))), (.v (.int .i64 (p.f - q.e)))]
set_option maxHeartbeats 4000000 in
theorem offsetR_s (p q : Pn) (hp : OkP p) (hq : OkP q) : Ctr Try.prog 54 [.agg [(.v (.int .i64 p.a)), (.v (.int .i64 p.b)), (.v (.int .i64 p.c)), (.v (.int .i64 p.d)), (.v (.int .i64 p.e)), (.v (.int .i64 p.f))], .agg [(.v (.int .i64 q.a)), (.v (.int .i64 q.b)), (.v (.int .i64 q.c)), (.v (.int .i64 q.d)), (.v (.int .i64 q.e)), (.v (.int .i64 q.f))]] (fun rr => rr = ⟨pnV (offP p q), []⟩) := by
  obtain ⟨⟨p1, p2⟩, ⟨p3, p4⟩, ⟨p5, p6⟩, ⟨p7, p8⟩, ⟨p9, p10⟩, p11, p12⟩ := hp
  obtain ⟨⟨q1, q2⟩, ⟨q3, q4⟩, ⟨q5, q6⟩, ⟨q7, q8⟩, ⟨q9, q10⟩, q11, q12⟩ := hq
  have encs := And.intro encs (And.intro (show ∀ p, pnV p = .agg [(.v (.int .i64 p.a)), (.v (.int .i64 p.b)), (.v (.int .i64 p.c)), (.v (.int .i64 p.d)), (.v (.int .i64 p.e)), (.v (.int .i64 p.f))] from fun _ => rfl) (And.intro (show offD p q 0 = [(.v (.int .i64 0)), (.v (.int .i64 0)), (.v (.int .i64 0)), (.v (.int .i64 0)), (.v (.int .i64 0)), (.v (.int .i64 0))] from rfl)
    (And.intro (show offD p q 1 = [(.v (.int .i64 (p.a - q.b))), (.v (.int .i64 (p.b - q.a))), (.v (.int .i64 0)), (.v (.int .i64 0)), (.v (.int .i64 0)), (.v (.int .i64 0))] from rfl) (And.intro (show offD p q 2 = [(.v (.int .i64 (p.a - q.b))), (.v (.int .i64 (p.b - q.a))), (.v (.int .i64 (p.c - q.d))), (.v (.int .i64 (p.d - q.c))), (.v (.int .i64 0)), (.v (.int .i64 0))] from rfl) (show offD p q 3 = [(.v (.int .i64 (p.a - q.b))), (.v (.int .i64 (p.b - q.a))), (.v (.int .i64 (p.c - q.d))), (.v (.int .i64 (p.d - q.c))), (.v (.int .i64 (p.e - q.f))), (.v (.int .i64 (p.f - q.e)))] from rfl)))))
  refine Ctr.of (rs := [.cell 4 89]) Tok true Try.func54 rfl rfl rfl rfl (by simp [ofDL]) (fun w0 kp => ?_)
  simp only [↓sxD, ↓sxP0, ↓sxP3, ↓sxGd, sxP1, sxF, sxA, sxS, sxK, sxG, sxZ, sxH, sxU, encs, tys, sxN, sevalprocAttr, ne_eq, decide_true, decide_false]
  refine DrawW.plan Tok mixed (.q 0 <| .q 2 <| .e3 1 [2] (.e3 3 [] (.e2 4 [0, 2] (.e 5 [0, 2] <| .e 6 [] <| .e 7 [] <| .done) 5 [0, 2] (.e 4 [0, 2] <| .e 6 [] <| .e 7 [] <| .done)) 4 [0, 2] (.e2 3 [] (.e 5 [0, 2] <| .e 6 [] <| .e 7 [] <| .done) 5 [0, 2] (.e 3 [] <| .e 6 [] <| .e 7 [] <| .done)) 5 [0, 2] (.e2 3 [] (.e 4 [0, 2] <| .e 6 [] <| .e 7 [] <| .done) 4 [0, 2] (.e 3 [] <| .e 6 [] <| .e 7 [] <| .done))) 4 [0, 2] (.e2 1 [2] (.e2 3 [] (.e 5 [0, 2] <| .e 6 [] <| .e 7 [] <| .done) 5 [0, 2] (.e 3 [] <| .e 6 [] <| .e 7 [] <| .done)) 5 [0, 2] (.e 1 [2] <| .e 3 [] <| .e 6 [] <| .e 7 [] <| .done)) 5 [0, 2] (.e2 1 [2] (.e2 3 [] (.e 4 [0, 2] <| .e 6 [] <| .e 7 [] <| .done) 4 [0, 2] (.e 3 [] <| .e 6 [] <| .e 7 [] <| .done)) 4 [0, 2] (.e 1 [2] <| .e 3 [] <| .e 6 [] <| .e 7 [] <| .done))) (by kernel_rfl) (by kernel_rfl) ?_
  simp only [↓sxD, ↓sxP0, ↓sxP3, ↓sxGd, sxP1, sxF, sxA, sxS, sxK, sxG, sxZ, sxH, sxU, encs, tys, sxN, sevalprocAttr, ne_eq, decide_true, decide_false]
  repeat' (first
    | refine ⟨?_, ?_, ?_⟩
    | refine ⟨?_, ?_⟩
    | ( show CallI _ _ [.agg [(.v (.int .i64 p.a)), (.v (.int .i64 p.b)), (.v (.int .i64 p.c)), (.v (.int .i64 p.d)), (.v (.int .i64 p.e)), (.v (.int .i64 p.f))]] _ _ _
        refine CallI.fn (numbers_s p) (by simp only [sxA, sxL, sxF, sxG, sxH, sxU, encs, sxN, sevalprocAttr, ne_eq, decide_true, decide_false] <;> (try simp) <;> (try rfl)) ?_
        simp only [↓sxD, ↓sxP0, ↓sxP3, ↓sxGd, sxP1, sxF, sxA, sxS, sxK, sxG, sxZ, sxH, sxU, encs, tys, sxN, sevalprocAttr, ne_eq, decide_true, decide_false] )
    | ( show CallI _ _ [.agg [(.v (.int .i64 q.a)), (.v (.int .i64 q.b)), (.v (.int .i64 q.c)), (.v (.int .i64 q.d)), (.v (.int .i64 q.e)), (.v (.int .i64 q.f))]] _ _ _
        refine CallI.fn (numbers_s q) (by simp only [sxA, sxL, sxF, sxG, sxH, sxU, encs, sxN, sevalprocAttr, ne_eq, decide_true, decide_false] <;> (try simp) <;> (try rfl)) ?_
        simp only [↓sxD, ↓sxP0, ↓sxP3, ↓sxGd, sxP1, sxF, sxA, sxS, sxK, sxG, sxZ, sxH, sxU, encs, tys, sxN, sevalprocAttr, ne_eq, decide_true, decide_false] )
    | fail)
  all_goals (
    skip
    refine LoopW.comp [4, 5, 6, 7, 8] (by simp only [sxS, sxL, sxF, sxG, sxH, sxU, encs, sxN, sevalprocAttr, ne_eq, decide_true, decide_false] <;> (try simp) <;> (try omega)) ?_
    simp only [sxS, sxF, sxG, sxH, sxU, sxN, sevalprocAttr, ne_eq, decide_true, decide_false]
    refine LoopW.up Tok (fun k : Nat => [(8, (.v (.int .i64 k)))]) (fun k => [(3, offD p q k)]) (fun k => []) (fun k => []) (fun k => k ≤ 3) (fun k => 3 - k) (0) (by simp only [sxS, sxL, sxF, sxG, sxH, sxU, encs, sxN, sevalprocAttr, ne_eq, decide_true, decide_false] <;> (try simp) <;> (try omega)) ?_ ?_
    · omega
    rintro k hk
    obtain rfl | rfl | rfl | rfl : k = 0 ∨ k = 1 ∨ k = 2 ∨ k = 3 := by omega
    · simp only [↓sxD, ↓sxP0, ↓sxP3, ↓sxGd, sxP1, sxF, sxA, sxS, sxK, sxG, sxZ, sxH, sxU, encs, tys, sxN, sevalprocAttr, ne_eq, decide_true, decide_false]
      refine DrawW.plan Tok mixed (.q 0 <| .q 1 <| .q 2 <| .q 3 <| .q 4 <| .q 5 <| .q 6 <| .q 7 <| .q 8 <| .q 9 <| .q 10 <| .q 11 <| .q 12 <| .q 13 <| .q 14 <| .q 15 <| .q 16 <| .q 17 <| .q 18 <| .q 19 <| .q 20 <| .e 21 [] <| .done) (by kernel_rfl) (by kernel_rfl) ?_
      simp only [↓sxD, ↓sxP0, ↓sxP3, ↓sxGd, sxP1, sxF, sxA, sxS, sxK, sxG, sxZ, sxH, sxU, encs, tys, sxN, sevalprocAttr, ne_eq, decide_true, decide_false]
      repeat ((with_reducible refine Vc.go ?_ fun _ => ?_); (focus (first | omega | (simp only [InK]; omega) | (simp [InK]; done) | (simp [InK]; omega))); simp only [↓sxD, ↓sxP0, ↓sxP3, ↓sxGd, sxP1, sxF, sxA, sxS, sxK, sxG, sxZ, sxH, sxU, encs, tys, sxN, sevalprocAttr, ne_eq, decide_true, decide_false])
      refine ⟨1, StLe.auto (by simp only [sxS, sxL, sxF, sxG, sxH, sxU, encs, sxN, sevalprocAttr, ne_eq, decide_true, decide_false] <;> (try simp) <;> (try omega)), ?_, ?_⟩
      all_goals omega
    · simp only [↓sxD, ↓sxP0, ↓sxP3, ↓sxGd, sxP1, sxF, sxA, sxS, sxK, sxG, sxZ, sxH, sxU, encs, tys, sxN, sevalprocAttr, ne_eq, decide_true, decide_false]
      refine DrawW.plan Tok mixed (.q 0 <| .q 1 <| .q 2 <| .q 3 <| .q 4 <| .q 5 <| .q 6 <| .q 7 <| .q 8 <| .q 9 <| .q 10 <| .q 11 <| .q 12 <| .q 13 <| .q 14 <| .q 15 <| .q 16 <| .q 17 <| .q 18 <| .q 19 <| .q 20 <| .e 21 [] <| .done) (by kernel_rfl) (by kernel_rfl) ?_
      simp only [↓sxD, ↓sxP0, ↓sxP3, ↓sxGd, sxP1, sxF, sxA, sxS, sxK, sxG, sxZ, sxH, sxU, encs, tys, sxN, sevalprocAttr, ne_eq, decide_true, decide_false]
      repeat ((with_reducible refine Vc.go ?_ fun _ => ?_); (focus (first | omega | (simp only [InK]; omega) | (simp [InK]; done) | (simp [InK]; omega))); simp only [↓sxD, ↓sxP0, ↓sxP3, ↓sxGd, sxP1, sxF, sxA, sxS, sxK, sxG, sxZ, sxH, sxU, encs, tys, sxN, sevalprocAttr, ne_eq, decide_true, decide_false])
      refine ⟨2, StLe.auto (by simp only [sxS, sxL, sxF, sxG, sxH, sxU, encs, sxN, sevalprocAttr, ne_eq, decide_true, decide_false] <;> (try simp) <;> (try omega)), ?_, ?_⟩
      all_goals omega
    · simp only [↓sxD, ↓sxP0, ↓sxP3, ↓sxGd, sxP1, sxF, sxA, sxS, sxK, sxG, sxZ, sxH, sxU, encs, tys, sxN, sevalprocAttr, ne_eq, decide_true, decide_false]
      refine DrawW.plan Tok mixed (.q 0 <| .q 1 <| .q 2 <| .q 3 <| .q 4 <| .q 5 <| .q 6 <| .q 7 <| .q 8 <| .q 9 <| .q 10 <| .q 11 <| .q 12 <| .q 13 <| .q 14 <| .q 15 <| .q 16 <| .q 17 <| .q 18 <| .q 19 <| .q 20 <| .e 21 [] <| .done) (by kernel_rfl) (by kernel_rfl) ?_
      simp only [↓sxD, ↓sxP0, ↓sxP3, ↓sxGd, sxP1, sxF, sxA, sxS, sxK, sxG, sxZ, sxH, sxU, encs, tys, sxN, sevalprocAttr, ne_eq, decide_true, decide_false]
      repeat ((with_reducible refine Vc.go ?_ fun _ => ?_); (focus (first | omega | (simp only [InK]; omega) | (simp [InK]; done) | (simp [InK]; omega))); simp only [↓sxD, ↓sxP0, ↓sxP3, ↓sxGd, sxP1, sxF, sxA, sxS, sxK, sxG, sxZ, sxH, sxU, encs, tys, sxN, sevalprocAttr, ne_eq, decide_true, decide_false])
      refine ⟨3, StLe.auto (by simp only [sxS, sxL, sxF, sxG, sxH, sxU, encs, sxN, sevalprocAttr, ne_eq, decide_true, decide_false] <;> (try simp) <;> (try omega)), ?_, ?_⟩
      all_goals omega
    · simp only [↓sxD, ↓sxP0, ↓sxP3, ↓sxGd, sxP1, sxF, sxA, sxS, sxK, sxG, sxZ, sxH, sxU, encs, tys, sxN, sevalprocAttr, ne_eq, decide_true, decide_false]
      exact EndW.fn (by simp only [sxL, sxG, sxH, sxU, encs, kpLL_map, sxN, sevalprocAttr, ne_eq, decide_true, decide_false] <;> (try simp [offP]) <;> (try omega)) (by simp only [sxL, sxG, sxH, sxU, encs, kpLL_map, sxN, sevalprocAttr, ne_eq, decide_true, decide_false] <;> (try simp) <;> (try omega)) )
end Go.Proofs.Ytaagelngbbkllaa
