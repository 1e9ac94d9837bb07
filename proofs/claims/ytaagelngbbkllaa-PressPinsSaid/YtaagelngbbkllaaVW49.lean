/-
  Chapter 9, walks: whether colours are in register, by the reference.
-/
import Derived.Test.YtaagelngbbkllaaVW48
namespace Go.Proofs.Ytaagelngbbkllaa
open Go Go.Vx
set_option linter.unusedSimpArgs false
set_option linter.unusedVariables false
set_option maxRecDepth 20000
set_option maxHeartbeats 8000000 in
theorem inRegisterR_s (b : Bool) (l : List Pn) (m : Int) (h1 : pinsErr l = 0) (hw : 0 ≤ m ∧ m ≤ 1000000) : Ctr Try.prog 60 [.sl b 6 (l.map eP), (.v (.int .i64 m))] (fun rr => rr = ⟨(.v (.int .i64 (regV l m))), []⟩) := by
  have encs := And.intro encs (show ∀ p, pnV p = .agg [(.v (.int .i64 p.a)), (.v (.int .i64 p.b)), (.v (.int .i64 p.c)), (.v (.int .i64 p.d)), (.v (.int .i64 p.e)), (.v (.int .i64 p.f))] from fun _ => rfl)
  have hok := okP_all h1
  have hlen := pins_len h1
  refine Ctr.of (rs := [.tmp 4]) Tok true Try.func60 rfl rfl rfl rfl (by simp [ofDL]) (fun w0 kp => ?_)
  simp only [↓sxD, ↓sxP0, ↓sxP3, ↓sxGd, sxP1, sxF, sxA, sxS, sxK, sxG, sxZ, sxH, sxU, encs, tys, sxN, sevalprocAttr, ne_eq, decide_true, decide_false]
  refine LoopW.comp [0, 1, 5, 6] (by simp only [sxS, sxL, sxF, sxG, sxH, sxU, encs, sxN, sevalprocAttr, ne_eq, decide_true, decide_false] <;> (try simp) <;> (try omega)) ?_
  simp only [sxS, sxF, sxG, sxH, sxU, sxN, sevalprocAttr, ne_eq, decide_true, decide_false]
  refine LoopW.up Tok (fun x : Nat × Int => [(6, (.v (.int .i64 x.1))), (5, (.v (.int .i64 x.2)))]) (fun x => []) (fun x => []) (fun x => []) (fun x => x.1 ≤ l.length ∧ Res l m (fun a b => b < a ∧ a < l.length ∧ b < x.1) x.2) (fun x => l.length - x.1) ((0, 2)) (by simp only [sxS, sxL, sxF, sxG, sxH, sxU, encs, sxN, sevalprocAttr, ne_eq, decide_true, decide_false] <;> (try simp) <;> (try omega)) ?_ ?_
  · exact ⟨by omega, Res.none fun a b h => by simp only at h; omega⟩
  rintro ⟨i, a1⟩ ⟨hi, hr1⟩
  simp only at hi hr1
  simp only [↓sxD, ↓sxP0, ↓sxP3, ↓sxGd, sxP1, sxF, sxA, sxS, sxK, sxG, sxZ, sxH, sxU, encs, tys, sxN, sevalprocAttr, ne_eq, decide_true, decide_false]
  refine BrW.dec (fun hlt => ?_) (fun hlt => ?_)
  · simp only [↓sxD, ↓sxP0, ↓sxP3, ↓sxGd, sxP1, sxF, sxA, sxS, sxK, sxG, sxZ, sxH, sxU, encs, tys, sxN, sevalprocAttr, ne_eq, decide_true, decide_false]
    have hlt : i < l.length := by omega
    repeat ((with_reducible refine Vc.go ?_ fun _ => ?_); (focus (first | omega | (simp only [InK]; omega) | (simp [InK]; done) | (simp [InK]; omega))); simp only [↓sxD, ↓sxP0, ↓sxP3, ↓sxGd, sxP1, sxF, sxA, sxS, sxK, sxG, sxZ, sxH, sxU, encs, tys, sxN, sevalprocAttr, ne_eq, decide_true, decide_false])
    refine LoopW.comp [0, 1, 5, 6, 7] (by simp only [sxS, sxL, sxF, sxG, sxH, sxU, encs, sxN, sevalprocAttr, ne_eq, decide_true, decide_false] <;> (try simp) <;> (try omega)) ?_
    simp only [sxS, sxF, sxG, sxH, sxU, sxN, sevalprocAttr, ne_eq, decide_true, decide_false]
    refine LoopW.up Tok (fun x : Nat × Int => [(7, (.v (.int .i64 x.1))), (5, (.v (.int .i64 x.2)))]) (fun x => []) (fun x => []) (fun x => []) (fun x => (i < x.1 ∧ x.1 ≤ l.length) ∧ Res l m (fun a b => (b < a ∧ a < l.length ∧ b < i) ∨ (b = i ∧ i < a ∧ a < x.1)) x.2) (fun x => l.length - x.1) ((i + 1, a1)) (by simp only [sxS, sxL, sxF, sxG, sxH, sxU, encs, sxN, sevalprocAttr, ne_eq, decide_true, decide_false] <;> (try simp) <;> (try omega)) ?_ ?_
    · exact ⟨⟨by omega, by omega⟩, hr1.congr fun a b => by omega⟩
    rintro ⟨k, a2⟩ ⟨hk, hr2⟩
    simp only at hk hr2
    simp only [↓sxD, ↓sxP0, ↓sxP3, ↓sxGd, sxP1, sxF, sxA, sxS, sxK, sxG, sxZ, sxH, sxU, encs, tys, sxN, sevalprocAttr, ne_eq, decide_true, decide_false]
    refine BrW.dec (fun hlt2 => ?_) (fun hlt2 => ?_)
    · simp only [↓sxD, ↓sxP0, ↓sxP3, ↓sxGd, sxP1, sxF, sxA, sxS, sxK, sxG, sxZ, sxH, sxU, encs, tys, sxN, sevalprocAttr, ne_eq, decide_true, decide_false]
      have hlt2 : k < l.length := by omega
      refine DrawW.plan Tok mixed (.q 0 <| .q 1 <| .q 2 <| .q 3 <| .q 4 <| .q 5 <| .q 6 <| .q 7 <| .e2 8 [] (.e 9 [3, 7] <| .e 10 [] <| .done) 9 [3, 7] (.e 8 [] <| .e 10 [] <| .done)) (by kernel_rfl) (by kernel_rfl) ?_
      simp only [↓sxD, ↓sxP0, ↓sxP3, ↓sxGd, sxP1, sxF, sxA, sxS, sxK, sxG, sxZ, sxH, sxU, encs, tys, sxN, sevalprocAttr, ne_eq, decide_true, decide_false]
      refine IxW.nat hlt ?_
      simp only [↓sxD, ↓sxP0, ↓sxP3, ↓sxGd, sxP1, sxF, sxA, sxS, sxK, sxG, sxZ, sxH, sxU, encs, tys, sxN, sevalprocAttr, ne_eq, decide_true, decide_false]
      refine IxW.nat hlt2 ?_
      simp only [↓sxD, ↓sxP0, ↓sxP3, ↓sxGd, sxP1, sxF, sxA, sxS, sxK, sxG, sxZ, sxH, sxU, encs, tys, sxN, sevalprocAttr, ne_eq, decide_true, decide_false]
      rw [pinAt_get hlt, pinAt_get hlt2]
      refine ⟨?_, ?_⟩
      all_goals (
        skip
        refine CallI.fn (offsetR_s (pinAt l i) (pinAt l k) (hok i) (hok k)) (by simp only [sxA, sxL, sxF, sxG, sxH, sxU, encs, sxN, sevalprocAttr, ne_eq, decide_true, decide_false] <;> (try simp) <;> (try rfl)) ?_
        simp only [↓sxD, ↓sxP0, ↓sxP3, ↓sxGd, sxP1, sxF, sxA, sxS, sxK, sxG, sxZ, sxH, sxU, encs, tys, sxN, sevalprocAttr, ne_eq, decide_true, decide_false]
        generalize ho : offP (pinAt l i) (pinAt l k) = o
        refine LoopW.comp [0, 1, 5, 6, 7, 8, 9] (by simp only [sxS, sxL, sxF, sxG, sxH, sxU, encs, sxN, sevalprocAttr, ne_eq, decide_true, decide_false] <;> (try simp) <;> (try omega)) ?_
        simp only [sxS, sxF, sxG, sxH, sxU, sxN, sevalprocAttr, ne_eq, decide_true, decide_false]
        refine LoopW.up Tok (fun x : Nat × Int => [(9, (.v (.int .i64 x.1))), (5, (.v (.int .i64 x.2)))]) (fun x => []) (fun x => []) (fun x => []) (fun x => Rin m o a2 x) (fun x => 3 - x.1) ((0, a2)) (by simp only [sxS, sxL, sxF, sxG, sxH, sxU, encs, sxN, sevalprocAttr, ne_eq, decide_true, decide_false] <;> (try simp) <;> (try omega)) ?_ ?_
        · exact ⟨by omega, by simp, .inr ⟨rfl, by simp⟩⟩
        rintro ⟨j, a3⟩ ⟨hj, hn, hm⟩
        have hnp : ∀ {x : Int × Int}, x ∈ rgs o → noR m x = true → regV l m = 0 := fun hx h => regV_no hk.1 hlt2 (by rw [noP_comm, noP, ho]; exact List.any_eq_true.2 ⟨_, hx, h⟩)
        obtain rfl | rfl | rfl | rfl : j = 0 ∨ j = 1 ∨ j = 2 ∨ j = 3 := by simp only at hj; omega
        · simp only [↓sxD, ↓sxP0, ↓sxP3, ↓sxGd, sxP1, sxF, sxA, sxS, sxK, sxG, sxZ, sxH, sxU, encs, tys, sxN, sevalprocAttr, ne_eq, decide_true, decide_false]
          repeat ((with_reducible refine Vc.go ?_ fun _ => ?_); (focus (first | omega | (simp only [InK]; omega) | (simp [InK]; done) | (simp [InK]; omega))); simp only [↓sxD, ↓sxP0, ↓sxP3, ↓sxGd, sxP1, sxF, sxA, sxS, sxK, sxG, sxZ, sxH, sxU, encs, tys, sxN, sevalprocAttr, ne_eq, decide_true, decide_false])
          refine BrW.dec (fun c1 => ?_) (fun c1 => ?_)
          · simp only [↓sxD, ↓sxP0, ↓sxP3, ↓sxGd, sxP1, sxF, sxA, sxS, sxK, sxG, sxZ, sxH, sxU, encs, tys, sxN, sevalprocAttr, ne_eq, decide_true, decide_false]
            rw [hnp (x := (o.a, o.b)) (by simp [rgs]) (by simp [noR]; omega)]
            exact EndW.fn (by simp only [sxL, sxG, sxH, sxU, encs, kpLL_map, sxN, sevalprocAttr, ne_eq, decide_true, decide_false] <;> (try simp) <;> (try omega)) (by simp only [sxL, sxG, sxH, sxU, encs, kpLL_map, sxN, sevalprocAttr, ne_eq, decide_true, decide_false] <;> (try simp) <;> (try omega))
          · simp only [↓sxD, ↓sxP0, ↓sxP3, ↓sxGd, sxP1, sxF, sxA, sxS, sxK, sxG, sxZ, sxH, sxU, encs, tys, sxN, sevalprocAttr, ne_eq, decide_true, decide_false]
            repeat ((with_reducible refine Vc.go ?_ fun _ => ?_); (focus (first | omega | (simp only [InK]; omega) | (simp [InK]; done) | (simp [InK]; omega))); simp only [↓sxD, ↓sxP0, ↓sxP3, ↓sxGd, sxP1, sxF, sxA, sxS, sxK, sxG, sxZ, sxH, sxU, encs, tys, sxN, sevalprocAttr, ne_eq, decide_true, decide_false])
            refine BrW.dec (fun c2 => ?_) (fun c2 => ?_)
            · simp only [↓sxD, ↓sxP0, ↓sxP3, ↓sxGd, sxP1, sxF, sxA, sxS, sxK, sxG, sxZ, sxH, sxU, encs, tys, sxN, sevalprocAttr, ne_eq, decide_true, decide_false]
              rw [hnp (x := (o.a, o.b)) (by simp [rgs]) (by simp [noR]; omega)]
              exact EndW.fn (by simp only [sxL, sxG, sxH, sxU, encs, kpLL_map, sxN, sevalprocAttr, ne_eq, decide_true, decide_false] <;> (try simp) <;> (try omega)) (by simp only [sxL, sxG, sxH, sxU, encs, kpLL_map, sxN, sevalprocAttr, ne_eq, decide_true, decide_false] <;> (try simp) <;> (try omega))
            · simp only [↓sxD, ↓sxP0, ↓sxP3, ↓sxGd, sxP1, sxF, sxA, sxS, sxK, sxG, sxZ, sxH, sxU, encs, tys, sxN, sevalprocAttr, ne_eq, decide_true, decide_false]
              have cn : noR m (o.a, o.b) = false := by simp [noR]; omega
              repeat ((with_reducible refine Vc.go ?_ fun _ => ?_); (focus (first | omega | (simp only [InK]; omega) | (simp [InK]; done) | (simp [InK]; omega))); simp only [↓sxD, ↓sxP0, ↓sxP3, ↓sxGd, sxP1, sxF, sxA, sxS, sxK, sxG, sxZ, sxH, sxU, encs, tys, sxN, sevalprocAttr, ne_eq, decide_true, decide_false])
              refine BrW.dec (fun c3 => ?_) (fun c3 => ?_)
              · simp only [↓sxD, ↓sxP0, ↓sxP3, ↓sxGd, sxP1, sxF, sxA, sxS, sxK, sxG, sxZ, sxH, sxU, encs, tys, sxN, sevalprocAttr, ne_eq, decide_true, decide_false]
                repeat ((with_reducible refine Vc.go ?_ fun _ => ?_); (focus (first | omega | (simp only [InK]; omega) | (simp [InK]; done) | (simp [InK]; omega))); simp only [↓sxD, ↓sxP0, ↓sxP3, ↓sxGd, sxP1, sxF, sxA, sxS, sxK, sxG, sxZ, sxH, sxU, encs, tys, sxN, sevalprocAttr, ne_eq, decide_true, decide_false])
                refine ⟨(1, 1), StLe.auto (by simp only [sxS, sxL, sxF, sxG, sxH, sxU, encs, sxN, sevalprocAttr, ne_eq, decide_true, decide_false] <;> (try simp) <;> (try omega)), ?_, ?_⟩
                · exact Rin.step (o.a, o.b) rfl ⟨hj, hn, hm⟩ cn (.inl ⟨rfl, by simp [mbR]; omega⟩)
                · simp only; omega
              · simp only [↓sxD, ↓sxP0, ↓sxP3, ↓sxGd, sxP1, sxF, sxA, sxS, sxK, sxG, sxZ, sxH, sxU, encs, tys, sxN, sevalprocAttr, ne_eq, decide_true, decide_false]
                repeat ((with_reducible refine Vc.go ?_ fun _ => ?_); (focus (first | omega | (simp only [InK]; omega) | (simp [InK]; done) | (simp [InK]; omega))); simp only [↓sxD, ↓sxP0, ↓sxP3, ↓sxGd, sxP1, sxF, sxA, sxS, sxK, sxG, sxZ, sxH, sxU, encs, tys, sxN, sevalprocAttr, ne_eq, decide_true, decide_false])
                refine BrW.dec (fun c4 => ?_) (fun c4 => ?_)
                · simp only [↓sxD, ↓sxP0, ↓sxP3, ↓sxGd, sxP1, sxF, sxA, sxS, sxK, sxG, sxZ, sxH, sxU, encs, tys, sxN, sevalprocAttr, ne_eq, decide_true, decide_false]
                  repeat ((with_reducible refine Vc.go ?_ fun _ => ?_); (focus (first | omega | (simp only [InK]; omega) | (simp [InK]; done) | (simp [InK]; omega))); simp only [↓sxD, ↓sxP0, ↓sxP3, ↓sxGd, sxP1, sxF, sxA, sxS, sxK, sxG, sxZ, sxH, sxU, encs, tys, sxN, sevalprocAttr, ne_eq, decide_true, decide_false])
                  refine ⟨(1, 1), StLe.auto (by simp only [sxS, sxL, sxF, sxG, sxH, sxU, encs, sxN, sevalprocAttr, ne_eq, decide_true, decide_false] <;> (try simp) <;> (try omega)), ?_, ?_⟩
                  · exact Rin.step (o.a, o.b) rfl ⟨hj, hn, hm⟩ cn (.inl ⟨rfl, by simp [mbR]; omega⟩)
                  · simp only; omega
                · simp only [↓sxD, ↓sxP0, ↓sxP3, ↓sxGd, sxP1, sxF, sxA, sxS, sxK, sxG, sxZ, sxH, sxU, encs, tys, sxN, sevalprocAttr, ne_eq, decide_true, decide_false]
                  repeat ((with_reducible refine Vc.go ?_ fun _ => ?_); (focus (first | omega | (simp only [InK]; omega) | (simp [InK]; done) | (simp [InK]; omega))); simp only [↓sxD, ↓sxP0, ↓sxP3, ↓sxGd, sxP1, sxF, sxA, sxS, sxK, sxG, sxZ, sxH, sxU, encs, tys, sxN, sevalprocAttr, ne_eq, decide_true, decide_false])
                  refine ⟨(1, a3), StLe.auto (by simp only [sxS, sxL, sxF, sxG, sxH, sxU, encs, sxN, sevalprocAttr, ne_eq, decide_true, decide_false] <;> (try simp) <;> (try omega)), ?_, ?_⟩
                  · exact Rin.step (o.a, o.b) rfl ⟨hj, hn, hm⟩ cn (.inr ⟨rfl, by simp [mbR]; omega⟩)
                  · simp only; omega
        · simp only [↓sxD, ↓sxP0, ↓sxP3, ↓sxGd, sxP1, sxF, sxA, sxS, sxK, sxG, sxZ, sxH, sxU, encs, tys, sxN, sevalprocAttr, ne_eq, decide_true, decide_false]
          repeat ((with_reducible refine Vc.go ?_ fun _ => ?_); (focus (first | omega | (simp only [InK]; omega) | (simp [InK]; done) | (simp [InK]; omega))); simp only [↓sxD, ↓sxP0, ↓sxP3, ↓sxGd, sxP1, sxF, sxA, sxS, sxK, sxG, sxZ, sxH, sxU, encs, tys, sxN, sevalprocAttr, ne_eq, decide_true, decide_false])
          refine BrW.dec (fun c1 => ?_) (fun c1 => ?_)
          · simp only [↓sxD, ↓sxP0, ↓sxP3, ↓sxGd, sxP1, sxF, sxA, sxS, sxK, sxG, sxZ, sxH, sxU, encs, tys, sxN, sevalprocAttr, ne_eq, decide_true, decide_false]
            rw [hnp (x := (o.c, o.d)) (by simp [rgs]) (by simp [noR]; omega)]
            exact EndW.fn (by simp only [sxL, sxG, sxH, sxU, encs, kpLL_map, sxN, sevalprocAttr, ne_eq, decide_true, decide_false] <;> (try simp) <;> (try omega)) (by simp only [sxL, sxG, sxH, sxU, encs, kpLL_map, sxN, sevalprocAttr, ne_eq, decide_true, decide_false] <;> (try simp) <;> (try omega))
          · simp only [↓sxD, ↓sxP0, ↓sxP3, ↓sxGd, sxP1, sxF, sxA, sxS, sxK, sxG, sxZ, sxH, sxU, encs, tys, sxN, sevalprocAttr, ne_eq, decide_true, decide_false]
            repeat ((with_reducible refine Vc.go ?_ fun _ => ?_); (focus (first | omega | (simp only [InK]; omega) | (simp [InK]; done) | (simp [InK]; omega))); simp only [↓sxD, ↓sxP0, ↓sxP3, ↓sxGd, sxP1, sxF, sxA, sxS, sxK, sxG, sxZ, sxH, sxU, encs, tys, sxN, sevalprocAttr, ne_eq, decide_true, decide_false])
            refine BrW.dec (fun c2 => ?_) (fun c2 => ?_)
            · simp only [↓sxD, ↓sxP0, ↓sxP3, ↓sxGd, sxP1, sxF, sxA, sxS, sxK, sxG, sxZ, sxH, sxU, encs, tys, sxN, sevalprocAttr, ne_eq, decide_true, decide_false]
              rw [hnp (x := (o.c, o.d)) (by simp [rgs]) (by simp [noR]; omega)]
              exact EndW.fn (by simp only [sxL, sxG, sxH, sxU, encs, kpLL_map, sxN, sevalprocAttr, ne_eq, decide_true, decide_false] <;> (try simp) <;> (try omega)) (by simp only [sxL, sxG, sxH, sxU, encs, kpLL_map, sxN, sevalprocAttr, ne_eq, decide_true, decide_false] <;> (try simp) <;> (try omega))
            · simp only [↓sxD, ↓sxP0, ↓sxP3, ↓sxGd, sxP1, sxF, sxA, sxS, sxK, sxG, sxZ, sxH, sxU, encs, tys, sxN, sevalprocAttr, ne_eq, decide_true, decide_false]
              have cn : noR m (o.c, o.d) = false := by simp [noR]; omega
              repeat ((with_reducible refine Vc.go ?_ fun _ => ?_); (focus (first | omega | (simp only [InK]; omega) | (simp [InK]; done) | (simp [InK]; omega))); simp only [↓sxD, ↓sxP0, ↓sxP3, ↓sxGd, sxP1, sxF, sxA, sxS, sxK, sxG, sxZ, sxH, sxU, encs, tys, sxN, sevalprocAttr, ne_eq, decide_true, decide_false])
              refine BrW.dec (fun c3 => ?_) (fun c3 => ?_)
              · simp only [↓sxD, ↓sxP0, ↓sxP3, ↓sxGd, sxP1, sxF, sxA, sxS, sxK, sxG, sxZ, sxH, sxU, encs, tys, sxN, sevalprocAttr, ne_eq, decide_true, decide_false]
                repeat ((with_reducible refine Vc.go ?_ fun _ => ?_); (focus (first | omega | (simp only [InK]; omega) | (simp [InK]; done) | (simp [InK]; omega))); simp only [↓sxD, ↓sxP0, ↓sxP3, ↓sxGd, sxP1, sxF, sxA, sxS, sxK, sxG, sxZ, sxH, sxU, encs, tys, sxN, sevalprocAttr, ne_eq, decide_true, decide_false])
                refine ⟨(2, 1), StLe.auto (by simp only [sxS, sxL, sxF, sxG, sxH, sxU, encs, sxN, sevalprocAttr, ne_eq, decide_true, decide_false] <;> (try simp) <;> (try omega)), ?_, ?_⟩
                · exact Rin.step (o.c, o.d) rfl ⟨hj, hn, hm⟩ cn (.inl ⟨rfl, by simp [mbR]; omega⟩)
                · simp only; omega
              · simp only [↓sxD, ↓sxP0, ↓sxP3, ↓sxGd, sxP1, sxF, sxA, sxS, sxK, sxG, sxZ, sxH, sxU, encs, tys, sxN, sevalprocAttr, ne_eq, decide_true, decide_false]
                repeat ((with_reducible refine Vc.go ?_ fun _ => ?_); (focus (first | omega | (simp only [InK]; omega) | (simp [InK]; done) | (simp [InK]; omega))); simp only [↓sxD, ↓sxP0, ↓sxP3, ↓sxGd, sxP1, sxF, sxA, sxS, sxK, sxG, sxZ, sxH, sxU, encs, tys, sxN, sevalprocAttr, ne_eq, decide_true, decide_false])
                refine BrW.dec (fun c4 => ?_) (fun c4 => ?_)
                · simp only [↓sxD, ↓sxP0, ↓sxP3, ↓sxGd, sxP1, sxF, sxA, sxS, sxK, sxG, sxZ, sxH, sxU, encs, tys, sxN, sevalprocAttr, ne_eq, decide_true, decide_false]
                  repeat ((with_reducible refine Vc.go ?_ fun _ => ?_); (focus (first | omega | (simp only [InK]; omega) | (simp [InK]; done) | (simp [InK]; omega))); simp only [↓sxD, ↓sxP0, ↓sxP3, ↓sxGd, sxP1, sxF, sxA, sxS, sxK, sxG, sxZ, sxH, sxU, encs, tys, sxN, sevalprocAttr, ne_eq, decide_true, decide_false])
                  refine ⟨(2, 1), StLe.auto (by simp only [sxS, sxL, sxF, sxG, sxH, sxU, encs, sxN, sevalprocAttr, ne_eq, decide_true, decide_false] <;> (try simp) <;> (try omega)), ?_, ?_⟩
                  · exact Rin.step (o.c, o.d) rfl ⟨hj, hn, hm⟩ cn (.inl ⟨rfl, by simp [mbR]; omega⟩)
                  · simp only; omega
                · simp only [↓sxD, ↓sxP0, ↓sxP3, ↓sxGd, sxP1, sxF, sxA, sxS, sxK, sxG, sxZ, sxH, sxU, encs, tys, sxN, sevalprocAttr, ne_eq, decide_true, decide_false]
                  repeat ((with_reducible refine Vc.go ?_ fun _ => ?_); (focus (first | omega | (simp only [InK]; omega) | (simp [InK]; done) | (simp [InK]; omega))); simp only [↓sxD, ↓sxP0, ↓sxP3, ↓sxGd, sxP1, sxF, sxA, sxS, sxK, sxG, sxZ, sxH, sxU, encs, tys, sxN, sevalprocAttr, ne_eq, decide_true, decide_false])
                  refine ⟨(2, a3), StLe.auto (by simp only [sxS, sxL, sxF, sxG, sxH, sxU, encs, sxN, sevalprocAttr, ne_eq, decide_true, decide_false] <;> (try simp) <;> (try omega)), ?_, ?_⟩
                  · exact Rin.step (o.c, o.d) rfl ⟨hj, hn, hm⟩ cn (.inr ⟨rfl, by simp [mbR]; omega⟩)
                  · simp only; omega
        · simp only [↓sxD, ↓sxP0, ↓sxP3, ↓sxGd, sxP1, sxF, sxA, sxS, sxK, sxG, sxZ, sxH, sxU, encs, tys, sxN, sevalprocAttr, ne_eq, decide_true, decide_false]
          repeat ((with_reducible refine Vc.go ?_ fun _ => ?_); (focus (first | omega | (simp only [InK]; omega) | (simp [InK]; done) | (simp [InK]; omega))); simp only [↓sxD, ↓sxP0, ↓sxP3, ↓sxGd, sxP1, sxF, sxA, sxS, sxK, sxG, sxZ, sxH, sxU, encs, tys, sxN, sevalprocAttr, ne_eq, decide_true, decide_false])
          refine BrW.dec (fun c1 => ?_) (fun c1 => ?_)
          · simp only [↓sxD, ↓sxP0, ↓sxP3, ↓sxGd, sxP1, sxF, sxA, sxS, sxK, sxG, sxZ, sxH, sxU, encs, tys, sxN, sevalprocAttr, ne_eq, decide_true, decide_false]
            rw [hnp (x := (o.e, o.f)) (by simp [rgs]) (by simp [noR]; omega)]
            exact EndW.fn (by simp only [sxL, sxG, sxH, sxU, encs, kpLL_map, sxN, sevalprocAttr, ne_eq, decide_true, decide_false] <;> (try simp) <;> (try omega)) (by simp only [sxL, sxG, sxH, sxU, encs, kpLL_map, sxN, sevalprocAttr, ne_eq, decide_true, decide_false] <;> (try simp) <;> (try omega))
          · simp only [↓sxD, ↓sxP0, ↓sxP3, ↓sxGd, sxP1, sxF, sxA, sxS, sxK, sxG, sxZ, sxH, sxU, encs, tys, sxN, sevalprocAttr, ne_eq, decide_true, decide_false]
            repeat ((with_reducible refine Vc.go ?_ fun _ => ?_); (focus (first | omega | (simp only [InK]; omega) | (simp [InK]; done) | (simp [InK]; omega))); simp only [↓sxD, ↓sxP0, ↓sxP3, ↓sxGd, sxP1, sxF, sxA, sxS, sxK, sxG, sxZ, sxH, sxU, encs, tys, sxN, sevalprocAttr, ne_eq, decide_true, decide_false])
            refine BrW.dec (fun c2 => ?_) (fun c2 => ?_)
            · simp only [↓sxD, ↓sxP0, ↓sxP3, ↓sxGd, sxP1, sxF, sxA, sxS, sxK, sxG, sxZ, sxH, sxU, encs, tys, sxN, sevalprocAttr, ne_eq, decide_true, decide_false]
              rw [hnp (x := (o.e, o.f)) (by simp [rgs]) (by simp [noR]; omega)]
              exact EndW.fn (by simp only [sxL, sxG, sxH, sxU, encs, kpLL_map, sxN, sevalprocAttr, ne_eq, decide_true, decide_false] <;> (try simp) <;> (try omega)) (by simp only [sxL, sxG, sxH, sxU, encs, kpLL_map, sxN, sevalprocAttr, ne_eq, decide_true, decide_false] <;> (try simp) <;> (try omega))
            · simp only [↓sxD, ↓sxP0, ↓sxP3, ↓sxGd, sxP1, sxF, sxA, sxS, sxK, sxG, sxZ, sxH, sxU, encs, tys, sxN, sevalprocAttr, ne_eq, decide_true, decide_false]
              have cn : noR m (o.e, o.f) = false := by simp [noR]; omega
              repeat ((with_reducible refine Vc.go ?_ fun _ => ?_); (focus (first | omega | (simp only [InK]; omega) | (simp [InK]; done) | (simp [InK]; omega))); simp only [↓sxD, ↓sxP0, ↓sxP3, ↓sxGd, sxP1, sxF, sxA, sxS, sxK, sxG, sxZ, sxH, sxU, encs, tys, sxN, sevalprocAttr, ne_eq, decide_true, decide_false])
              refine BrW.dec (fun c3 => ?_) (fun c3 => ?_)
              · simp only [↓sxD, ↓sxP0, ↓sxP3, ↓sxGd, sxP1, sxF, sxA, sxS, sxK, sxG, sxZ, sxH, sxU, encs, tys, sxN, sevalprocAttr, ne_eq, decide_true, decide_false]
                repeat ((with_reducible refine Vc.go ?_ fun _ => ?_); (focus (first | omega | (simp only [InK]; omega) | (simp [InK]; done) | (simp [InK]; omega))); simp only [↓sxD, ↓sxP0, ↓sxP3, ↓sxGd, sxP1, sxF, sxA, sxS, sxK, sxG, sxZ, sxH, sxU, encs, tys, sxN, sevalprocAttr, ne_eq, decide_true, decide_false])
                refine ⟨(3, 1), StLe.auto (by simp only [sxS, sxL, sxF, sxG, sxH, sxU, encs, sxN, sevalprocAttr, ne_eq, decide_true, decide_false] <;> (try simp) <;> (try omega)), ?_, ?_⟩
                · exact Rin.step (o.e, o.f) rfl ⟨hj, hn, hm⟩ cn (.inl ⟨rfl, by simp [mbR]; omega⟩)
                · simp only; omega
              · simp only [↓sxD, ↓sxP0, ↓sxP3, ↓sxGd, sxP1, sxF, sxA, sxS, sxK, sxG, sxZ, sxH, sxU, encs, tys, sxN, sevalprocAttr, ne_eq, decide_true, decide_false]
                repeat ((with_reducible refine Vc.go ?_ fun _ => ?_); (focus (first | omega | (simp only [InK]; omega) | (simp [InK]; done) | (simp [InK]; omega))); simp only [↓sxD, ↓sxP0, ↓sxP3, ↓sxGd, sxP1, sxF, sxA, sxS, sxK, sxG, sxZ, sxH, sxU, encs, tys, sxN, sevalprocAttr, ne_eq, decide_true, decide_false])
                refine BrW.dec (fun c4 => ?_) (fun c4 => ?_)
                · simp only [↓sxD, ↓sxP0, ↓sxP3, ↓sxGd, sxP1, sxF, sxA, sxS, sxK, sxG, sxZ, sxH, sxU, encs, tys, sxN, sevalprocAttr, ne_eq, decide_true, decide_false]
                  repeat ((with_reducible refine Vc.go ?_ fun _ => ?_); (focus (first | omega | (simp only [InK]; omega) | (simp [InK]; done) | (simp [InK]; omega))); simp only [↓sxD, ↓sxP0, ↓sxP3, ↓sxGd, sxP1, sxF, sxA, sxS, sxK, sxG, sxZ, sxH, sxU, encs, tys, sxN, sevalprocAttr, ne_eq, decide_true, decide_false])
                  refine ⟨(3, 1), StLe.auto (by simp only [sxS, sxL, sxF, sxG, sxH, sxU, encs, sxN, sevalprocAttr, ne_eq, decide_true, decide_false] <;> (try simp) <;> (try omega)), ?_, ?_⟩
                  · exact Rin.step (o.e, o.f) rfl ⟨hj, hn, hm⟩ cn (.inl ⟨rfl, by simp [mbR]; omega⟩)
                  · simp only; omega
                · simp only [↓sxD, ↓sxP0, ↓sxP3, ↓sxGd, sxP1, sxF, sxA, sxS, sxK, sxG, sxZ, sxH, sxU, encs, tys, sxN, sevalprocAttr, ne_eq, decide_true, decide_false]
                  repeat ((with_reducible refine Vc.go ?_ fun _ => ?_); (focus (first | omega | (simp only [InK]; omega) | (simp [InK]; done) | (simp [InK]; omega))); simp only [↓sxD, ↓sxP0, ↓sxP3, ↓sxGd, sxP1, sxF, sxA, sxS, sxK, sxG, sxZ, sxH, sxU, encs, tys, sxN, sevalprocAttr, ne_eq, decide_true, decide_false])
                  refine ⟨(3, a3), StLe.auto (by simp only [sxS, sxL, sxF, sxG, sxH, sxU, encs, sxN, sevalprocAttr, ne_eq, decide_true, decide_false] <;> (try simp) <;> (try omega)), ?_, ?_⟩
                  · exact Rin.step (o.e, o.f) rfl ⟨hj, hn, hm⟩ cn (.inr ⟨rfl, by simp [mbR]; omega⟩)
                  · simp only; omega
        · simp only [↓sxD, ↓sxP0, ↓sxP3, ↓sxGd, sxP1, sxF, sxA, sxS, sxK, sxG, sxZ, sxH, sxU, encs, tys, sxN, sevalprocAttr, ne_eq, decide_true, decide_false]
          have hadd := Rin.add (p := pinAt l i) (q := pinAt l k) (a0 := a2) (a := a3) (by rw [ho]; exact ⟨hj, hn, hm⟩)
          rw [noP_comm, mbP_comm] at hadd
          repeat ((with_reducible refine Vc.go ?_ fun _ => ?_); (focus (first | omega | (simp only [InK]; omega) | (simp [InK]; done) | (simp [InK]; omega))); simp only [↓sxD, ↓sxP0, ↓sxP3, ↓sxGd, sxP1, sxF, sxA, sxS, sxK, sxG, sxZ, sxH, sxU, encs, tys, sxN, sevalprocAttr, ne_eq, decide_true, decide_false])
          refine ⟨(k + 1, a3), StLe.auto (by simp only [sxS, sxL, sxF, sxG, sxH, sxU, encs, sxN, sevalprocAttr, ne_eq, decide_true, decide_false] <;> (try simp) <;> (try omega)), ?_, ?_⟩
          · exact ⟨⟨by simp only; omega, hlt2⟩, hr2.add (i := k) (k := i) (fun a b => by simp only; omega) hadd.1 hadd.2⟩
          · simp only; omega )
    · simp only [↓sxD, ↓sxP0, ↓sxP3, ↓sxGd, sxP1, sxF, sxA, sxS, sxK, sxG, sxZ, sxH, sxU, encs, tys, sxN, sevalprocAttr, ne_eq, decide_true, decide_false]
      have hki : k = l.length := by omega
      subst hki
      repeat ((with_reducible refine Vc.go ?_ fun _ => ?_); (focus (first | omega | (simp only [InK]; omega) | (simp [InK]; done) | (simp [InK]; omega))); simp only [↓sxD, ↓sxP0, ↓sxP3, ↓sxGd, sxP1, sxF, sxA, sxS, sxK, sxG, sxZ, sxH, sxU, encs, tys, sxN, sevalprocAttr, ne_eq, decide_true, decide_false])
      refine ⟨(i + 1, a2), StLe.auto (by simp only [sxS, sxL, sxF, sxG, sxH, sxU, encs, sxN, sevalprocAttr, ne_eq, decide_true, decide_false] <;> (try simp) <;> (try omega)), ?_, ?_⟩
      · exact ⟨hlt, hr2.congr fun a b => by simp only; omega⟩
      · simp only; omega
  · simp only [↓sxD, ↓sxP0, ↓sxP3, ↓sxGd, sxP1, sxF, sxA, sxS, sxK, sxG, sxZ, sxH, sxU, encs, tys, sxN, sevalprocAttr, ne_eq, decide_true, decide_false]
    have hil : i = l.length := by omega
    subst hil
    rw [hr1.done fun a b => by omega]
    exact EndW.fn (by simp only [sxL, sxG, sxH, sxU, encs, kpLL_map, sxN, sevalprocAttr, ne_eq, decide_true, decide_false] <;> (try simp) <;> (try omega)) (by simp only [sxL, sxG, sxH, sxU, encs, kpLL_map, sxN, sevalprocAttr, ne_eq, decide_true, decide_false] <;> (try simp) <;> (try omega))
end Go.Proofs.Ytaagelngbbkllaa
