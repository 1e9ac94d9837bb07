/-
  Chapter 8, walks: the grid of edits.
-/
import Derived.Test.YtenohgpackcjbaaVW23
namespace Go.Proofs.Ytenohgpackcjbaa
open Go Go.Vx
set_option linter.unusedSimpArgs false
set_option linter.unusedVariables false
set_option maxRecDepth 20000
def atN (nb i k : Nat) : Nat := i * (nb + 1) + k
theorem atN_cast (nb i k : Nat) : (i : Int) * ((nb : Int) + 1) + (k : Int) = ((atN nb i k : Nat) : Int) := by
  unfold atN; rw [Int.natCast_add, Int.natCast_mul, Int.natCast_add]; rfl
theorem mul_cast (nb i : Nat) : (i : Int) * ((nb : Int) + 1) = ((i * (nb + 1) : Nat) : Int) := by
  rw [Int.natCast_mul, Int.natCast_add]; rfl
theorem atN_lt {na nb i k : Nat} (hi : i ≤ na) (hk : k ≤ nb) : atN nb i k < (na + 1) * (nb + 1) := by
  have := Nat.mul_le_mul_right (nb + 1) hi
  unfold atN; rw [Nat.add_mul]; omega
theorem mul_b {nb i : Nat} (hi : i ≤ 1000) (hb : nb ≤ 1000) : i * (nb + 1) ≤ 1001000 :=
  Nat.le_trans (Nat.mul_le_mul hi (show nb + 1 ≤ 1001 by omega)) (by decide)
def gV (b1 b2 : Bool) (a b : List ByteArray) : SV := .agg [.sl b1 1 (a.map eS), .sl b2 1 (b.map eS)]
theorem at_s (b1 b2 : Bool) (a b : List ByteArray) (i k : Nat) (hi : i ≤ 1000) (hk : k ≤ 1000) (hb : b.length ≤ 1000) : Ctr Try.prog 73 [gV b1 b2 a b, (.v (.int .i64 ((i : Int)))), (.v (.int .i64 ((k : Int))))] (fun rr => rr = ⟨(.v (.int .i64 ((atN b.length i k : Nat)))), []⟩) := by
  have encs := And.intro encs (show ∀ b1 b2 a b, gV b1 b2 a b = .agg [.sl b1 1 (a.map eS), .sl b2 1 (b.map eS)] from fun _ _ _ _ => rfl)
  have hm := mul_b hi hb
  have hc := mul_cast b.length i
  have ha : ((i * (b.length + 1) : Nat) : Int) + (k : Int) = ((atN b.length i k : Nat) : Int) := by rw [← hc, atN_cast]
  generalize i * (b.length + 1) = q at hm hc ha
  refine Ctr.of (rs := [.tmp 6]) Tok true Try.func73 rfl rfl rfl rfl (by simp [ofDL]) (fun w0 kp => ?_)
  simp only [↓sx0, sx1, encs, tys, sxR, sevalprocAttr]
  (with_reducible refine Vc.go ?_ fun _ => ?_); focus (first | omega | (simp only [InK]; omega) | (simp [InK]; done) | (simp [InK]; omega))
  simp only [↓sx0, sx1, encs, tys, sxR, sevalprocAttr]
  rw [hc]
  repeat ((with_reducible refine Vc.go ?_ fun _ => ?_); (focus (first | omega | (simp only [InK]; omega) | (simp [InK]; done) | (simp [InK]; omega))); simp only [↓sx0, sx1, encs, tys, sxR, sevalprocAttr])
  rw [ha]
  exact EndW.fn (by simp only [sx4, encs, kpLL_map, sxR, sevalprocAttr] <;> (try simp) <;> (try omega)) (by simp only [sx4, encs, kpLL_map, sxR, sevalprocAttr] <;> (try simp) <;> (try omega))
def stC (a b : List ByteArray) (i k : Nat) : List SV := [.pt true [(.v (.int .i64 ((i : Int))))], .pt true [(.v (.int .i64 ((k : Int))))], .pt true [.sl true 1 (a.map eS), .sl true 1 (b.map eS)]]
theorem steps_s (a b : List ByteArray) (i k : Nat) : Ctr Try.prog 113 [gV true true a b, (.v (.int .i64 ((i : Int)))), (.v (.int .i64 ((k : Int))))] (fun rr => rr = ⟨.clo 132 (stC a b i k), []⟩) := by
  have encs := And.intro encs (And.intro (show ∀ b1 b2 a b, gV b1 b2 a b = .agg [.sl b1 1 (a.map eS), .sl b2 1 (b.map eS)] from fun _ _ _ _ => rfl) (show ∀ a b i k, stC a b i k = [.pt true [(.v (.int .i64 ((i : Int))))], .pt true [(.v (.int .i64 ((k : Int))))], .pt true [.sl true 1 (a.map eS), .sl true 1 (b.map eS)]] from fun _ _ _ _ => rfl))
  refine Ctr.ofB (rs := [.tmp 6]) Tok Try.func113 rfl rfl rfl rfl (by simp [ofDL]) (fun w0 kp => ?_)
  simp only [↓sx0, sx1, encs, tys, sxR, sevalprocAttr]
  simp only [endY, boxV, boxL, bxPs, bxPs.bx1, bxD, assB, ptB, bxV, bxL, toDL, toD, consO, vD, oneV, dedN, addN, memN, sxL, sx2, encs, sxR, sevalprocAttr]
  exact EndW.fn (by simp only [sx4, encs, kpLL_map, sxR, sevalprocAttr] <;> (try simp) <;> (try omega)) (by simp only [sx4, encs, kpLL_map, sxR, sevalprocAttr] <;> (try simp) <;> (try omega))
/-- the steps that end at a place, with their costs. -/
def stN (a b : List ByteArray) (i k : Nat) : List ((Nat × Nat) × Int) :=
  (if 0 < i ∧ 0 < k then [((i - 1, k - 1), if a[i - 1]? = b[k - 1]? then 0 else 1)] else []) ++ ((if 0 < i then [((i - 1, k), 1)] else []) ++ (if 0 < k then [((i, k - 1), 1)] else []))
def fY (p : (Nat × Nat) × Int) : List SV := [.agg [(.v (.int .i64 ((p.1.1 : Int)))), (.v (.int .i64 ((p.1.2 : Int))))], (.v (.int .i64 p.2))]
theorem stepsIt_s (a b : List ByteArray) (i k : Nat) (hi : i ≤ a.length) (hk : k ≤ b.length) (ha : a.length ≤ 1000) (hb : b.length ≤ 1000) : ItCtr Try.prog 132 (stC a b i k) ((stN a b i k).map fY) := by
  have encs := And.intro encs (show ∀ a b i k, stC a b i k = [.pt true [(.v (.int .i64 ((i : Int))))], .pt true [(.v (.int .i64 ((k : Int))))], .pt true [.sl true 1 (a.map eS), .sl true 1 (b.map eS)]] from fun _ _ _ _ => rfl)
  refine ItCtr.of Tok Try.func132 rfl rfl rfl rfl (by simp [ofDL, encs]) (fun w0 kp yd hok => ?_)
  simp only [↓sx0, sx1, encs, tys, sxR, sevalprocAttr]
  rcases i with _ | i
  · rcases k with _ | k
    · have hN : stN a b 0 0 = [] := by simp [stN]
      rw [hN] at hok ⊢
      repeat ((with_reducible refine BrW.no (by omega) ?_); simp only [↓sx0, sx1, encs, tys, sxR, sevalprocAttr])
      intro _
      trivial
    · have hN : stN a b 0 (k + 1) = [((0, k), 1)] := by simp [stN]
      rw [hN] at hok ⊢
      have e2 : (((k + 1 : Nat) : Int) - 1) = (k : Int) := by omega
      repeat ((with_reducible refine BrW.no (by omega) ?_); simp only [↓sx0, sx1, encs, tys, sxR, sevalprocAttr])
      repeat ((with_reducible refine BrW.yes (by omega) ?_); simp only [↓sx0, sx1, encs, tys, sxR, sevalprocAttr])
      repeat ((with_reducible refine Vc.go ?_ fun _ => ?_); (focus (first | omega | (simp only [InK]; omega) | (simp [InK]; done) | (simp [InK]; omega))); simp only [↓sx0, sx1, encs, tys, sxR, sevalprocAttr])
      rw [e2]
      refine YldI.of (ys := []) hok rfl rfl (by simp only [sx2, sxA, encs, sxR, sevalprocAttr] <;> rfl) (by simp only [sx2, sxA, encs, sxR, sevalprocAttr] <;> rfl) rfl rfl rfl (by simp [fY]) ?_ ?_
      · simp only [↓sx0, sx1, encs, tys, sxR, sevalprocAttr]
        intro _
        rfl
      · simp only [↓sx0, sx1, encs, tys, sxR, sevalprocAttr]
        intro h
        cases h
  · rcases k with _ | k
    · have hN : stN a b (i + 1) 0 = [((i, 0), 1)] := by simp [stN]
      rw [hN] at hok ⊢
      have e1 : (((i + 1 : Nat) : Int) - 1) = (i : Int) := by omega
      repeat ((with_reducible refine BrW.yes (by omega) ?_); simp only [↓sx0, sx1, encs, tys, sxR, sevalprocAttr])
      repeat ((with_reducible refine BrW.no (by omega) ?_); simp only [↓sx0, sx1, encs, tys, sxR, sevalprocAttr])
      repeat ((with_reducible refine BrW.yes (by omega) ?_); simp only [↓sx0, sx1, encs, tys, sxR, sevalprocAttr])
      repeat ((with_reducible refine Vc.go ?_ fun _ => ?_); (focus (first | omega | (simp only [InK]; omega) | (simp [InK]; done) | (simp [InK]; omega))); simp only [↓sx0, sx1, encs, tys, sxR, sevalprocAttr])
      rw [e1]
      refine YldI.of (ys := []) hok rfl rfl (by simp only [sx2, sxA, encs, sxR, sevalprocAttr] <;> rfl) (by simp only [sx2, sxA, encs, sxR, sevalprocAttr] <;> rfl) rfl rfl rfl (by simp [fY]) ?_ ?_
      · simp only [↓sx0, sx1, encs, tys, sxR, sevalprocAttr]
        repeat ((with_reducible refine BrW.no (by omega) ?_); simp only [↓sx0, sx1, encs, tys, sxR, sevalprocAttr])
        intro _
        rfl
      · simp only [↓sx0, sx1, encs, tys, sxR, sevalprocAttr]
        intro h
        cases h
    · have e1 : (((i + 1 : Nat) : Int) - 1) = (i : Int) := by omega
      have e2 : (((k + 1 : Nat) : Int) - 1) = (k : Int) := by omega
      have hia : i < a.length := by omega
      have hkb : k < b.length := by omega
      repeat ((with_reducible refine BrW.yes (by omega) ?_); simp only [↓sx0, sx1, encs, tys, sxR, sevalprocAttr])
      refine DrawW.plan Tok mixed (.q 0 <| .q 1 <| .q 2 <| .q 3 <| .q 4 <| .q 5 <| .q 6 <| .q 7 <| .q 8 <| .q 9 <| .q 10 <| .q 11 <| .q 12 <| .done) (by kernel_rfl) (by kernel_rfl) ?_
      simp only [↓sx0, sx1, encs, tys, sxR, sevalprocAttr]
      repeat ((with_reducible refine Vc.go ?_ fun _ => ?_); (focus (first | omega | (simp only [InK]; omega) | (simp [InK]; done) | (simp [InK]; omega))); simp only [↓sx0, sx1, encs, tys, sxR, sevalprocAttr])
      rw [e1]
      refine IxW.nat hia ?_
      simp only [↓sx0, sx1, encs, tys, sxR, sevalprocAttr]
      repeat ((with_reducible refine Vc.go ?_ fun _ => ?_); (focus (first | omega | (simp only [InK]; omega) | (simp [InK]; done) | (simp [InK]; omega))); simp only [↓sx0, sx1, encs, tys, sxR, sevalprocAttr])
      rw [e2]
      refine IxW.nat hkb ?_
      simp only [↓sx0, sx1, encs, tys, sxR, sevalprocAttr]
      refine BrW.dec (fun he => ?_) (fun he => ?_)
      · have hN : stN a b (i + 1) (k + 1) = [((i, k), 0), ((i, (k + 1)), 1), (((i + 1), k), 1)] := by simp [stN, List.getElem?_eq_getElem hia, List.getElem?_eq_getElem hkb, he]
        rw [hN] at hok ⊢
        simp only [↓sx0, sx1, encs, tys, sxR, sevalprocAttr]
        repeat ((with_reducible refine Vc.go ?_ fun _ => ?_); (focus (first | omega | (simp only [InK]; omega) | (simp [InK]; done) | (simp [InK]; omega))); simp only [↓sx0, sx1, encs, tys, sxR, sevalprocAttr])
        rw [e1]
        repeat ((with_reducible refine Vc.go ?_ fun _ => ?_); (focus (first | omega | (simp only [InK]; omega) | (simp [InK]; done) | (simp [InK]; omega))); simp only [↓sx0, sx1, encs, tys, sxR, sevalprocAttr])
        rw [e2]
        refine YldI.of (ys := []) hok rfl rfl (by simp only [sx2, sxA, encs, sxR, sevalprocAttr] <;> rfl) (by simp only [sx2, sxA, encs, sxR, sevalprocAttr] <;> rfl) rfl rfl rfl (by simp [fY]) ?_ ?_
        · simp only [↓sx0, sx1, encs, tys, sxR, sevalprocAttr]
          repeat ((with_reducible refine BrW.yes (by omega) ?_); simp only [↓sx0, sx1, encs, tys, sxR, sevalprocAttr])
          repeat ((with_reducible refine Vc.go ?_ fun _ => ?_); (focus (first | omega | (simp only [InK]; omega) | (simp [InK]; done) | (simp [InK]; omega))); simp only [↓sx0, sx1, encs, tys, sxR, sevalprocAttr])
          rw [e1]
          refine YldI.of (ys := [[.agg [(.v (.int .i64 ((i : Int)))), (.v (.int .i64 ((k : Int))))], (.v (.int .i64 0))]]) hok rfl rfl (by simp only [sx2, sxA, encs, sxR, sevalprocAttr] <;> rfl) (by simp only [sx2, sxA, encs, sxR, sevalprocAttr] <;> rfl) rfl rfl rfl (by simp [fY]) ?_ ?_
          · simp only [↓sx0, sx1, encs, tys, sxR, sevalprocAttr]
            repeat ((with_reducible refine BrW.yes (by omega) ?_); simp only [↓sx0, sx1, encs, tys, sxR, sevalprocAttr])
            repeat ((with_reducible refine Vc.go ?_ fun _ => ?_); (focus (first | omega | (simp only [InK]; omega) | (simp [InK]; done) | (simp [InK]; omega))); simp only [↓sx0, sx1, encs, tys, sxR, sevalprocAttr])
            rw [e2]
            refine YldI.of (ys := [[.agg [(.v (.int .i64 ((i : Int)))), (.v (.int .i64 ((k : Int))))], (.v (.int .i64 0))], [.agg [(.v (.int .i64 ((i : Int)))), (.v (.int .i64 ((((k + 1 : Nat) : Int) : Int))))], (.v (.int .i64 1))]]) hok rfl rfl (by simp only [sx2, sxA, encs, sxR, sevalprocAttr] <;> rfl) (by simp only [sx2, sxA, encs, sxR, sevalprocAttr] <;> rfl) rfl rfl rfl (by simp [fY]) ?_ ?_
            · simp only [↓sx0, sx1, encs, tys, sxR, sevalprocAttr]
              intro _
              rfl
            · simp only [↓sx0, sx1, encs, tys, sxR, sevalprocAttr]
              intro h
              cases h
          · simp only [↓sx0, sx1, encs, tys, sxR, sevalprocAttr]
            intro h
            cases h
        · simp only [↓sx0, sx1, encs, tys, sxR, sevalprocAttr]
          intro h
          cases h
      · have hN : stN a b (i + 1) (k + 1) = [((i, k), 1), ((i, (k + 1)), 1), (((i + 1), k), 1)] := by simp [stN, List.getElem?_eq_getElem hia, List.getElem?_eq_getElem hkb, he]
        rw [hN] at hok ⊢
        simp only [↓sx0, sx1, encs, tys, sxR, sevalprocAttr]
        repeat ((with_reducible refine Vc.go ?_ fun _ => ?_); (focus (first | omega | (simp only [InK]; omega) | (simp [InK]; done) | (simp [InK]; omega))); simp only [↓sx0, sx1, encs, tys, sxR, sevalprocAttr])
        rw [e1]
        repeat ((with_reducible refine Vc.go ?_ fun _ => ?_); (focus (first | omega | (simp only [InK]; omega) | (simp [InK]; done) | (simp [InK]; omega))); simp only [↓sx0, sx1, encs, tys, sxR, sevalprocAttr])
        rw [e2]
        refine YldI.of (ys := []) hok rfl rfl (by simp only [sx2, sxA, encs, sxR, sevalprocAttr] <;> rfl) (by simp only [sx2, sxA, encs, sxR, sevalprocAttr] <;> rfl) rfl rfl rfl (by simp [fY]) ?_ ?_
        · simp only [↓sx0, sx1, encs, tys, sxR, sevalprocAttr]
          repeat ((with_reducible refine BrW.yes (by omega) ?_); simp only [↓sx0, sx1, encs, tys, sxR, sevalprocAttr])
          repeat ((with_reducible refine Vc.go ?_ fun _ => ?_); (focus (first | omega | (simp only [InK]; omega) | (simp [InK]; done) | (simp [InK]; omega))); simp only [↓sx0, sx1, encs, tys, sxR, sevalprocAttr])
          rw [e1]
          refine YldI.of (ys := [[.agg [(.v (.int .i64 ((i : Int)))), (.v (.int .i64 ((k : Int))))], (.v (.int .i64 1))]]) hok rfl rfl (by simp only [sx2, sxA, encs, sxR, sevalprocAttr] <;> rfl) (by simp only [sx2, sxA, encs, sxR, sevalprocAttr] <;> rfl) rfl rfl rfl (by simp [fY]) ?_ ?_
          · simp only [↓sx0, sx1, encs, tys, sxR, sevalprocAttr]
            repeat ((with_reducible refine BrW.yes (by omega) ?_); simp only [↓sx0, sx1, encs, tys, sxR, sevalprocAttr])
            repeat ((with_reducible refine Vc.go ?_ fun _ => ?_); (focus (first | omega | (simp only [InK]; omega) | (simp [InK]; done) | (simp [InK]; omega))); simp only [↓sx0, sx1, encs, tys, sxR, sevalprocAttr])
            rw [e2]
            refine YldI.of (ys := [[.agg [(.v (.int .i64 ((i : Int)))), (.v (.int .i64 ((k : Int))))], (.v (.int .i64 1))], [.agg [(.v (.int .i64 ((i : Int)))), (.v (.int .i64 ((((k + 1 : Nat) : Int) : Int))))], (.v (.int .i64 1))]]) hok rfl rfl (by simp only [sx2, sxA, encs, sxR, sevalprocAttr] <;> rfl) (by simp only [sx2, sxA, encs, sxR, sevalprocAttr] <;> rfl) rfl rfl rfl (by simp [fY]) ?_ ?_
            · simp only [↓sx0, sx1, encs, tys, sxR, sevalprocAttr]
              intro _
              rfl
            · simp only [↓sx0, sx1, encs, tys, sxR, sevalprocAttr]
              intro h
              cases h
          · simp only [↓sx0, sx1, encs, tys, sxR, sevalprocAttr]
            intro h
            cases h
        · simp only [↓sx0, sx1, encs, tys, sxR, sevalprocAttr]
          intro h
          cases h
end Go.Proofs.Ytenohgpackcjbaa
