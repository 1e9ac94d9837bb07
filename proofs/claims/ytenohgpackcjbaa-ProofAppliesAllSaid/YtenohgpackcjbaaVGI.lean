/-
 Chapter 8, walks: the grid of edits.
-/
import Derived.Test.YtenohgpackcjbaaVGE
namespace Go.Proofs.Ytenohgpackcjbaa
open Go Go.Vx
set_option linter.unusedSimpArgs false
set_option linter.unusedVariables false
set_option maxRecDepth 20000
def atN (nb i k : Nat) : Nat := i * (nb + 1) + k
theorem atN_cast (nb i k : Nat) : (i : Int) * ((nb : Int) + 1) + (k : Int) = ((atN nb i k : Nat) : Int) := by
 unfold atN; rw [Int.natCast_add, Int.natCast_mul, Int.natCast_add]; rfl
theorem mul_cast (nb i : Nat) : (i : Int) * ((nb : Int) + 1) = ((i * (nb + 1) : Nat) : Int) := by
 rw [Int.natCast_mul, Int.natCast_add]; rfl
theorem atN_lt {na nb i k : Nat} (hi : i ≤ na) (hk : k ≤ nb) : atN nb i k < (na + 1) * (nb + 1) := by
 have := Nat.mul_le_mul_right (nb + 1) hi
 unfold atN; rw [Nat.add_mul]; omega
theorem mul_b {nb i : Nat} (hi : i ≤ 1000) (hb : nb ≤ 1000) : i * (nb + 1) ≤ 1001000 :=
 Nat.le_trans (Nat.mul_le_mul hi (show nb + 1 ≤ 1001 by omega)) (by decide)
def gV (b1 b2 : Bool) (a b : List ByteArray) : SV := .agg [.sl b1 1 (a.map eS), .sl b2 1 (b.map eS)]
theorem at_s (b1 b2 : Bool) (a b : List ByteArray) (i k : Nat) (hi : i ≤ 1000) (hk : k ≤ 1000) (hb : b.length ≤ 1000) : Ctr Try.prog 73 [gV b1 b2 a b, (.v (.int .i64 ((i : Int)))), (.v (.int .i64 ((k : Int))))] (fun rr => rr = ⟨(.v (.int .i64 ((atN b.length i k : Nat)))), []⟩) := by
 have encs := And.intro encs (show ∀ b1 b2 a b, gV b1 b2 a b = .agg [.sl b1 1 (a.map eS), .sl b2 1 (b.map eS)] from fun _ _ _ _ => rfl)
 have hm := mul_b hi hb
 have hc := mul_cast b.length i
 have ha : ((i * (b.length + 1) : Nat) : Int) + (k : Int) = ((atN b.length i k : Nat) : Int) := by rw [← hc, atN_cast]
 generalize i * (b.length + 1) = q at hm hc ha
 refine Ctr.of (rs := [.tmp 6]) Tok true Try.func73 rfl rfl rfl rfl (by simp [ofDL]) (fun w0 kp => ?_)
 simp only [↓sx0, sxE, encs, sevalprocAttr]
 (with_reducible refine Vc.go ?_ fun _ => ?_); focus (first | omega | (simp only [InK]; omega) | (simp [InK]; done) | (simp [InK]; omega))
 simp only [↓sx0, sxE, encs, sevalprocAttr]
 rw [hc]
 repeat ((with_reducible refine Vc.go ?_ fun _ => ?_); (focus (first | omega | (simp only [InK]; omega) | (simp [InK]; done) | (simp [InK]; omega))); simp only [↓sx0, sxE, encs, sevalprocAttr])
 rw [ha]
 refine EndW.fn ?_ ?_ <;> simp only [sx4, encs, kpLL_map, sxR, sevalprocAttr] <;> (try simp) <;> (try omega)
def stC (a b : List ByteArray) (i k : Nat) : List SV := [.pt true [(.v (.int .i64 ((i : Int))))], .pt true [(.v (.int .i64 ((k : Int))))], .pt true [.sl true 1 (a.map eS), .sl true 1 (b.map eS)]]
theorem steps_s (a b : List ByteArray) (i k : Nat) : Ctr Try.prog 113 [gV true true a b, (.v (.int .i64 ((i : Int)))), (.v (.int .i64 ((k : Int))))] (fun rr => rr = ⟨.clo 132 (stC a b i k), []⟩) := by
 have encs := And.intro encs (And.intro (show ∀ b1 b2 a b, gV b1 b2 a b = .agg [.sl b1 1 (a.map eS), .sl b2 1 (b.map eS)] from fun _ _ _ _ => rfl) (show ∀ a b i k, stC a b i k = [.pt true [(.v (.int .i64 ((i : Int))))], .pt true [(.v (.int .i64 ((k : Int))))], .pt true [.sl true 1 (a.map eS), .sl true 1 (b.map eS)]] from fun _ _ _ _ => rfl))
 refine Ctr.ofB (rs := [.tmp 6]) Tok Try.func113 rfl rfl rfl rfl (by simp [ofDL]) (fun w0 kp => ?_)
 simp only [↓sx0, sxE, encs, sevalprocAttr]
 simp only [endY, boxV, boxL, bxPs, bxPs.bx1, bxD, assB, ptB, bxV, bxL, toDL, toD, consO, vD, oneV, dedN, addN, memN, sxL, sx2, encs, sxR, sevalprocAttr]
 exact EndW.fn (by simp only [sx4, encs, kpLL_map, sxR, sevalprocAttr] <;> (try simp) <;> (try omega)) (by simp only [sx4, encs, kpLL_map, sxR, sevalprocAttr] <;> (try simp) <;> (try omega))
/-- the steps that end at a place, with their costs. -/
def stN (a b : List ByteArray) (i k : Nat) : List ((Nat × Nat) × Int) :=
 (if 0 < i ∧ 0 < k then [((i - 1, k - 1), if a[i - 1]? = b[k - 1]? then 0 else 1)] else []) ++ ((if 0 < i then [((i - 1, k), 1)] else []) ++ (if 0 < k then [((i, k - 1), 1)] else []))
def fY (p : (Nat × Nat) × Int) : List SV := [.agg [(.v (.int .i64 ((p.1.1 : Int)))), (.v (.int .i64 ((p.1.2 : Int))))], (.v (.int .i64 p.2))]
theorem stepsIt_s (a b : List ByteArray) (i k : Nat) (hi : i ≤ a.length) (hk : k ≤ b.length) (ha : a.length ≤ 1000) (hb : b.length ≤ 1000) : ItCtr Try.prog 132 (stC a b i k) ((stN a b i k).map fY) := by
 have encs := And.intro encs (show ∀ a b i k, stC a b i k = [.pt true [(.v (.int .i64 ((i : Int))))], .pt true [(.v (.int .i64 ((k : Int))))], .pt true [.sl true 1 (a.map eS), .sl true 1 (b.map eS)]] from fun _ _ _ _ => rfl)
 refine ItCtr.of Tok Try.func132 rfl rfl rfl rfl (by simp [ofDL, encs]) (fun w0 kp yd hok => ?_)
 simp only [↓sx0, sxE, encs, sevalprocAttr]
 rcases i with _ | i
 ·rcases k with _ | k
  ·have hN : stN a b 0 0 = [] := by simp [stN]
   rw [hN] at hok ⊢
   repeat ((with_reducible refine BrW.no (by omega) ?_); simp only [↓sx0, sxE, encs, sevalprocAttr])
   intro _
   trivial
  ·have hN : stN a b 0 (k + 1) = [((0, k), 1)] := by simp [stN]
   rw [hN] at hok ⊢
   have e2 : (((k + 1 : Nat) : Int) - 1) = (k : Int) := by omega
   repeat ((with_reducible refine BrW.no (by omega) ?_); simp only [↓sx0, sxE, encs, sevalprocAttr])
   repeat ((with_reducible refine BrW.yes (by omega) ?_); simp only [↓sx0, sxE, encs, sevalprocAttr])
   repeat ((with_reducible refine Vc.go ?_ fun _ => ?_); (focus (first | omega | (simp only [InK]; omega) | (simp [InK]; done) | (simp [InK]; omega))); simp only [↓sx0, sxE, encs, sevalprocAttr])
   rw [e2]
   refine YldI.of (ys := []) hok rfl rfl (by simp only [sx2, sxA, encs, sxR, sevalprocAttr] <;> rfl) (by simp only [sx2, sxA, encs, sxR, sevalprocAttr] <;> rfl) rfl rfl rfl (by simp [fY]) ?_ ?_
   ·simp only [↓sx0, sxE, encs, sevalprocAttr]
    intro _
    rfl
   ·simp only [↓sx0, sxE, encs, sevalprocAttr]
    intro h
    cases h
 ·rcases k with _ | k
  ·have hN : stN a b (i + 1) 0 = [((i, 0), 1)] := by simp [stN]
   rw [hN] at hok ⊢
   have e1 : (((i + 1 : Nat) : Int) - 1) = (i : Int) := by omega
   repeat ((with_reducible refine BrW.yes (by omega) ?_); simp only [↓sx0, sxE, encs, sevalprocAttr])
   repeat ((with_reducible refine BrW.no (by omega) ?_); simp only [↓sx0, sxE, encs, sevalprocAttr])
   repeat ((with_reducible refine BrW.yes (by omega) ?_); simp only [↓sx0, sxE, encs, sevalprocAttr])
   repeat ((with_reducible refine Vc.go ?_ fun _ => ?_); (focus (first | omega | (simp only [InK]; omega) | (simp [InK]; done) | (simp [InK]; omega))); simp only [↓sx0, sxE, encs, sevalprocAttr])
   rw [e1]
   refine YldI.of (ys := []) hok rfl rfl (by simp only [sx2, sxA, encs, sxR, sevalprocAttr] <;> rfl) (by simp only [sx2, sxA, encs, sxR, sevalprocAttr] <;> rfl) rfl rfl rfl (by simp [fY]) ?_ ?_
   ·simp only [↓sx0, sxE, encs, sevalprocAttr]
    repeat ((with_reducible refine BrW.no (by omega) ?_); simp only [↓sx0, sxE, encs, sevalprocAttr])
    intro _
    rfl
   ·simp only [↓sx0, sxE, encs, sevalprocAttr]
    intro h
    cases h
  ·have e1 : (((i + 1 : Nat) : Int) - 1) = (i : Int) := by omega
   have e2 : (((k + 1 : Nat) : Int) - 1) = (k : Int) := by omega
   have hia : i < a.length := by omega
   have hkb : k < b.length := by omega
   repeat ((with_reducible refine BrW.yes (by omega) ?_); simp only [↓sx0, sxE, encs, sevalprocAttr])
   refine DrawW.plan Tok mixed (.q 0 <| .q 1 <| .q 2 <| .q 3 <| .q 4 <| .q 5 <| .q 6 <| .q 7 <| .q 8 <| .q 9 <| .q 10 <| .q 11 <| .q 12 <| .done) (by kernel_rfl) (by kernel_rfl) ?_
   simp only [↓sx0, sxE, encs, sevalprocAttr]
   repeat ((with_reducible refine Vc.go ?_ fun _ => ?_); (focus (first | omega | (simp only [InK]; omega) | (simp [InK]; done) | (simp [InK]; omega))); simp only [↓sx0, sxE, encs, sevalprocAttr])
   rw [e1]
   refine IxW.nat hia ?_
   simp only [↓sx0, sxE, encs, sevalprocAttr]
   repeat ((with_reducible refine Vc.go ?_ fun _ => ?_); (focus (first | omega | (simp only [InK]; omega) | (simp [InK]; done) | (simp [InK]; omega))); simp only [↓sx0, sxE, encs, sevalprocAttr])
   rw [e2]
   refine IxW.nat hkb ?_
   simp only [↓sx0, sxE, encs, sevalprocAttr]
   refine BrW.dec (fun he => ?_) (fun he => ?_)
   ·have hN : stN a b (i + 1) (k + 1) = [((i, k), 0), ((i, (k + 1)), 1), (((i + 1), k), 1)] := by simp [stN, List.getElem?_eq_getElem hia, List.getElem?_eq_getElem hkb, he]
    rw [hN] at hok ⊢
    simp only [↓sx0, sxE, encs, sevalprocAttr]
    repeat ((with_reducible refine Vc.go ?_ fun _ => ?_); (focus (first | omega | (simp only [InK]; omega) | (simp [InK]; done) | (simp [InK]; omega))); simp only [↓sx0, sxE, encs, sevalprocAttr])
    rw [e1]
    repeat ((with_reducible refine Vc.go ?_ fun _ => ?_); (focus (first | omega | (simp only [InK]; omega) | (simp [InK]; done) | (simp [InK]; omega))); simp only [↓sx0, sxE, encs, sevalprocAttr])
    rw [e2]
    refine YldI.of (ys := []) hok rfl rfl (by simp only [sx2, sxA, encs, sxR, sevalprocAttr] <;> rfl) (by simp only [sx2, sxA, encs, sxR, sevalprocAttr] <;> rfl) rfl rfl rfl (by simp [fY]) ?_ ?_
    ·simp only [↓sx0, sxE, encs, sevalprocAttr]
     repeat ((with_reducible refine BrW.yes (by omega) ?_); simp only [↓sx0, sxE, encs, sevalprocAttr])
     repeat ((with_reducible refine Vc.go ?_ fun _ => ?_); (focus (first | omega | (simp only [InK]; omega) | (simp [InK]; done) | (simp [InK]; omega))); simp only [↓sx0, sxE, encs, sevalprocAttr])
     rw [e1]
     refine YldI.of (ys := [[.agg [(.v (.int .i64 ((i : Int)))), (.v (.int .i64 ((k : Int))))], (.v (.int .i64 0))]]) hok rfl rfl (by simp only [sx2, sxA, encs, sxR, sevalprocAttr] <;> rfl) (by simp only [sx2, sxA, encs, sxR, sevalprocAttr] <;> rfl) rfl rfl rfl (by simp [fY]) ?_ ?_
     ·simp only [↓sx0, sxE, encs, sevalprocAttr]
      repeat ((with_reducible refine BrW.yes (by omega) ?_); simp only [↓sx0, sxE, encs, sevalprocAttr])
      repeat ((with_reducible refine Vc.go ?_ fun _ => ?_); (focus (first | omega | (simp only [InK]; omega) | (simp [InK]; done) | (simp [InK]; omega))); simp only [↓sx0, sxE, encs, sevalprocAttr])
      rw [e2]
      refine YldI.of (ys := [[.agg [(.v (.int .i64 ((i : Int)))), (.v (.int .i64 ((k : Int))))], (.v (.int .i64 0))], [.agg [(.v (.int .i64 ((i : Int)))), (.v (.int .i64 ((((k + 1 : Nat) : Int) : Int))))], (.v (.int .i64 1))]]) hok rfl rfl (by simp only [sx2, sxA, encs, sxR, sevalprocAttr] <;> rfl) (by simp only [sx2, sxA, encs, sxR, sevalprocAttr] <;> rfl) rfl rfl rfl (by simp [fY]) ?_ ?_
      ·simp only [↓sx0, sxE, encs, sevalprocAttr]
       intro _
       rfl
      ·simp only [↓sx0, sxE, encs, sevalprocAttr]
       intro h
       cases h
     ·simp only [↓sx0, sxE, encs, sevalprocAttr]
      intro h
      cases h
    ·simp only [↓sx0, sxE, encs, sevalprocAttr]
     intro h
     cases h
   ·have hN : stN a b (i + 1) (k + 1) = [((i, k), 1), ((i, (k + 1)), 1), (((i + 1), k), 1)] := by simp [stN, List.getElem?_eq_getElem hia, List.getElem?_eq_getElem hkb, he]
    rw [hN] at hok ⊢
    simp only [↓sx0, sxE, encs, sevalprocAttr]
    repeat ((with_reducible refine Vc.go ?_ fun _ => ?_); (focus (first | omega | (simp only [InK]; omega) | (simp [InK]; done) | (simp [InK]; omega))); simp only [↓sx0, sxE, encs, sevalprocAttr])
    rw [e1]
    repeat ((with_reducible refine Vc.go ?_ fun _ => ?_); (focus (first | omega | (simp only [InK]; omega) | (simp [InK]; done) | (simp [InK]; omega))); simp only [↓sx0, sxE, encs, sevalprocAttr])
    rw [e2]
    refine YldI.of (ys := []) hok rfl rfl (by simp only [sx2, sxA, encs, sxR, sevalprocAttr] <;> rfl) (by simp only [sx2, sxA, encs, sxR, sevalprocAttr] <;> rfl) rfl rfl rfl (by simp [fY]) ?_ ?_
    ·simp only [↓sx0, sxE, encs, sevalprocAttr]
     repeat ((with_reducible refine BrW.yes (by omega) ?_); simp only [↓sx0, sxE, encs, sevalprocAttr])
     repeat ((with_reducible refine Vc.go ?_ fun _ => ?_); (focus (first | omega | (simp only [InK]; omega) | (simp [InK]; done) | (simp [InK]; omega))); simp only [↓sx0, sxE, encs, sevalprocAttr])
     rw [e1]
     refine YldI.of (ys := [[.agg [(.v (.int .i64 ((i : Int)))), (.v (.int .i64 ((k : Int))))], (.v (.int .i64 1))]]) hok rfl rfl (by simp only [sx2, sxA, encs, sxR, sevalprocAttr] <;> rfl) (by simp only [sx2, sxA, encs, sxR, sevalprocAttr] <;> rfl) rfl rfl rfl (by simp [fY]) ?_ ?_
     ·simp only [↓sx0, sxE, encs, sevalprocAttr]
      repeat ((with_reducible refine BrW.yes (by omega) ?_); simp only [↓sx0, sxE, encs, sevalprocAttr])
      repeat ((with_reducible refine Vc.go ?_ fun _ => ?_); (focus (first | omega | (simp only [InK]; omega) | (simp [InK]; done) | (simp [InK]; omega))); simp only [↓sx0, sxE, encs, sevalprocAttr])
      rw [e2]
      refine YldI.of (ys := [[.agg [(.v (.int .i64 ((i : Int)))), (.v (.int .i64 ((k : Int))))], (.v (.int .i64 1))], [.agg [(.v (.int .i64 ((i : Int)))), (.v (.int .i64 ((((k + 1 : Nat) : Int) : Int))))], (.v (.int .i64 1))]]) hok rfl rfl (by simp only [sx2, sxA, encs, sxR, sevalprocAttr] <;> rfl) (by simp only [sx2, sxA, encs, sxR, sevalprocAttr] <;> rfl) rfl rfl rfl (by simp [fY]) ?_ ?_
      ·simp only [↓sx0, sxE, encs, sevalprocAttr]
       intro _
       rfl
      ·simp only [↓sx0, sxE, encs, sevalprocAttr]
       intro h
       cases h
     ·simp only [↓sx0, sxE, encs, sevalprocAttr]
      intro h
      cases h
    ·simp only [↓sx0, sxE, encs, sevalprocAttr]
     intro h
     cases h
end Go.Proofs.Ytenohgpackcjbaa
/-
 Chapter 8, walks: the bound of a place.
-/
namespace Go.Proofs.Ytenohgpackcjbaa
open Go Go.Vx
set_option linter.unusedSimpArgs false
set_option linter.unusedVariables false
set_option maxRecDepth 20000
def mostB (i k : Nat) : Int := if i = 0 ∧ k = 0 then 0 else 100
def bdS (nb : Nat) (L : List Int) (m : Int) (p : (Nat × Nat) × Int) : Int := min m (L.getD (atN nb p.1.1 p.1.2) 0 + p.2)
def bdK (a b : List ByteArray) (L : List Int) (i k n : Nat) : Int := ((stN a b i k).take n).foldl (bdS b.length L) (mostB i k)
def bdV (a b : List ByteArray) (L : List Int) (i k : Nat) : Int := (stN a b i k).foldl (bdS b.length L) (mostB i k)
theorem bdK_all (a b : List ByteArray) (L : List Int) (i k : Nat) : bdK a b L i k (stN a b i k).length = bdV a b L i k := by rw [bdK, List.take_length]; rfl
theorem bdK_succ {a b : List ByteArray} {L : List Int} {i k n : Nat} (h : n < (stN a b i k).length) : bdK a b L i k (n + 1) = bdS b.length L (bdK a b L i k n) (stN a b i k)[n] := by
 rw [bdK, List.take_succ_eq_append_getElem h, List.foldl_append]; rfl
theorem stN_mem {a b : List ByteArray} {i k : Nat} {p : (Nat × Nat) × Int} (h : p ∈ stN a b i k) : p.1.1 ≤ i ∧ p.1.2 ≤ k ∧ p.1.1 + p.1.2 < i + k ∧ 0 ≤ p.2 ∧ p.2 ≤ 1 := by
 unfold stN at h
 simp only [List.mem_append] at h
 rcases h with h | h | h
 ·split at h
  ·simp only [List.mem_singleton] at h; subst h
   refine ⟨by simp only; omega, by simp only; omega, by simp only; omega, ?_, ?_⟩ <;> (simp only; split <;> omega)
  ·cases h
 ·split at h
  ·simp only [List.mem_singleton] at h; subst h
   exact ⟨by simp only; omega, by simp only; omega, by simp only; omega, by simp only; omega, by simp only; omega⟩
  ·cases h
 ·split at h
  ·simp only [List.mem_singleton] at h; subst h
   exact ⟨by simp only; omega, by simp only; omega, by simp only; omega, by simp only; omega, by simp only; omega⟩
  ·cases h
set_option maxHeartbeats 8000000 in
theorem bound_s (b3 : Bool) (a b : List ByteArray) (L : List Int) (i k : Nat) (hi : i ≤ a.length) (hk : k ≤ b.length) (ha : a.length ≤ 1000) (hb : b.length ≤ 1000) (hL : ∀ p ∈ stN a b i k, atN b.length p.1.1 p.1.2 < L.length) (hv : ∀ x ∈ L, 0 ≤ x ∧ x ≤ 100) :
  Ctr Try.prog 76 [gV true true a b, .sl b3 1 (L.map eI), (.v (.int .i64 ((i : Int)))), (.v (.int .i64 ((k : Int))))] (fun rr => rr = ⟨(.v (.int .i64 (bdV a b L i k))), []⟩) := by
 have hit := stepsIt_s a b i k hi hk ha hb
 have hst := steps_s a b i k
 have encs := And.intro encs (And.intro (show ∀ a b i k, stC a b i k = [.pt true [(.v (.int .i64 ((i : Int))))], .pt true [(.v (.int .i64 ((k : Int))))], .pt true [.sl true 1 (a.map eS), .sl true 1 (b.map eS)]] from fun _ _ _ _ => rfl) (show ∀ b1 b2 a b, gV b1 b2 a b = .agg [.sl b1 1 (a.map eS), .sl b2 1 (b.map eS)] from fun _ _ _ _ => rfl))
 have hat := fun (p : (Nat × Nat) × Int) (hp : p ∈ stN a b i k) => at_s true true a b p.1.1 p.1.2 (by have := stN_mem hp; omega) (by have := stN_mem hp; omega) hb
 refine Ctr.of (rs := [.tmp 8]) Tok true Try.func76 rfl rfl rfl rfl (by simp [ofDL]) (fun w0 kp => ?_)
 simp only [↓sx0, sxE, encs, sevalprocAttr]
 by_cases hz : i = 0 ∧ k = 0
 ·have hK0 : bdK a b L i k 0 = 0 := by simp [bdK, mostB, hz]
  repeat ((with_reducible refine BrW.yes (by omega) ?_); simp only [↓sx0, sxE, encs, sevalprocAttr])
  have encs := And.intro encs hK0
  refine CallI.fn (hst) (by simp only [sx3, encs, sxR, sevalprocAttr] <;> (try simp) <;> (try rfl)) ?_
  simp only [↓sx0, sxE, encs, sevalprocAttr]
  refine RangeW.it Tok (fun _ => rfl) (fun hro => by first | rfl | exact (by rw [hro] at *; contradiction)) (hit) [(4, .box 0 0), (5, .box 1 0), (9, .box 2 0), (21, .clo 132 (stC a b i k))] (fun ys => [some ⟨113, [.sl true 1 (a.map eS), .sl true 1 (b.map eS)]⟩, some ⟨62, [.sl b3 1 (L.map eI)]⟩, some ⟨3, [(.v (.int .i64 (bdK a b L i k ys.length)))]⟩]) (fun ys => []) (fun _ => True) trivial (by simp only [sx2, encs, sxR, sevalprocAttr] <;> (try simp) <;> (try omega)) rfl rfl (by intro d hd; obtain ⟨p, -, rfl⟩ := List.mem_map.1 hd; rfl) ?_ (fun hJall => ?_)
  ·rintro pre d hpre - ρ σ μ ho' hy hs
   obtain ⟨q, hq⟩ := hpre
   have hn : pre.length < (stN a b i k).length := by
    have := congrArg List.length hq
    simp at this; omega
   have hd : d = fY (stN a b i k)[pre.length] := by
    have : ((stN a b i k).map fY)[pre.length]? = some d := by rw [← hq]; simp
    simpa [List.getElem?_eq_getElem hn, eq_comm] using this
   subst hd
   obtain ⟨yd', ro, mks, fr, lp, sz⟩ := ho'
   have hsu := bdK_succ (L := L) hn
   have hpm := List.getElem_mem hn
   have hpb := stN_mem hpm
   have hal := hL _ hpm
   have hpt := hat _ hpm
   have hvl := hv _ (List.getElem_mem hal)
   have hlen : (pre ++ [fY (stN a b i k)[pre.length]]).length = pre.length + 1 := by simp
   rw [hlen, hsu]
   generalize (stN a b i k)[pre.length] = p at hpb hal hpt hvl ⊢
   obtain ⟨⟨p1, p2⟩, c⟩ := p
   simp only at hpb hal hpt hvl
   have hgd : L.getD (atN b.length p1 p2) 0 = L[atN b.length p1 p2] := by simp [List.getD_eq_getElem?_getD, hal]
   have hbd : bdS b.length L (bdK a b L i k pre.length) ((p1, p2), c) = min (bdK a b L i k pre.length) (L[atN b.length p1 p2] + c) := by rw [bdS, hgd]
   rw [hbd]
   have hfy : fY ((p1, p2), c) = [.agg [(.v (.int .i64 ((p1 : Int)))), (.v (.int .i64 ((p2 : Int))))], (.v (.int .i64 c))] := rfl
   rw [hfy]
   simp only [↓sx0, sxE, encs, sevalprocAttr]
   intro fr'
   refine DrawW.plan Tok mixed (.q 0 <| .q 1 <| .q 2 <| .q 3 <| .q 4 <| .q 5 <| .q 6 <| .q 10 <| .e 7 [0, 1] <| .q 8 <| .q 9 <| .q 11 <| .q 12 <| .e 13 [] <| .done) (by kernel_rfl) (by kernel_rfl) ?_
   simp only [↓sx0, sxE, encs, sevalprocAttr]
   repeat ((with_reducible refine Vc.go ?_ fun _ => ?_); (focus (first | omega | (simp only [InK]; omega) | (simp [InK]; done) | (simp [InK]; omega))); simp only [↓sx0, sxE, encs, sevalprocAttr])
   refine CallI.fn (hpt) (by simp only [sx3, encs, sxR, sevalprocAttr] <;> (try simp) <;> (try rfl)) ?_
   simp only [↓sx0, sxE, encs, sevalprocAttr]
   refine IxW.nat hal ?_
   simp only [↓sx0, sxE, encs, sevalprocAttr]
   repeat ((with_reducible refine Vc.go ?_ fun _ => ?_); (focus (first | omega | (simp only [InK]; omega) | (simp [InK]; done) | (simp [InK]; omega))); simp only [↓sx0, sxE, encs, sevalprocAttr])
   simp only [sx2, encs, sxR, sevalprocAttr] <;> (try simp) <;> (try omega)
  ·rw [List.length_map, bdK_all]
   simp only [↓sx0, sxE, encs, sevalprocAttr]
   refine EndW.fn ?_ ?_ <;> simp only [sx4, encs, kpLL_map, sxR, sevalprocAttr] <;> (try simp) <;> (try omega)
 ·have hK0 : bdK a b L i k 0 = 100 := by simp [bdK, mostB, hz]
  by_cases hi0 : i = 0
  ·repeat ((with_reducible refine BrW.yes (by omega) ?_); simp only [↓sx0, sxE, encs, sevalprocAttr])
   repeat ((with_reducible refine BrW.no (by omega) ?_); simp only [↓sx0, sxE, encs, sevalprocAttr])
   have encs := And.intro encs hK0
   refine CallI.fn (hst) (by simp only [sx3, encs, sxR, sevalprocAttr] <;> (try simp) <;> (try rfl)) ?_
   simp only [↓sx0, sxE, encs, sevalprocAttr]
   refine RangeW.it Tok (fun _ => rfl) (fun hro => by first | rfl | exact (by rw [hro] at *; contradiction)) (hit) [(4, .box 0 0), (5, .box 1 0), (9, .box 2 0), (21, .clo 132 (stC a b i k))] (fun ys => [some ⟨113, [.sl true 1 (a.map eS), .sl true 1 (b.map eS)]⟩, some ⟨62, [.sl b3 1 (L.map eI)]⟩, some ⟨3, [(.v (.int .i64 (bdK a b L i k ys.length)))]⟩]) (fun ys => []) (fun _ => True) trivial (by simp only [sx2, encs, sxR, sevalprocAttr] <;> (try simp) <;> (try omega)) rfl rfl (by intro d hd; obtain ⟨p, -, rfl⟩ := List.mem_map.1 hd; rfl) ?_ (fun hJall => ?_)
   ·rintro pre d hpre - ρ σ μ ho' hy hs
    obtain ⟨q, hq⟩ := hpre
    have hn : pre.length < (stN a b i k).length := by
     have := congrArg List.length hq
     simp at this; omega
    have hd : d = fY (stN a b i k)[pre.length] := by
     have : ((stN a b i k).map fY)[pre.length]? = some d := by rw [← hq]; simp
     simpa [List.getElem?_eq_getElem hn, eq_comm] using this
    subst hd
    obtain ⟨yd', ro, mks, fr, lp, sz⟩ := ho'
    have hsu := bdK_succ (L := L) hn
    have hpm := List.getElem_mem hn
    have hpb := stN_mem hpm
    have hal := hL _ hpm
    have hpt := hat _ hpm
    have hvl := hv _ (List.getElem_mem hal)
    have hlen : (pre ++ [fY (stN a b i k)[pre.length]]).length = pre.length + 1 := by simp
    rw [hlen, hsu]
    generalize (stN a b i k)[pre.length] = p at hpb hal hpt hvl ⊢
    obtain ⟨⟨p1, p2⟩, c⟩ := p
    simp only at hpb hal hpt hvl
    have hgd : L.getD (atN b.length p1 p2) 0 = L[atN b.length p1 p2] := by simp [List.getD_eq_getElem?_getD, hal]
    have hbd : bdS b.length L (bdK a b L i k pre.length) ((p1, p2), c) = min (bdK a b L i k pre.length) (L[atN b.length p1 p2] + c) := by rw [bdS, hgd]
    rw [hbd]
    have hfy : fY ((p1, p2), c) = [.agg [(.v (.int .i64 ((p1 : Int)))), (.v (.int .i64 ((p2 : Int))))], (.v (.int .i64 c))] := rfl
    rw [hfy]
    simp only [↓sx0, sxE, encs, sevalprocAttr]
    intro fr'
    refine DrawW.plan Tok mixed (.q 0 <| .q 1 <| .q 2 <| .q 3 <| .q 4 <| .q 5 <| .q 6 <| .q 10 <| .e 7 [0, 1] <| .q 8 <| .q 9 <| .q 11 <| .q 12 <| .e 13 [] <| .done) (by kernel_rfl) (by kernel_rfl) ?_
    simp only [↓sx0, sxE, encs, sevalprocAttr]
    repeat ((with_reducible refine Vc.go ?_ fun _ => ?_); (focus (first | omega | (simp only [InK]; omega) | (simp [InK]; done) | (simp [InK]; omega))); simp only [↓sx0, sxE, encs, sevalprocAttr])
    refine CallI.fn (hpt) (by simp only [sx3, encs, sxR, sevalprocAttr] <;> (try simp) <;> (try rfl)) ?_
    simp only [↓sx0, sxE, encs, sevalprocAttr]
    refine IxW.nat hal ?_
    simp only [↓sx0, sxE, encs, sevalprocAttr]
    repeat ((with_reducible refine Vc.go ?_ fun _ => ?_); (focus (first | omega | (simp only [InK]; omega) | (simp [InK]; done) | (simp [InK]; omega))); simp only [↓sx0, sxE, encs, sevalprocAttr])
    simp only [sx2, encs, sxR, sevalprocAttr] <;> (try simp) <;> (try omega)
   ·rw [List.length_map, bdK_all]
    simp only [↓sx0, sxE, encs, sevalprocAttr]
    refine EndW.fn ?_ ?_ <;> simp only [sx4, encs, kpLL_map, sxR, sevalprocAttr] <;> (try simp) <;> (try omega)
  ·repeat ((with_reducible refine BrW.no (by omega) ?_); simp only [↓sx0, sxE, encs, sevalprocAttr])
   have encs := And.intro encs hK0
   refine CallI.fn (hst) (by simp only [sx3, encs, sxR, sevalprocAttr] <;> (try simp) <;> (try rfl)) ?_
   simp only [↓sx0, sxE, encs, sevalprocAttr]
   refine RangeW.it Tok (fun _ => rfl) (fun hro => by first | rfl | exact (by rw [hro] at *; contradiction)) (hit) [(4, .box 0 0), (5, .box 1 0), (9, .box 2 0), (21, .clo 132 (stC a b i k))] (fun ys => [some ⟨113, [.sl true 1 (a.map eS), .sl true 1 (b.map eS)]⟩, some ⟨62, [.sl b3 1 (L.map eI)]⟩, some ⟨3, [(.v (.int .i64 (bdK a b L i k ys.length)))]⟩]) (fun ys => []) (fun _ => True) trivial (by simp only [sx2, encs, sxR, sevalprocAttr] <;> (try simp) <;> (try omega)) rfl rfl (by intro d hd; obtain ⟨p, -, rfl⟩ := List.mem_map.1 hd; rfl) ?_ (fun hJall => ?_)
   ·rintro pre d hpre - ρ σ μ ho' hy hs
    obtain ⟨q, hq⟩ := hpre
    have hn : pre.length < (stN a b i k).length := by
     have := congrArg List.length hq
     simp at this; omega
    have hd : d = fY (stN a b i k)[pre.length] := by
     have : ((stN a b i k).map fY)[pre.length]? = some d := by rw [← hq]; simp
     simpa [List.getElem?_eq_getElem hn, eq_comm] using this
    subst hd
    obtain ⟨yd', ro, mks, fr, lp, sz⟩ := ho'
    have hsu := bdK_succ (L := L) hn
    have hpm := List.getElem_mem hn
    have hpb := stN_mem hpm
    have hal := hL _ hpm
    have hpt := hat _ hpm
    have hvl := hv _ (List.getElem_mem hal)
    have hlen : (pre ++ [fY (stN a b i k)[pre.length]]).length = pre.length + 1 := by simp
    rw [hlen, hsu]
    generalize (stN a b i k)[pre.length] = p at hpb hal hpt hvl ⊢
    obtain ⟨⟨p1, p2⟩, c⟩ := p
    simp only at hpb hal hpt hvl
    have hgd : L.getD (atN b.length p1 p2) 0 = L[atN b.length p1 p2] := by simp [List.getD_eq_getElem?_getD, hal]
    have hbd : bdS b.length L (bdK a b L i k pre.length) ((p1, p2), c) = min (bdK a b L i k pre.length) (L[atN b.length p1 p2] + c) := by rw [bdS, hgd]
    rw [hbd]
    have hfy : fY ((p1, p2), c) = [.agg [(.v (.int .i64 ((p1 : Int)))), (.v (.int .i64 ((p2 : Int))))], (.v (.int .i64 c))] := rfl
    rw [hfy]
    simp only [↓sx0, sxE, encs, sevalprocAttr]
    intro fr'
    refine DrawW.plan Tok mixed (.q 0 <| .q 1 <| .q 2 <| .q 3 <| .q 4 <| .q 5 <| .q 6 <| .q 10 <| .e 7 [0, 1] <| .q 8 <| .q 9 <| .q 11 <| .q 12 <| .e 13 [] <| .done) (by kernel_rfl) (by kernel_rfl) ?_
    simp only [↓sx0, sxE, encs, sevalprocAttr]
    repeat ((with_reducible refine Vc.go ?_ fun _ => ?_); (focus (first | omega | (simp only [InK]; omega) | (simp [InK]; done) | (simp [InK]; omega))); simp only [↓sx0, sxE, encs, sevalprocAttr])
    refine CallI.fn (hpt) (by simp only [sx3, encs, sxR, sevalprocAttr] <;> (try simp) <;> (try rfl)) ?_
    simp only [↓sx0, sxE, encs, sevalprocAttr]
    refine IxW.nat hal ?_
    simp only [↓sx0, sxE, encs, sevalprocAttr]
    repeat ((with_reducible refine Vc.go ?_ fun _ => ?_); (focus (first | omega | (simp only [InK]; omega) | (simp [InK]; done) | (simp [InK]; omega))); simp only [↓sx0, sxE, encs, sevalprocAttr])
    simp only [sx2, encs, sxR, sevalprocAttr] <;> (try simp) <;> (try omega)
   ·rw [List.length_map, bdK_all]
    simp only [↓sx0, sxE, encs, sevalprocAttr]
    refine EndW.fn ?_ ?_ <;> simp only [sx4, encs, kpLL_map, sxR, sevalprocAttr] <;> (try simp) <;> (try omega)
end Go.Proofs.Ytenohgpackcjbaa
/-
 Chapter 8, walks: labels of edits are checked.
-/
namespace Go.Proofs.Ytenohgpackcjbaa
open Go Go.Vx
set_option linter.unusedSimpArgs false
set_option linter.unusedVariables false
set_option maxRecDepth 20000
def badL (n : Int) : Bool := !decide (0 ≤ n ∧ n ≤ 100)
/-- whether each label is at most its bound. -/
def rowOk (a b : List ByteArray) (L : List Int) (i k : Nat) : Bool := decide (L.getD (atN b.length i k) 0 ≤ bdV a b L i k)
def rowsOk (a b : List ByteArray) (L : List Int) (i : Nat) : Bool := (List.range (b.length + 1)).all fun k => rowOk a b L i k
def labOk (a b : List ByteArray) (L : List Int) : Bool := (List.range (a.length + 1)).all fun i => rowsOk a b L i
def labE (a b : List ByteArray) (L : List Int) : Int × Int :=
 if L.length = (a.length + 1) * (b.length + 1) then (if L.any badL = true then (0, 2) else if labOk a b L = true then (L.getD (L.length - 1) 0, 0) else (0, 22)) else (0, 10)
def labV (a b : List ByteArray) (L : List Int) : Int × Int := if wdsErr a b = 0 then labE a b L else (0, wdsErr a b)
end Go.Proofs.Ytenohgpackcjbaa
