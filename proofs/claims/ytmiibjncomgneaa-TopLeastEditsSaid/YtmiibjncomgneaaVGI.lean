/-
 Chapter 8, walks: the grid of edits.
-/
import Derived.Test.YtmiibjncomgneaaVGE
namespace Go.Proofs.Ytmiibjncomgneaa
open Go Go.Vx
set_option linter.unusedSimpArgs false
set_option linter.unusedVariables false
set_option maxRecDepth 20000
def atN (nb i k : Nat) : Nat := i * (nb + 1) + k
theorem atN_cast (nb i k : Nat) : (i : Int) * ((nb : Int) + 1) + (k : Int) = ((atN nb i k : Nat) : Int) := by
 unfold atN; rw [Int.natCast_add, Int.natCast_mul, Int.natCast_add]; rfl
theorem mul_cast (nb i : Nat) : (i : Int) * ((nb : Int) + 1) = ((i * (nb + 1) : Nat) : Int) := by
 rw [Int.natCast_mul, Int.natCast_add]; rfl
theorem atN_lt {na nb i k : Nat} (hi : i ≤ na) (hk : k ≤ nb) : atN nb i k < (na + 1) * (nb + 1) := by
 have := Nat.mul_le_mul_right (nb + 1) hi
 unfold atN; rw [Nat.add_mul]; omega
theorem mul_b {nb i : Nat} (hi : i ≤ 1000) (hb : nb ≤ 1000) : i * (nb + 1) ≤ 1001000 :=
 Nat.le_trans (Nat.mul_le_mul hi (show nb + 1 ≤ 1001 by omega)) (by decide)
def gV (b1 b2 : Bool) (a b : List ByteArray) : SV := .agg [.sl b1 1 (a.map eS), .sl b2 1 (b.map eS)]
theorem at_s (b1 b2 : Bool) (a b : List ByteArray) (i k : Nat) (hi : i ≤ 1000) (hk : k ≤ 1000) (hb : b.length ≤ 1000) : Ctr Try.prog 28 [gV b1 b2 a b, (.v (.int .i64 ((i : Int)))), (.v (.int .i64 ((k : Int))))] (fun rr => rr = ⟨(.v (.int .i64 ((atN b.length i k : Nat)))), []⟩) := by
 have encs := And.intro encs (show ∀ b1 b2 a b, gV b1 b2 a b = .agg [.sl b1 1 (a.map eS), .sl b2 1 (b.map eS)] from fun _ _ _ _ => rfl)
 have hm := mul_b hi hb
 have hc := mul_cast b.length i
 have ha : ((i * (b.length + 1) : Nat) : Int) + (k : Int) = ((atN b.length i k : Nat) : Int) := by rw [← hc, atN_cast]
 generalize i * (b.length + 1) = q at hm hc ha
 refine Ctr.of (rs := [.tmp 6]) Tok true Try.func28 rfl rfl rfl rfl (by simp [ofDL]) (fun w0 kp => ?_)
 simp only [↓sx0, sxE, encs, sevalprocAttr]
 (with_reducible refine Vc.go ?_ fun _ => ?_); focus (first | omega | (simp only [InK]; omega) | (simp [InK]; done) | (simp [InK]; omega))
 simp only [↓sx0, sxE, encs, sevalprocAttr]
 rw [hc]
 repeat ((with_reducible refine Vc.go ?_ fun _ => ?_); (focus (first | omega | (simp only [InK]; omega) | (simp [InK]; done) | (simp [InK]; omega))); simp only [↓sx0, sxE, encs, sevalprocAttr])
 rw [ha]
 refine EndW.fn ?_ ?_ <;> simp only [sx4, encs, kpLL_map, sxR, sevalprocAttr] <;> (try simp) <;> (try omega)
def stC (a b : List ByteArray) (i k : Nat) : List SV := [.pt true [(.v (.int .i64 ((i : Int))))], .pt true [(.v (.int .i64 ((k : Int))))], .pt true [.sl true 1 (a.map eS), .sl true 1 (b.map eS)]]
theorem steps_s (a b : List ByteArray) (i k : Nat) : Ctr Try.prog 42 [gV true true a b, (.v (.int .i64 ((i : Int)))), (.v (.int .i64 ((k : Int))))] (fun rr => rr = ⟨.clo 56 (stC a b i k), []⟩) := by
 have encs := And.intro encs (And.intro (show ∀ b1 b2 a b, gV b1 b2 a b = .agg [.sl b1 1 (a.map eS), .sl b2 1 (b.map eS)] from fun _ _ _ _ => rfl) (show ∀ a b i k, stC a b i k = [.pt true [(.v (.int .i64 ((i : Int))))], .pt true [(.v (.int .i64 ((k : Int))))], .pt true [.sl true 1 (a.map eS), .sl true 1 (b.map eS)]] from fun _ _ _ _ => rfl))
 refine Ctr.ofB (rs := [.tmp 6]) Tok Try.func42 rfl rfl rfl rfl (by simp [ofDL]) (fun w0 kp => ?_)
 simp only [↓sx0, sxE, encs, sevalprocAttr]
 simp only [endY, boxV, boxL, bxPs, bxPs.bx1, bxD, assB, ptB, bxV, bxL, toDL, toD, consO, vD, oneV, dedN, addN, memN, sxL, sx2, encs, sxR, sevalprocAttr]
 exact EndW.fn (by simp only [sx4, encs, kpLL_map, sxR, sevalprocAttr] <;> (try simp) <;> (try omega)) (by simp only [sx4, encs, kpLL_map, sxR, sevalprocAttr] <;> (try simp) <;> (try omega))
/-- the steps that end at a place, with their costs. -/
def stN (a b : List ByteArray) (i k : Nat) : List ((Nat × Nat) × Int) :=
 (if 0 < i ∧ 0 < k then [((i - 1, k - 1), if a[i - 1]? = b[k - 1]? then 0 else 1)] else []) ++ ((if 0 < i then [((i - 1, k), 1)] else []) ++ (if 0 < k then [((i, k - 1), 1)] else []))
def fY (p : (Nat × Nat) × Int) : List SV := [.agg [(.v (.int .i64 ((p.1.1 : Int)))), (.v (.int .i64 ((p.1.2 : Int))))], (.v (.int .i64 p.2))]
theorem stepsIt_s (a b : List ByteArray) (i k : Nat) (hi : i ≤ a.length) (hk : k ≤ b.length) (ha : a.length ≤ 1000) (hb : b.length ≤ 1000) : ItCtr Try.prog 56 (stC a b i k) ((stN a b i k).map fY) := by
 have encs := And.intro encs (show ∀ a b i k, stC a b i k = [.pt true [(.v (.int .i64 ((i : Int))))], .pt true [(.v (.int .i64 ((k : Int))))], .pt true [.sl true 1 (a.map eS), .sl true 1 (b.map eS)]] from fun _ _ _ _ => rfl)
 refine ItCtr.of Tok Try.func56 rfl rfl rfl rfl (by simp [ofDL, encs]) (fun w0 kp yd hok => ?_)
 simp only [↓sx0, sxE, encs, sevalprocAttr]
 rcases i with _ | i
 ·rcases k with _ | k
  ·have hN : stN a b 0 0 = [] := by simp [stN]
   rw [hN] at hok ⊢
   repeat ((with_reducible refine BrW.no (by omega) ?_); simp only [↓sx0, sxE, encs, sevalprocAttr])
   intro _
   trivial
  ·have hN : stN a b 0 (k + 1) = [((0, k), 1)] := by simp [stN]
   rw [hN] at hok ⊢
   have e2 : (((k + 1 : Nat) : Int) - 1) = (k : Int) := by omega
   repeat ((with_reducible refine BrW.no (by omega) ?_); simp only [↓sx0, sxE, encs, sevalprocAttr])
   repeat ((with_reducible refine BrW.yes (by omega) ?_); simp only [↓sx0, sxE, encs, sevalprocAttr])
   repeat ((with_reducible refine Vc.go ?_ fun _ => ?_); (focus (first | omega | (simp only [InK]; omega) | (simp [InK]; done) | (simp [InK]; omega))); simp only [↓sx0, sxE, encs, sevalprocAttr])
   rw [e2]
   refine YldI.of (ys := []) hok rfl rfl (by simp only [sx2, sxA, encs, sxR, sevalprocAttr] <;> rfl) (by simp only [sx2, sxA, encs, sxR, sevalprocAttr] <;> rfl) rfl rfl rfl (by simp [fY]) ?_ ?_
   ·simp only [↓sx0, sxE, encs, sevalprocAttr]
    intro _
    rfl
   ·simp only [↓sx0, sxE, encs, sevalprocAttr]
    intro h
    cases h
 ·rcases k with _ | k
  ·have hN : stN a b (i + 1) 0 = [((i, 0), 1)] := by simp [stN]
   rw [hN] at hok ⊢
   have e1 : (((i + 1 : Nat) : Int) - 1) = (i : Int) := by omega
   repeat ((with_reducible refine BrW.yes (by omega) ?_); simp only [↓sx0, sxE, encs, sevalprocAttr])
   repeat ((with_reducible refine BrW.no (by omega) ?_); simp only [↓sx0, sxE, encs, sevalprocAttr])
   repeat ((with_reducible refine BrW.yes (by omega) ?_); simp only [↓sx0, sxE, encs, sevalprocAttr])
   repeat ((with_reducible refine Vc.go ?_ fun _ => ?_); (focus (first | omega | (simp only [InK]; omega) | (simp [InK]; done) | (simp [InK]; omega))); simp only [↓sx0, sxE, encs, sevalprocAttr])
   rw [e1]
   refine YldI.of (ys := []) hok rfl rfl (by simp only [sx2, sxA, encs, sxR, sevalprocAttr] <;> rfl) (by simp only [sx2, sxA, encs, sxR, sevalprocAttr] <;> rfl) rfl rfl rfl (by simp [fY]) ?_ ?_
   ·simp only [↓sx0, sxE, encs, sevalprocAttr]
    repeat ((with_reducible refine BrW.no (by omega) ?_); simp only [↓sx0, sxE, encs, sevalprocAttr])
    intro _
    rfl
   ·simp only [↓sx0, sxE, encs, sevalprocAttr]
    intro h
    cases h
  ·have e1 : (((i + 1 : Nat) : Int) - 1) = (i : Int) := by omega
   have e2 : (((k + 1 : Nat) : Int) - 1) = (k : Int) := by omega
   have hia : i < a.length := by omega
   have hkb : k < b.length := by omega
   repeat ((with_reducible refine BrW.yes (by omega) ?_); simp only [↓sx0, sxE, encs, sevalprocAttr])
   refine DrawW.plan Tok mixed (.q 0 <| .q 1 <| .q 2 <| .q 3 <| .q 4 <| .q 5 <| .q 6 <| .q 7 <| .q 8 <| .q 9 <| .q 10 <| .q 11 <| .q 12 <| .done) (by kernel_rfl) (by kernel_rfl) ?_
   simp only [↓sx0, sxE, encs, sevalprocAttr]
   repeat ((with_reducible refine Vc.go ?_ fun _ => ?_); (focus (first | omega | (simp only [InK]; omega) | (simp [InK]; done) | (simp [InK]; omega))); simp only [↓sx0, sxE, encs, sevalprocAttr])
   rw [e1]
   refine IxW.nat hia ?_
   simp only [↓sx0, sxE, encs, sevalprocAttr]
   repeat ((with_reducible refine Vc.go ?_ fun _ => ?_); (focus (first | omega | (simp only [InK]; omega) | (simp [InK]; done) | (simp [InK]; omega))); simp only [↓sx0, sxE, encs, sevalprocAttr])
   rw [e2]
   refine IxW.nat hkb ?_
   simp only [↓sx0, sxE, encs, sevalprocAttr]
   refine BrW.dec (fun he => ?_) (fun he => ?_)
   ·have hN : stN a b (i + 1) (k + 1) = [((i, k), 0), ((i, (k + 1)), 1), (((i + 1), k), 1)] := by simp [stN, List.getElem?_eq_getElem hia, List.getElem?_eq_getElem hkb, he]
    rw [hN] at hok ⊢
    simp only [↓sx0, sxE, encs, sevalprocAttr]
    repeat ((with_reducible refine Vc.go ?_ fun _ => ?_); (focus (first | omega | (simp only [InK]; omega) | (simp [InK]; done) | (simp [InK]; omega))); simp only [↓sx0, sxE, encs, sevalprocAttr])
    rw [e1]
    repeat ((with_reducible refine Vc.go ?_ fun _ => ?_); (focus (first | omega | (simp only [InK]; omega) | (simp [InK]; done) | (simp [InK]; omega))); simp only [↓sx0, sxE, encs, sevalprocAttr])
    rw [e2]
    refine YldI.of (ys := []) hok rfl rfl (by simp only [sx2, sxA, encs, sxR, sevalprocAttr] <;> rfl) (by simp only [sx2, sxA, encs, sxR, sevalprocAttr] <;> rfl) rfl rfl rfl (by simp [fY]) ?_ ?_
    ·simp only [↓sx0, sxE, encs, sevalprocAttr]
     repeat ((with_reducible refine BrW.yes (by omega) ?_); simp only [↓sx0, sxE, encs, sevalprocAttr])
     repeat ((with_reducible refine Vc.go ?_ fun _ => ?_); (focus (first | omega | (simp only [InK]; omega) | (simp [InK]; done) | (simp [InK]; omega))); simp only [↓sx0, sxE, encs, sevalprocAttr])
     rw [e1]
     refine YldI.of (ys := [[.agg [(.v (.int .i64 ((i : Int)))), (.v (.int .i64 ((k : Int))))], (.v (.int .i64 0))]]) hok rfl rfl (by simp only [sx2, sxA, encs, sxR, sevalprocAttr] <;> rfl) (by simp only [sx2, sxA, encs, sxR, sevalprocAttr] <;> rfl) rfl rfl rfl (by simp [fY]) ?_ ?_
     ·simp only [↓sx0, sxE, encs, sevalprocAttr]
      repeat ((with_reducible refine BrW.yes (by omega) ?_); simp only [↓sx0, sxE, encs, sevalprocAttr])
      repeat ((with_reducible refine Vc.go ?_ fun _ => ?_); (focus (first | omega | (simp only [InK]; omega) | (simp [InK]; done) | (simp [InK]; omega))); simp only [↓sx0, sxE, encs, sevalprocAttr])
      rw [e2]
      refine YldI.of (ys := [[.agg [(.v (.int .i64 ((i : Int)))), (.v (.int .i64 ((k : Int))))], (.v (.int .i64 0))], [.agg [(.v (.int .i64 ((i : Int)))), (.v (.int .i64 ((((k + 1 : Nat) : Int) : Int))))], (.v (.int .i64 1))]]) hok rfl rfl (by simp only [sx2, sxA, encs, sxR, sevalprocAttr] <;> rfl) (by simp only [sx2, sxA, encs, sxR, sevalprocAttr] <;> rfl) rfl rfl rfl (by simp [fY]) ?_ ?_
      ·simp only [↓sx0, sxE, encs, sevalprocAttr]
       intro _
       rfl
      ·simp only [↓sx0, sxE, encs, sevalprocAttr]
       intro h
       cases h
     ·simp only [↓sx0, sxE, encs, sevalprocAttr]
      intro h
      cases h
    ·simp only [↓sx0, sxE, encs, sevalprocAttr]
     intro h
     cases h
   ·have hN : stN a b (i + 1) (k + 1) = [((i, k), 1), ((i, (k + 1)), 1), (((i + 1), k), 1)] := by simp [stN, List.getElem?_eq_getElem hia, List.getElem?_eq_getElem hkb, he]
    rw [hN] at hok ⊢
    simp only [↓sx0, sxE, encs, sevalprocAttr]
    repeat ((with_reducible refine Vc.go ?_ fun _ => ?_); (focus (first | omega | (simp only [InK]; omega) | (simp [InK]; done) | (simp [InK]; omega))); simp only [↓sx0, sxE, encs, sevalprocAttr])
    rw [e1]
    repeat ((with_reducible refine Vc.go ?_ fun _ => ?_); (focus (first | omega | (simp only [InK]; omega) | (simp [InK]; done) | (simp [InK]; omega))); simp only [↓sx0, sxE, encs, sevalprocAttr])
    rw [e2]
    refine YldI.of (ys := []) hok rfl rfl (by simp only [sx2, sxA, encs, sxR, sevalprocAttr] <;> rfl) (by simp only [sx2, sxA, encs, sxR, sevalprocAttr] <;> rfl) rfl rfl rfl (by simp [fY]) ?_ ?_
    ·simp only [↓sx0, sxE, encs, sevalprocAttr]
     repeat ((with_reducible refine BrW.yes (by omega) ?_); simp only [↓sx0, sxE, encs, sevalprocAttr])
     repeat ((with_reducible refine Vc.go ?_ fun _ => ?_); (focus (first | omega | (simp only [InK]; omega) | (simp [InK]; done) | (simp [InK]; omega))); simp only [↓sx0, sxE, encs, sevalprocAttr])
     rw [e1]
     refine YldI.of (ys := [[.agg [(.v (.int .i64 ((i : Int)))), (.v (.int .i64 ((k : Int))))], (.v (.int .i64 1))]]) hok rfl rfl (by simp only [sx2, sxA, encs, sxR, sevalprocAttr] <;> rfl) (by simp only [sx2, sxA, encs, sxR, sevalprocAttr] <;> rfl) rfl rfl rfl (by simp [fY]) ?_ ?_
     ·simp only [↓sx0, sxE, encs, sevalprocAttr]
      repeat ((with_reducible refine BrW.yes (by omega) ?_); simp only [↓sx0, sxE, encs, sevalprocAttr])
      repeat ((with_reducible refine Vc.go ?_ fun _ => ?_); (focus (first | omega | (simp only [InK]; omega) | (simp [InK]; done) | (simp [InK]; omega))); simp only [↓sx0, sxE, encs, sevalprocAttr])
      rw [e2]
      refine YldI.of (ys := [[.agg [(.v (.int .i64 ((i : Int)))), (.v (.int .i64 ((k : Int))))], (.v (.int .i64 1))], [.agg [(.v (.int .i64 ((i : Int)))), (.v (.int .i64 ((((k + 1 : Nat) : Int) : Int))))], (.v (.int .i64 1))]]) hok rfl rfl (by simp only [sx2, sxA, encs, sxR, sevalprocAttr] <;> rfl) (by simp only [sx2, sxA, encs, sxR, sevalprocAttr] <;> rfl) rfl rfl rfl (by simp [fY]) ?_ ?_
      ·simp only [↓sx0, sxE, encs, sevalprocAttr]
       intro _
       rfl
      ·simp only [↓sx0, sxE, encs, sevalprocAttr]
       intro h
       cases h
     ·simp only [↓sx0, sxE, encs, sevalprocAttr]
      intro h
      cases h
    ·simp only [↓sx0, sxE, encs, sevalprocAttr]
     intro h
     cases h
end Go.Proofs.Ytmiibjncomgneaa
/-
 Chapter 8, walks: the bound of a place.
-/
namespace Go.Proofs.Ytmiibjncomgneaa
open Go Go.Vx
set_option linter.unusedSimpArgs false
set_option linter.unusedVariables false
set_option maxRecDepth 20000
def mostB (i k : Nat) : Int := if i = 0 ∧ k = 0 then 0 else 100
def bdS (nb : Nat) (L : List Int) (m : Int) (p : (Nat × Nat) × Int) : Int := min m (L.getD (atN nb p.1.1 p.1.2) 0 + p.2)
def bdK (a b : List ByteArray) (L : List Int) (i k n : Nat) : Int := ((stN a b i k).take n).foldl (bdS b.length L) (mostB i k)
def bdV (a b : List ByteArray) (L : List Int) (i k : Nat) : Int := (stN a b i k).foldl (bdS b.length L) (mostB i k)
theorem bdK_all (a b : List ByteArray) (L : List Int) (i k : Nat) : bdK a b L i k (stN a b i k).length = bdV a b L i k := by rw [bdK, List.take_length]; rfl
theorem bdK_succ {a b : List ByteArray} {L : List Int} {i k n : Nat} (h : n < (stN a b i k).length) : bdK a b L i k (n + 1) = bdS b.length L (bdK a b L i k n) (stN a b i k)[n] := by
 rw [bdK, List.take_succ_eq_append_getElem h, List.foldl_append]; rfl
theorem stN_mem {a b : List ByteArray} {i k : Nat} {p : (Nat × Nat) × Int} (h : p ∈ stN a b i k) : p.1.1 ≤ i ∧ p.1.2 ≤ k ∧ p.1.1 + p.1.2 < i + k ∧ 0 ≤ p.2 ∧ p.2 ≤ 1 := by
 unfold stN at h
 simp only [List.mem_append] at h
 rcases h with h | h | h
 ·split at h
  ·simp only [List.mem_singleton] at h; subst h
   refine ⟨by simp only; omega, by simp only; omega, by simp only; omega, ?_, ?_⟩ <;> (simp only; split <;> omega)
  ·cases h
 ·split at h
  ·simp only [List.mem_singleton] at h; subst h
   exact ⟨by simp only; omega, by simp only; omega, by simp only; omega, by simp only; omega, by simp only; omega⟩
  ·cases h
 ·split at h
  ·simp only [List.mem_singleton] at h; subst h
   exact ⟨by simp only; omega, by simp only; omega, by simp only; omega, by simp only; omega, by simp only; omega⟩
  ·cases h
set_option maxHeartbeats 8000000 in
theorem bound_s (b3 : Bool) (a b : List ByteArray) (L : List Int) (i k : Nat) (hi : i ≤ a.length) (hk : k ≤ b.length) (ha : a.length ≤ 1000) (hb : b.length ≤ 1000) (hL : ∀ p ∈ stN a b i k, atN b.length p.1.1 p.1.2 < L.length) (hv : ∀ x ∈ L, 0 ≤ x ∧ x ≤ 100) :
  Ctr Try.prog 32 [gV true true a b, .sl b3 1 (L.map eI), (.v (.int .i64 ((i : Int)))), (.v (.int .i64 ((k : Int))))] (fun rr => rr = ⟨(.v (.int .i64 (bdV a b L i k))), []⟩) := by
 have hit := stepsIt_s a b i k hi hk ha hb
 have hst := steps_s a b i k
 have encs := And.intro encs (And.intro (show ∀ a b i k, stC a b i k = [.pt true [(.v (.int .i64 ((i : Int))))], .pt true [(.v (.int .i64 ((k : Int))))], .pt true [.sl true 1 (a.map eS), .sl true 1 (b.map eS)]] from fun _ _ _ _ => rfl) (show ∀ b1 b2 a b, gV b1 b2 a b = .agg [.sl b1 1 (a.map eS), .sl b2 1 (b.map eS)] from fun _ _ _ _ => rfl))
 have hat := fun (p : (Nat × Nat) × Int) (hp : p ∈ stN a b i k) => at_s true true a b p.1.1 p.1.2 (by have := stN_mem hp; omega) (by have := stN_mem hp; omega) hb
 refine Ctr.of (rs := [.tmp 8]) Tok true Try.func32 rfl rfl rfl rfl (by simp [ofDL]) (fun w0 kp => ?_)
 simp only [↓sx0, sxE, encs, sevalprocAttr]
 by_cases hz : i = 0 ∧ k = 0
 ·have hK0 : bdK a b L i k 0 = 0 := by simp [bdK, mostB, hz]
  repeat ((with_reducible refine BrW.yes (by omega) ?_); simp only [↓sx0, sxE, encs, sevalprocAttr])
  have encs := And.intro encs hK0
  refine CallI.fn (hst) (by simp only [sx3, encs, sxR, sevalprocAttr] <;> (try simp) <;> (try rfl)) ?_
  simp only [↓sx0, sxE, encs, sevalprocAttr]
  refine RangeW.it Tok (fun _ => rfl) (fun hro => by first | rfl | exact (by rw [hro] at *; contradiction)) (hit) [(4, .box 0 0), (5, .box 1 0), (9, .box 2 0), (21, .clo 56 (stC a b i k))] (fun ys => [some ⟨59, [.sl true 1 (a.map eS), .sl true 1 (b.map eS)]⟩, some ⟨39, [.sl b3 1 (L.map eI)]⟩, some ⟨3, [(.v (.int .i64 (bdK a b L i k ys.length)))]⟩]) (fun ys => []) (fun _ => True) trivial (by simp only [sx2, encs, sxR, sevalprocAttr] <;> (try simp) <;> (try omega)) rfl rfl (by intro d hd; obtain ⟨p, -, rfl⟩ := List.mem_map.1 hd; rfl) ?_ (fun hJall => ?_)
  ·rintro pre d hpre - ρ σ μ ho' hy hs
   obtain ⟨q, hq⟩ := hpre
   have hn : pre.length < (stN a b i k).length := by
    have := congrArg List.length hq
    simp at this; omega
   have hd : d = fY (stN a b i k)[pre.length] := by
    have : ((stN a b i k).map fY)[pre.length]? = some d := by rw [← hq]; simp
    simpa [List.getElem?_eq_getElem hn, eq_comm] using this
   subst hd
   obtain ⟨yd', ro, mks, fr, lp, sz⟩ := ho'
   have hsu := bdK_succ (L := L) hn
   have hpm := List.getElem_mem hn
   have hpb := stN_mem hpm
   have hal := hL _ hpm
   have hpt := hat _ hpm
   have hvl := hv _ (List.getElem_mem hal)
   have hlen : (pre ++ [fY (stN a b i k)[pre.length]]).length = pre.length + 1 := by simp
   rw [hlen, hsu]
   generalize (stN a b i k)[pre.length] = p at hpb hal hpt hvl ⊢
   obtain ⟨⟨p1, p2⟩, c⟩ := p
   simp only at hpb hal hpt hvl
   have hgd : L.getD (atN b.length p1 p2) 0 = L[atN b.length p1 p2] := by simp [List.getD_eq_getElem?_getD, hal]
   have hbd : bdS b.length L (bdK a b L i k pre.length) ((p1, p2), c) = min (bdK a b L i k pre.length) (L[atN b.length p1 p2] + c) := by rw [bdS, hgd]
   rw [hbd]
   have hfy : fY ((p1, p2), c) = [.agg [(.v (.int .i64 ((p1 : Int)))), (.v (.int .i64 ((p2 : Int))))], (.v (.int .i64 c))] := rfl
   rw [hfy]
   simp only [↓sx0, sxE, encs, sevalprocAttr]
   intro fr'
   refine DrawW.plan Tok mixed (.q 0 <| .q 1 <| .q 2 <| .q 3 <| .q 4 <| .q 5 <| .q 6 <| .q 10 <| .e 7 [0, 1] <| .q 8 <| .q 9 <| .q 11 <| .q 12 <| .e 13 [] <| .done) (by kernel_rfl) (by kernel_rfl) ?_
   simp only [↓sx0, sxE, encs, sevalprocAttr]
   repeat ((with_reducible refine Vc.go ?_ fun _ => ?_); (focus (first | omega | (simp only [InK]; omega) | (simp [InK]; done) | (simp [InK]; omega))); simp only [↓sx0, sxE, encs, sevalprocAttr])
   refine CallI.fn (hpt) (by simp only [sx3, encs, sxR, sevalprocAttr] <;> (try simp) <;> (try rfl)) ?_
   simp only [↓sx0, sxE, encs, sevalprocAttr]
   refine IxW.nat hal ?_
   simp only [↓sx0, sxE, encs, sevalprocAttr]
   repeat ((with_reducible refine Vc.go ?_ fun _ => ?_); (focus (first | omega | (simp only [InK]; omega) | (simp [InK]; done) | (simp [InK]; omega))); simp only [↓sx0, sxE, encs, sevalprocAttr])
   simp only [sx2, encs, sxR, sevalprocAttr] <;> (try simp) <;> (try omega)
  ·rw [List.length_map, bdK_all]
   simp only [↓sx0, sxE, encs, sevalprocAttr]
   refine EndW.fn ?_ ?_ <;> simp only [sx4, encs, kpLL_map, sxR, sevalprocAttr] <;> (try simp) <;> (try omega)
 ·have hK0 : bdK a b L i k 0 = 100 := by simp [bdK, mostB, hz]
  by_cases hi0 : i = 0
  ·repeat ((with_reducible refine BrW.yes (by omega) ?_); simp only [↓sx0, sxE, encs, sevalprocAttr])
   repeat ((with_reducible refine BrW.no (by omega) ?_); simp only [↓sx0, sxE, encs, sevalprocAttr])
   have encs := And.intro encs hK0
   refine CallI.fn (hst) (by simp only [sx3, encs, sxR, sevalprocAttr] <;> (try simp) <;> (try rfl)) ?_
   simp only [↓sx0, sxE, encs, sevalprocAttr]
   refine RangeW.it Tok (fun _ => rfl) (fun hro => by first | rfl | exact (by rw [hro] at *; contradiction)) (hit) [(4, .box 0 0), (5, .box 1 0), (9, .box 2 0), (21, .clo 56 (stC a b i k))] (fun ys => [some ⟨59, [.sl true 1 (a.map eS), .sl true 1 (b.map eS)]⟩, some ⟨39, [.sl b3 1 (L.map eI)]⟩, some ⟨3, [(.v (.int .i64 (bdK a b L i k ys.length)))]⟩]) (fun ys => []) (fun _ => True) trivial (by simp only [sx2, encs, sxR, sevalprocAttr] <;> (try simp) <;> (try omega)) rfl rfl (by intro d hd; obtain ⟨p, -, rfl⟩ := List.mem_map.1 hd; rfl) ?_ (fun hJall => ?_)
   ·rintro pre d hpre - ρ σ μ ho' hy hs
    obtain ⟨q, hq⟩ := hpre
    have hn : pre.length < (stN a b i k).length := by
     have := congrArg List.length hq
     simp at this; omega
    have hd : d = fY (stN a b i k)[pre.length] := by
     have : ((stN a b i k).map fY)[pre.length]? = some d := by rw [← hq]; simp
     simpa [List.getElem?_eq_getElem hn, eq_comm] using this
    subst hd
    obtain ⟨yd', ro, mks, fr, lp, sz⟩ := ho'
    have hsu := bdK_succ (L := L) hn
    have hpm := List.getElem_mem hn
    have hpb := stN_mem hpm
    have hal := hL _ hpm
    have hpt := hat _ hpm
    have hvl := hv _ (List.getElem_mem hal)
    have hlen : (pre ++ [fY (stN a b i k)[pre.length]]).length = pre.length + 1 := by simp
    rw [hlen, hsu]
    generalize (stN a b i k)[pre.length] = p at hpb hal hpt hvl ⊢
    obtain ⟨⟨p1, p2⟩, c⟩ := p
    simp only at hpb hal hpt hvl
    have hgd : L.getD (atN b.length p1 p2) 0 = L[atN b.length p1 p2] := by simp [List.getD_eq_getElem?_getD, hal]
    have hbd : bdS b.length L (bdK a b L i k pre.length) ((p1, p2), c) = min (bdK a b L i k pre.length) (L[atN b.length p1 p2] + c) := by rw [bdS, hgd]
    rw [hbd]
    have hfy : fY ((p1, p2), c) = [.agg [(.v (.int .i64 ((p1 : Int)))), (.v (.int .i64 ((p2 : Int))))], (.v (.int .i64 c))] := rfl
    rw [hfy]
    simp only [↓sx0, sxE, encs, sevalprocAttr]
    intro fr'
    refine DrawW.plan Tok mixed (.q 0 <| .q 1 <| .q 2 <| .q 3 <| .q 4 <| .q 5 <| .q 6 <| .q 10 <| .e 7 [0, 1] <| .q 8 <| .q 9 <| .q 11 <| .q 12 <| .e 13 [] <| .done) (by kernel_rfl) (by kernel_rfl) ?_
    simp only [↓sx0, sxE, encs, sevalprocAttr]
    repeat ((with_reducible refine Vc.go ?_ fun _ => ?_); (focus (first | omega | (simp only [InK]; omega) | (simp [InK]; done) | (simp [InK]; omega))); simp only [↓sx0, sxE, encs, sevalprocAttr])
    refine CallI.fn (hpt) (by simp only [sx3, encs, sxR, sevalprocAttr] <;> (try simp) <;> (try rfl)) ?_
    simp only [↓sx0, sxE, encs, sevalprocAttr]
    refine IxW.nat hal ?_
    simp only [↓sx0, sxE, encs, sevalprocAttr]
    repeat ((with_reducible refine Vc.go ?_ fun _ => ?_); (focus (first | omega | (simp only [InK]; omega) | (simp [InK]; done) | (simp [InK]; omega))); simp only [↓sx0, sxE, encs, sevalprocAttr])
    simp only [sx2, encs, sxR, sevalprocAttr] <;> (try simp) <;> (try omega)
   ·rw [List.length_map, bdK_all]
    simp only [↓sx0, sxE, encs, sevalprocAttr]
    refine EndW.fn ?_ ?_ <;> simp only [sx4, encs, kpLL_map, sxR, sevalprocAttr] <;> (try simp) <;> (try omega)
  ·repeat ((with_reducible refine BrW.no (by omega) ?_); simp only [↓sx0, sxE, encs, sevalprocAttr])
   have encs := And.intro encs hK0
   refine CallI.fn (hst) (by simp only [sx3, encs, sxR, sevalprocAttr] <;> (try simp) <;> (try rfl)) ?_
   simp only [↓sx0, sxE, encs, sevalprocAttr]
   refine RangeW.it Tok (fun _ => rfl) (fun hro => by first | rfl | exact (by rw [hro] at *; contradiction)) (hit) [(4, .box 0 0), (5, .box 1 0), (9, .box 2 0), (21, .clo 56 (stC a b i k))] (fun ys => [some ⟨59, [.sl true 1 (a.map eS), .sl true 1 (b.map eS)]⟩, some ⟨39, [.sl b3 1 (L.map eI)]⟩, some ⟨3, [(.v (.int .i64 (bdK a b L i k ys.length)))]⟩]) (fun ys => []) (fun _ => True) trivial (by simp only [sx2, encs, sxR, sevalprocAttr] <;> (try simp) <;> (try omega)) rfl rfl (by intro d hd; obtain ⟨p, -, rfl⟩ := List.mem_map.1 hd; rfl) ?_ (fun hJall => ?_)
   ·rintro pre d hpre - ρ σ μ ho' hy hs
    obtain ⟨q, hq⟩ := hpre
    have hn : pre.length < (stN a b i k).length := by
     have := congrArg List.length hq
     simp at this; omega
    have hd : d = fY (stN a b i k)[pre.length] := by
     have : ((stN a b i k).map fY)[pre.length]? = some d := by rw [← hq]; simp
     simpa [List.getElem?_eq_getElem hn, eq_comm] using this
    subst hd
    obtain ⟨yd', ro, mks, fr, lp, sz⟩ := ho'
    have hsu := bdK_succ (L := L) hn
    have hpm := List.getElem_mem hn
    have hpb := stN_mem hpm
    have hal := hL _ hpm
    have hpt := hat _ hpm
    have hvl := hv _ (List.getElem_mem hal)
    have hlen : (pre ++ [fY (stN a b i k)[pre.length]]).length = pre.length + 1 := by simp
    rw [hlen, hsu]
    generalize (stN a b i k)[pre.length] = p at hpb hal hpt hvl ⊢
    obtain ⟨⟨p1, p2⟩, c⟩ := p
    simp only at hpb hal hpt hvl
    have hgd : L.getD (atN b.length p1 p2) 0 = L[atN b.length p1 p2] := by simp [List.getD_eq_getElem?_getD, hal]
    have hbd : bdS b.length L (bdK a b L i k pre.length) ((p1, p2), c) = min (bdK a b L i k pre.length) (L[atN b.length p1 p2] + c) := by rw [bdS, hgd]
    rw [hbd]
    have hfy : fY ((p1, p2), c) = [.agg [(.v (.int .i64 ((p1 : Int)))), (.v (.int .i64 ((p2 : Int))))], (.v (.int .i64 c))] := rfl
    rw [hfy]
    simp only [↓sx0, sxE, encs, sevalprocAttr]
    intro fr'
    refine DrawW.plan Tok mixed (.q 0 <| .q 1 <| .q 2 <| .q 3 <| .q 4 <| .q 5 <| .q 6 <| .q 10 <| .e 7 [0, 1] <| .q 8 <| .q 9 <| .q 11 <| .q 12 <| .e 13 [] <| .done) (by kernel_rfl) (by kernel_rfl) ?_
    simp only [↓sx0, sxE, encs, sevalprocAttr]
    repeat ((with_reducible refine Vc.go ?_ fun _ => ?_); (focus (first | omega | (simp only [InK]; omega) | (simp [InK]; done) | (simp [InK]; omega))); simp only [↓sx0, sxE, encs, sevalprocAttr])
    refine CallI.fn (hpt) (by simp only [sx3, encs, sxR, sevalprocAttr] <;> (try simp) <;> (try rfl)) ?_
    simp only [↓sx0, sxE, encs, sevalprocAttr]
    refine IxW.nat hal ?_
    simp only [↓sx0, sxE, encs, sevalprocAttr]
    repeat ((with_reducible refine Vc.go ?_ fun _ => ?_); (focus (first | omega | (simp only [InK]; omega) | (simp [InK]; done) | (simp [InK]; omega))); simp only [↓sx0, sxE, encs, sevalprocAttr])
    simp only [sx2, encs, sxR, sevalprocAttr] <;> (try simp) <;> (try omega)
   ·rw [List.length_map, bdK_all]
    simp only [↓sx0, sxE, encs, sevalprocAttr]
    refine EndW.fn ?_ ?_ <;> simp only [sx4, encs, kpLL_map, sxR, sevalprocAttr] <;> (try simp) <;> (try omega)
end Go.Proofs.Ytmiibjncomgneaa
/-
 Chapter 8, walks: labels of edits are checked.
-/
namespace Go.Proofs.Ytmiibjncomgneaa
open Go Go.Vx
set_option linter.unusedSimpArgs false
set_option linter.unusedVariables false
set_option maxRecDepth 20000
theorem indexI_s (b : Bool) (f : Nat) (p : Int → Bool) (l : List Int) (hl : l.length ≤ 1000000000) (hof : ∀ x ∈ l, Ctr Try.prog f [(.v (.int .i64 x))] (fun rr => rr = ⟨(.v (.bool (p x))), []⟩)) : Ctr Try.prog 44 [.sl b 1 (l.map eI), .clo f []] (fun rr => rr = ⟨(.v (.int .i64 (ixG p l))), []⟩) := by
 refine Ctr.of (rs := [.tmp 4]) Tok true Try.func44 rfl rfl rfl rfl (by simp [ofDL]) (fun w0 kp => ?_)
 simp only [↓sx0, sxE, encs, sevalprocAttr]
 refine LoopW.comp [0, 1, 7, 8] (by simp only [sx2, encs, sxR, sevalprocAttr] <;> (try simp) <;> (try omega)) ?_
 simp only [sx2, sxR, sevalprocAttr]
 refine LoopW.up Tok (fun k : Nat => [(8, (.v (.int .i64 k)))]) (fun k => []) (fun k => []) (fun k => []) (fun k => k ≤ l.length ∧ ∀ j (_ : j < k) (h2 : j < l.length), p l[j] = false) (fun k => l.length - k) (0) (by simp only [sx2, encs, sxR, sevalprocAttr] <;> (try simp) <;> (try omega)) ?_ ?_
 ·exact ⟨by omega, fun j h => absurd h (Nat.not_lt_zero _)⟩
 rintro k ⟨hk, ht⟩
 simp only [↓sx0, sxE, encs, sevalprocAttr]
 refine BrW.dec (fun hlt => ?_) (fun hlt => ?_)
 ·simp only [↓sx0, sxE, encs, sevalprocAttr]
  have hlt : k < l.length := by omega
  refine IxW.nat hlt ?_
  simp only [↓sx0, sxE, encs, sevalprocAttr]
  refine CallI.fn (hof l[k] (List.getElem_mem hlt)) (by simp only [sx3, encs, sxR, sevalprocAttr] <;> (try simp) <;> (try rfl)) ?_
  simp only [↓sx0, sxE, encs, sevalprocAttr]
  refine BrW.of (fun hb => ?_) (fun hb => ?_)
  ·simp only [↓sx0, sxE, encs, sevalprocAttr]
   have := ixG_at hlt hb ht
   refine EndW.fn ?_ ?_ <;> simp only [sx4, encs, kpLL_map, sxR, sevalprocAttr] <;> (try simp [this]) <;> (try omega)
  ·simp only [↓sx0, sxE, encs, sevalprocAttr]
   (with_reducible refine Vc.go ?_ fun _ => ?_); focus (first | omega | (simp only [InK]; omega) | (simp [InK]; done) | (simp [InK]; omega))
   simp only [↓sx0, sxE, encs, sevalprocAttr]
   refine ⟨k + 1, StLe.auto (by simp only [sx2, encs, sxR, sevalprocAttr] <;> (try simp) <;> (try omega)), ?_, ?_⟩
   ·refine ⟨hlt, fun j h h2 => ?_⟩
    by_cases e : j = k
    ·subst e; exact hb
    ·exact ht j (by omega) h2
   ·omega
 ·simp only [↓sx0, sxE, encs, sevalprocAttr]
  have hke : k = l.length := by omega
  subst hke
  have := ixG_no (l := l) (p := p) fun j h => ht j h h
  refine EndW.fn ?_ ?_ <;> simp only [sx4, encs, kpLL_map, sxR, sevalprocAttr] <;> (try simp [this]) <;> (try omega)
theorem containsI_s (b : Bool) (f : Nat) (p : Int → Bool) (l : List Int) (hl : l.length ≤ 1000000000) (hof : ∀ x ∈ l, Ctr Try.prog f [(.v (.int .i64 x))] (fun rr => rr = ⟨(.v (.bool (p x))), []⟩)) : Ctr Try.prog 29 [.sl b 1 (l.map eI), .clo f []] (fun rr => rr = ⟨(.v (.bool (l.any p))), []⟩) := by
 refine Ctr.of (rs := [.tmp 4]) Tok true Try.func29 rfl rfl rfl rfl (by simp [ofDL]) (fun w0 kp => ?_)
 simp only [↓sx0, sxE, encs, sevalprocAttr]
 refine CallI.fn (indexI_s b f p l hl hof) (by simp only [sx3, encs, sxR, sevalprocAttr] <;> (try simp) <;> (try rfl)) ?_
 simp only [↓sx0, sxE, encs, sevalprocAttr]
 rw [ixG_any]
 refine EndW.fn ?_ ?_ <;> simp only [sx4, encs, kpLL_map, sxR, sevalprocAttr] <;> (try simp) <;> (try omega)
def badL (n : Int) : Bool := !decide (0 ≤ n ∧ n ≤ 100)
theorem labels1_s (n : Int) : Ctr Try.prog 30 [(.v (.int .i64 n))] (fun rr => rr = ⟨(.v (.bool (badL n))), []⟩) := by
 refine Ctr.of (rs := [.tmp 2]) Tok true Try.func30 rfl rfl rfl rfl (by simp [ofDL]) (fun w0 kp => ?_)
 simp only [↓sx0, sxE, encs, sevalprocAttr]
 refine CallI.fn (within_s n 0 100) (by simp only [sx3, encs, sxR, sevalprocAttr] <;> (try simp) <;> (try rfl)) ?_
 simp only [↓sx0, sxE, encs, sevalprocAttr]
 refine EndW.fn ?_ ?_ <;> simp only [sx4, encs, kpLL_map, sxR, sevalprocAttr] <;> (try simp [badL]) <;> (try omega)
/-- whether each label is at most its bound. -/
def rowOk (a b : List ByteArray) (L : List Int) (i k : Nat) : Bool := decide (L.getD (atN b.length i k) 0 ≤ bdV a b L i k)
def rowsOk (a b : List ByteArray) (L : List Int) (i : Nat) : Bool := (List.range (b.length + 1)).all fun k => rowOk a b L i k
def labOk (a b : List ByteArray) (L : List Int) : Bool := (List.range (a.length + 1)).all fun i => rowsOk a b L i
def labE (a b : List ByteArray) (L : List Int) : Int × Int :=
 if L.length = (a.length + 1) * (b.length + 1) then (if L.any badL = true then (0, 2) else if labOk a b L = true then (L.getD (L.length - 1) 0, 0) else (0, 22)) else (0, 10)
def labV (a b : List ByteArray) (L : List Int) : Int × Int := if wdsErr a b = 0 then labE a b L else (0, wdsErr a b)
theorem any_range_take {p : Nat → Bool} {n k : Nat} (h : k < n) (hp : p k = false) : (List.range n).all p = false := by
 rw [← Bool.not_eq_true, List.all_eq_true]
 intro hc
 have := hc k (List.mem_range.2 h)
 rw [hp] at this; cases this
theorem all_range {p : Nat → Bool} {n : Nat} (h : ∀ k, k < n → p k = true) : (List.range n).all p = true := by
 rw [List.all_eq_true]; intro k hk; exact h k (List.mem_range.1 hk)
theorem lab_last (na nb : Nat) : atN nb na nb + 1 = (na + 1) * (nb + 1) := by unfold atN; rw [Nat.add_mul]; omega
set_option maxHeartbeats 8000000 in
theorem checkLabels_s (a b : List ByteArray) (L : List Int) (ha : AllSz a) (hb : AllSz b) (hL : L.length ≤ 1000000) : Ctr Try.prog 13 [.sl true 1 (a.map eS), .sl true 1 (b.map eS), .sl true 1 (L.map eI)] (fun rr => rr = ⟨.tup [(.v (.int .i64 ((labV a b L).1))), (.v (.int .i64 ((labV a b L).2)))], []⟩) := by
 have encs := And.intro encs (show ∀ b1 b2 a b, gV b1 b2 a b = .agg [.sl b1 1 (a.map eS), .sl b2 1 (b.map eS)] from fun _ _ _ _ => rfl)
 refine Ctr.of (rs := [.tmp 6, .tmp 7]) Tok true Try.func13 rfl rfl rfl rfl (by simp [ofDL]) (fun w0 kp => ?_)
 simp only [↓sx0, sxE, encs, sevalprocAttr]
 refine CallI.fn (checkWords_s true true a b ha hb) (by simp only [sx3, encs, sxR, sevalprocAttr] <;> (try simp) <;> (try rfl)) ?_
 simp only [↓sx0, sxE, encs, sevalprocAttr]
 refine BrW.dec (fun he => ?_) (fun he => ?_)
 ·rw [show labV a b L = (0, wdsErr a b) by rw [labV, if_neg he]]
  simp only [↓sx0, sxE, encs, sevalprocAttr]
  refine EndW.fn ?_ ?_ <;> simp only [sx4, encs, kpLL_map, sxR, sevalprocAttr] <;> (try simp) <;> (try omega)
 ·have he : wdsErr a b = 0 := Decidable.not_not.1 he
  have hlen : a.length ≤ 40 ∧ b.length ≤ 40 := by
   unfold wdsErr at he
   split at he
   ·assumption
   ·omega
  rw [show labV a b L = labE a b L by rw [labV, if_pos he]]
  simp only [↓sx0, sxE, encs, sevalprocAttr]
  refine CallI.fn (at_s true true a b a.length b.length (by omega) (by omega) (by omega)) (by simp only [sx3, encs, sxR, sevalprocAttr] <;> (try simp) <;> (try rfl)) ?_
  simp only [↓sx0, sxE, encs, sevalprocAttr]
  have hlast := lab_last a.length b.length
  have hmb := mul_b (nb := b.length) (i := a.length) (by omega) (by omega)
  have hat : atN b.length a.length b.length ≤ 1002000 := by unfold atN; omega
  repeat ((with_reducible refine Vc.go ?_ fun _ => ?_); (focus (first | omega | (simp only [InK]; omega) | (simp [InK]; done) | (simp [InK]; omega))); simp only [↓sx0, sxE, encs, sevalprocAttr])
  refine BrW.dec (fun hn => ?_) (fun hn => ?_)
  ·rw [show labE a b L = (0, 10) by rw [labE, if_neg (by omega)]]
   simp only [↓sx0, sxE, encs, sevalprocAttr]
   refine EndW.fn ?_ ?_ <;> simp only [sx4, encs, kpLL_map, sxR, sevalprocAttr] <;> (try simp) <;> (try omega)
  ·have hn2 : L.length = (a.length + 1) * (b.length + 1) := by omega
   have hE : labE a b L = if L.any badL = true then (0, 2) else if labOk a b L = true then (L.getD (L.length - 1) 0, 0) else (0, 22) := by rw [labE, if_pos hn2]
   rw [hE]
   simp only [↓sx0, sxE, encs, sevalprocAttr]
   refine CallI.fn (containsI_s true 30 badL L (by omega) (fun x _ => labels1_s x)) (by simp only [sx3, encs, sxR, sevalprocAttr] <;> (try simp) <;> (try rfl)) ?_
   simp only [↓sx0, sxE, encs, sevalprocAttr]
   refine BrW.of (fun hr => ?_) (fun hr => ?_)
   ·rw [if_pos hr]
    simp only [↓sx0, sxE, encs, sevalprocAttr]
    refine EndW.fn ?_ ?_ <;> simp only [sx4, encs, kpLL_map, sxR, sevalprocAttr] <;> (try simp) <;> (try omega)
   ·rw [if_neg (by rw [hr]; simp)]
    have hv : ∀ x ∈ L, 0 ≤ x ∧ x ≤ 100 := fun x hx => by
     rw [List.any_eq_false] at hr
     simpa [badL] using hr x hx
    have hix : ∀ i k, i ≤ a.length → k ≤ b.length → atN b.length i k < L.length := fun i k h1 h2 => by rw [hn2]; exact atN_lt h1 h2
    have hbs : ∀ i k, i ≤ a.length → k ≤ b.length → ∀ p ∈ stN a b i k, atN b.length p.1.1 p.1.2 < L.length := fun i k h1 h2 p hp => by
     have := stN_mem hp
     exact hix _ _ (by omega) (by omega)
    simp only [↓sx0, sxE, encs, sevalprocAttr]
    repeat ((with_reducible refine Vc.go ?_ fun _ => ?_); (focus (first | omega | (simp only [InK]; omega) | (simp [InK]; done) | (simp [InK]; omega))); simp only [↓sx0, sxE, encs, sevalprocAttr])
    refine LoopW.comp [1, 2, 9, 37, 38] (by simp only [sx2, encs, sxR, sevalprocAttr] <;> (try simp) <;> (try omega)) ?_
    simp only [sx2, sxR, sevalprocAttr]
    refine LoopW.up Tok (fun i : Nat => [(38, (.v (.int .i64 i)))]) (fun i => []) (fun i => []) (fun i => []) (fun i => i ≤ a.length + 1 ∧ ∀ j, j < i → rowsOk a b L j = true) (fun i => a.length + 1 - i) (0) (by simp only [sx2, encs, sxR, sevalprocAttr] <;> (try simp) <;> (try omega)) ?_ ?_
    ·exact ⟨by omega, fun j h => absurd h (Nat.not_lt_zero _)⟩
    rintro i ⟨hi, hI⟩
    simp only [↓sx0, sxE, encs, sevalprocAttr]
    refine BrW.dec (fun hlt => ?_) (fun hlt => ?_)
    ·simp only [↓sx0, sxE, encs, sevalprocAttr]
     repeat ((with_reducible refine Vc.go ?_ fun _ => ?_); (focus (first | omega | (simp only [InK]; omega) | (simp [InK]; done) | (simp [InK]; omega))); simp only [↓sx0, sxE, encs, sevalprocAttr])
     refine LoopW.comp [1, 2, 9, 10, 37, 38, 43, 44] (by simp only [sx2, encs, sxR, sevalprocAttr] <;> (try simp) <;> (try omega)) ?_
     simp only [sx2, sxR, sevalprocAttr]
     refine LoopW.up Tok (fun k : Nat => [(44, (.v (.int .i64 k)))]) (fun k => []) (fun k => []) (fun k => []) (fun k => k ≤ b.length + 1 ∧ ∀ j, j < k → rowOk a b L i j = true) (fun k => b.length + 1 - k) (0) (by simp only [sx2, encs, sxR, sevalprocAttr] <;> (try simp) <;> (try omega)) ?_ ?_
     ·exact ⟨by omega, fun j h => absurd h (Nat.not_lt_zero _)⟩
     rintro k ⟨hk, hK⟩
     simp only [↓sx0, sxE, encs, sevalprocAttr]
     refine BrW.dec (fun hlt2 => ?_) (fun hlt2 => ?_)
     ·simp only [↓sx0, sxE, encs, sevalprocAttr]
      have hi2 : i ≤ a.length := by omega
      have hk2 : k ≤ b.length := by omega
      have hx := hix i k hi2 hk2
      have hat2 := at_s true true a b i k (by omega) (by omega) (by omega)
      have hbo := bound_s true a b L i k hi2 hk2 (by omega) (by omega) (hbs i k hi2 hk2) hv
      have hgd : L.getD (atN b.length i k) 0 = L[atN b.length i k] := by simp [List.getD_eq_getElem?_getD, hx]
      refine DrawW.plan Tok mixed (.q 0 <| .q 1 <| .q 2 <| .q 3 <| .q 7 <| .q 8 <| .q 9 <| .q 10 <| .e 4 [7] <| .q 5 <| .q 6 <| .e 11 [6] <| .q 12 <| .done) (by kernel_rfl) (by kernel_rfl) ?_
      simp only [↓sx0, sxE, encs, sevalprocAttr]
      refine CallI.fn (hat2) (by simp only [sx3, encs, sxR, sevalprocAttr] <;> (try simp) <;> (try rfl)) ?_
      simp only [↓sx0, sxE, encs, sevalprocAttr]
      refine IxW.nat hx ?_
      simp only [↓sx0, sxE, encs, sevalprocAttr]
      refine CallI.fn (hbo) (by simp only [sx3, encs, sxR, sevalprocAttr] <;> (try simp) <;> (try rfl)) ?_
      simp only [↓sx0, sxE, encs, sevalprocAttr]
      refine BrW.dec (fun hgt => ?_) (fun hgt => ?_)
      ·have hro : rowOk a b L i k = false := by rw [rowOk, hgd]; simpa using hgt
       have hrs : rowsOk a b L i = false := any_range_take (by omega) hro
       have hlo : labOk a b L = false := any_range_take (by omega) hrs
       rw [if_neg (by rw [hlo]; simp)]
       simp only [↓sx0, sxE, encs, sevalprocAttr]
       refine EndW.fn ?_ ?_ <;> simp only [sx4, encs, kpLL_map, sxR, sevalprocAttr] <;> (try simp) <;> (try omega)
      ·have hro : rowOk a b L i k = true := by rw [rowOk, hgd]; simpa using hgt
       simp only [↓sx0, sxE, encs, sevalprocAttr]
       repeat ((with_reducible refine Vc.go ?_ fun _ => ?_); (focus (first | omega | (simp only [InK]; omega) | (simp [InK]; done) | (simp [InK]; omega))); simp only [↓sx0, sxE, encs, sevalprocAttr])
       refine ⟨k + 1, StLe.auto (by simp only [sx2, encs, sxR, sevalprocAttr] <;> (try simp) <;> (try omega)), ?_, ?_⟩
       ·refine ⟨by omega, fun j hj => ?_⟩
        by_cases e : j = k
        ·subst e; exact hro
        ·exact hK j (by omega)
       ·omega
     ·have hke : k = b.length + 1 := by omega
      subst hke
      simp only [↓sx0, sxE, encs, sevalprocAttr]
      repeat ((with_reducible refine Vc.go ?_ fun _ => ?_); (focus (first | omega | (simp only [InK]; omega) | (simp [InK]; done) | (simp [InK]; omega))); simp only [↓sx0, sxE, encs, sevalprocAttr])
      refine ⟨i + 1, StLe.auto (by simp only [sx2, encs, sxR, sevalprocAttr] <;> (try simp) <;> (try omega)), ?_, ?_⟩
      ·refine ⟨by omega, fun j hj => ?_⟩
       by_cases e : j = i
       ·subst e; exact all_range hK
       ·exact hI j (by omega)
      ·omega
    ·have hie : i = a.length + 1 := by omega
     subst hie
     rw [if_pos (show labOk a b L = true from all_range hI)]
     have hpos : L.length - 1 < L.length := by omega
     have hgd : L.getD (L.length - 1) 0 = L[L.length - 1] := by simp [List.getD_eq_getElem?_getD, hpos]
     rw [hgd]
     simp only [↓sx0, sxE, encs, sevalprocAttr]
     repeat ((with_reducible refine Vc.go ?_ fun _ => ?_); (focus (first | omega | (simp only [InK]; omega) | (simp [InK]; done) | (simp [InK]; omega))); simp only [↓sx0, sxE, encs, sevalprocAttr])
     refine ⟨by omega, _, (by rw [show ((L.length : Int) - 1).toNat = L.length - 1 by omega, List.getElem?_map, List.getElem?_eq_getElem hpos]; rfl), ?_⟩
     simp only [↓sx0, sxE, encs, sevalprocAttr]
     refine EndW.fn ?_ ?_ <;> simp only [sx4, encs, kpLL_map, sxR, sevalprocAttr] <;> (try simp) <;> (try omega)
end Go.Proofs.Ytmiibjncomgneaa
