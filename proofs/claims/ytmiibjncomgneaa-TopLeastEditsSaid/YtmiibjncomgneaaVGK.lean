/-
 Chapter 8, walks: the labels of the least edits.
-/
import Derived.Test.YtmiibjncomgneaaVGJ
import Derived.Test.YtmiibjncomgneaaVRev
namespace Go.Proofs.Ytmiibjncomgneaa
open Go Go.Vx
set_option linter.unusedSimpArgs false
set_option linter.unusedVariables false
set_option maxRecDepth 20000
/-- the least cost of edits of the first words. -/
def dst (a b : List ByteArray) : Nat → Nat → Int
 | 0, 0 => 0
 | i + 1, 0 => dst a b i 0 + 1
 | 0, k + 1 => dst a b 0 k + 1
 | i + 1, k + 1 => min (min (dst a b i k + chN a b i k) (dst a b i (k + 1) + 1)) (dst a b (i + 1) k + 1)
theorem chN_b (a b : List ByteArray) (i k : Nat) : 0 ≤ chN a b i k ∧ chN a b i k ≤ 1 := by unfold chN; split <;> omega
theorem dst_b (a b : List ByteArray) : ∀ i k, 0 ≤ dst a b i k ∧ dst a b i k ≤ i + k
 | 0, 0 => by simp [dst]
 | i + 1, 0 => by have := dst_b a b i 0; rw [dst]; omega
 | 0, k + 1 => by have := dst_b a b 0 k; rw [dst]; omega
 | i + 1, k + 1 => by
  have h1 := dst_b a b i k
  have h2 := dst_b a b i (k + 1)
  have h3 := dst_b a b (i + 1) k
  have h4 := chN_b a b i k
  rw [dst]; omega
def dL (a b : List ByteArray) (n : Nat) : List Int := (List.range n).map fun j => dst a b (j / (b.length + 1)) (j % (b.length + 1))
theorem dL_len (a b : List ByteArray) (n : Nat) : (dL a b n).length = n := by simp [dL]
theorem at_div {nb i k : Nat} (hk : k ≤ nb) : atN nb i k / (nb + 1) = i ∧ atN nb i k % (nb + 1) = k := by
 unfold atN
 constructor
 ·rw [Nat.add_comm, Nat.add_mul_div_right _ _ (by omega), Nat.div_eq_of_lt (by omega)]; omega
 ·rw [Nat.add_comm, Nat.add_mul_mod_self_right, Nat.mod_eq_of_lt (by omega)]
theorem dL_get {a b : List ByteArray} {n i k : Nat} (hk : k ≤ b.length) (h : atN b.length i k < n) : (dL a b n).getD (atN b.length i k) 0 = dst a b i k := by
 have hd := at_div (i := i) hk
 simp [dL, List.getD_eq_getElem?_getD, List.getElem?_map, List.getElem?_range, h, hd.1, hd.2]
theorem dL_succ {a b : List ByteArray} {i k : Nat} (hk : k ≤ b.length) : dL a b (atN b.length i k + 1) = dL a b (atN b.length i k) ++ [dst a b i k] := by
 have hd := at_div (i := i) hk
 simp [dL, List.range_succ, hd.1, hd.2]
theorem at_lt {nb i k p q : Nat} (hq : q ≤ nb) (h1 : p ≤ i) (h2 : q ≤ k) (h3 : p + q < i + k) : atN nb p q < atN nb i k := by
 unfold atN
 have := Nat.mul_le_mul_right (nb + 1) h1
 by_cases h : p = i
 ·subst h; omega
 ·have h4 := Nat.mul_le_mul_right (nb + 1) (show p + 1 ≤ i by omega)
  rw [Nat.add_mul] at h4
  omega
theorem bd_dst {a b : List ByteArray} {n i k : Nat} (hi : i ≤ 40) (hk : k ≤ b.length) (hb : b.length ≤ 40) (hn : atN b.length i k ≤ n) : bdV a b (dL a b n) i k = dst a b i k := by
 have g := fun p q (h1 : p ≤ i) (h2 : q ≤ k) (h3 : p + q < i + k) => dL_get (a := a) (b := b) (n := n) (i := p) (k := q) (by omega) (by have := at_lt (nb := b.length) (show q ≤ b.length by omega) h1 h2 h3; omega)
 rcases i with _ | i
 ·rcases k with _ | k
  ·simp [bdV, stN, mostB, dst]
  ·have h1 := g 0 k (by omega) (by omega) (by omega)
   have h2 := dst_b a b 0 k
   have e : stN a b 0 (k + 1) = [((0, k), 1)] := by simp [stN]
   rw [bdV, e, show mostB 0 (k + 1) = 100 from rfl]
   simp only [List.foldl_cons, List.foldl_nil, bdS, h1, dst]
   omega
 ·rcases k with _ | k
  ·have h1 := g i 0 (by omega) (by omega) (by omega)
   have h2 := dst_b a b i 0
   have e : stN a b (i + 1) 0 = [((i, 0), 1)] := by simp [stN]
   rw [bdV, e, show mostB (i + 1) 0 = 100 from rfl]
   simp only [List.foldl_cons, List.foldl_nil, bdS, h1, dst]
   omega
  ·have h1 := g i k (by omega) (by omega) (by omega)
   have h2 := g i (k + 1) (by omega) (by omega) (by omega)
   have h3 := g (i + 1) k (by omega) (by omega) (by omega)
   have h4 := dst_b a b i k
   have h5 := dst_b a b i (k + 1)
   have h6 := dst_b a b (i + 1) k
   have h7 := chN_b a b i k
   have e : stN a b (i + 1) (k + 1) = [((i, k), chN a b i k), ((i, k + 1), 1), ((i + 1, k), 1)] := by simp [stN, chN]
   rw [bdV, e, show mostB (i + 1) (k + 1) = 100 from rfl]
   simp only [List.foldl_cons, List.foldl_nil, bdS, h1, h2, h3, dst]
   omega
theorem dL_v {a b : List ByteArray} {n : Nat} (hb : b.length ≤ 40) (hn : n ≤ 41 * (b.length + 1)) : ∀ x ∈ dL a b n, 0 ≤ x ∧ x ≤ 100 := fun x hx => by
 simp only [dL, List.mem_map, List.mem_range] at hx
 obtain ⟨j, hj, rfl⟩ := hx
 have h1 := dst_b a b (j / (b.length + 1)) (j % (b.length + 1))
 have h2 := Nat.mod_lt j (show 0 < b.length + 1 by omega)
 have h3 : j / (b.length + 1) < 41 := (Nat.div_lt_iff_lt_mul (by omega)).2 (by omega)
 omega
def nLab (a b : List ByteArray) : Nat := (a.length + 1) * (b.length + 1)
set_option maxHeartbeats 8000000 in
theorem labels_s (a b : List ByteArray) (ha : a.length ≤ 40) (hb : b.length ≤ 40) : Ctr Try.prog 25 [gV true true a b] (fun rr => rr = ⟨.sl true 1 ((dL a b (nLab a b)).map eI), []⟩) := by
 have encs := And.intro encs (show ∀ b1 b2 a b, gV b1 b2 a b = .agg [.sl b1 1 (a.map eS), .sl b2 1 (b.map eS)] from fun _ _ _ _ => rfl)
 have hm := Nat.mul_le_mul (show a.length + 1 ≤ 41 by omega) (show b.length + 1 ≤ 41 by omega)
 refine Ctr.of (rs := [.tmp 2]) Tok true Try.func25 rfl rfl rfl rfl (by simp [ofDL]) (fun w0 kp => ?_)
 simp only [↓sx0, sxE, encs, sevalprocAttr]
 repeat ((with_reducible refine Vc.go ?_ fun _ => ?_); (focus (first | omega | (simp only [InK]; omega) | (simp [InK]; done) | (simp [InK]; omega))); simp only [↓sx0, sxE, encs, sevalprocAttr])
 refine LoopW.comp [1, 3, 9, 10] (by simp only [sx2, encs, sxR, sevalprocAttr] <;> (try simp) <;> (try omega)) ?_
 simp only [sx2, sxR, sevalprocAttr]
 refine LoopW.up Tok (fun i : Nat => [(3, .row 0), (10, (.v (.int .i64 i)))]) (fun i => []) (fun i => []) (fun i => [.own 3 1 ((dL a b (i * (b.length + 1))).map eI)]) (fun i => i ≤ a.length + 1) (fun i => a.length + 1 - i) (0) (by simp only [sx2, encs, sxR, sevalprocAttr] <;> (try simp [dL, encs]) <;> (try omega)) ?_ ?_
 ·omega
 rintro i hi
 simp only [↓sx0, sxE, encs, sevalprocAttr]
 refine BrW.dec (fun hlt => ?_) (fun hlt => ?_)
 ·simp only [↓sx0, sxE, encs, sevalprocAttr]
  repeat ((with_reducible refine Vc.go ?_ fun _ => ?_); (focus (first | omega | (simp only [InK]; omega) | (simp [InK]; done) | (simp [InK]; omega))); simp only [↓sx0, sxE, encs, sevalprocAttr])
  refine LoopW.comp [1, 3, 4, 9, 10, 16, 17] (by simp only [sx2, encs, sxR, sevalprocAttr] <;> (try simp) <;> (try omega)) ?_
  simp only [sx2, sxR, sevalprocAttr]
  refine LoopW.up Tok (fun k : Nat => [(3, .row 0), (17, (.v (.int .i64 k)))]) (fun k => []) (fun k => [(0, (dL a b (atN b.length i k)).map eI)]) (fun k => []) (fun k => k ≤ b.length + 1) (fun k => b.length + 1 - k) (0) (by simp only [sx2, encs, sxR, sevalprocAttr] <;> (try simp [atN, encs]) <;> (try omega)) ?_ ?_
  ·omega
  rintro k hk
  simp only [↓sx0, sxE, encs, sevalprocAttr]
  refine BrW.dec (fun hlt2 => ?_) (fun hlt2 => ?_)
  ·simp only [↓sx0, sxE, encs, sevalprocAttr]
   have hi2 : i ≤ a.length := by omega
   have hk2 : k ≤ b.length := by omega
   have hx : atN b.length i k < (a.length + 1) * (b.length + 1) := atN_lt hi2 hk2
   have hm2 := Nat.mul_le_mul_right (b.length + 1) (show a.length + 1 ≤ 41 by omega)
   have hbo := bound_s false a b (dL a b (atN b.length i k)) i k hi2 hk2 (by omega) (by omega) (fun p hp => by
    have h := stN_mem hp
    rw [dL_len]
    exact at_lt (by omega) h.1 h.2.1 h.2.2.1) (dL_v hb (by omega))
   rw [bd_dst (by omega) hk2 hb (Nat.le_refl _)] at hbo
   have hsu := dL_succ (a := a) (b := b) (i := i) hk2
   have hat : atN b.length i (k + 1) = atN b.length i k + 1 := by unfold atN; omega
   have hll := dL_len a b (atN b.length i k)
   refine CallI.fn (hbo) (by simp only [sx3, encs, sxR, sevalprocAttr] <;> (try simp) <;> (try rfl)) ?_
   simp only [↓sx0, sxE, encs, sevalprocAttr]
   repeat ((with_reducible refine Vc.go ?_ fun _ => ?_); (focus (first | omega | (simp only [InK]; omega) | (simp [InK]; done) | (simp [InK]; omega))); simp only [↓sx0, sxE, encs, sevalprocAttr])
   refine ⟨k + 1, StLe.auto (by simp only [sx2, encs, sxR, sevalprocAttr] <;> (try simp [hat, hsu, encs]) <;> (try omega)), ?_, ?_⟩
   ·omega
   ·omega
  ·have hke : k = b.length + 1 := by omega
   subst hke
   have hat : atN b.length i (b.length + 1) = (i + 1) * (b.length + 1) := by unfold atN; rw [Nat.add_mul]; omega
   rw [hat]
   simp only [↓sx0, sxE, encs, sevalprocAttr]
   repeat ((with_reducible refine Vc.go ?_ fun _ => ?_); (focus (first | omega | (simp only [InK]; omega) | (simp [InK]; done) | (simp [InK]; omega))); simp only [↓sx0, sxE, encs, sevalprocAttr])
   refine ⟨i + 1, StLe.auto (by simp only [sx2, encs, sxR, sevalprocAttr] <;> (try simp) <;> (try omega)), ?_, ?_⟩
   ·omega
   ·omega
 ·have hie : i = a.length + 1 := by omega
  subst hie
  simp only [↓sx0, sxE, encs, sevalprocAttr]
  refine EndW.fn ?_ ?_ <;> simp only [sx4, encs, kpLL_map, sxR, sevalprocAttr] <;> (try simp [nLab]) <;> (try omega)
end Go.Proofs.Ytmiibjncomgneaa
/-
 Chapter 8, walks: the least edits.
-/
namespace Go.Proofs.Ytmiibjncomgneaa
open Go Go.Vx
set_option linter.unusedSimpArgs false
set_option linter.unusedVariables false
set_option maxRecDepth 20000
def fitB (a b : List ByteArray) (i k : Nat) (p : (Nat × Nat) × Int) : Bool := decide (dst a b p.1.1 p.1.2 + p.2 = dst a b i k)
def edOf (i k : Nat) (p : (Nat × Nat) × Int) : Ed := ⟨if p.1.1 = i then -1 else (p.1.1 : Int), if p.1.2 = k then -1 else (p.1.2 : Int)⟩
/-- edits of least cost, the last one first. -/
def edB (a b : List ByteArray) : Nat → Nat → Nat → List Ed
 | 0, _, _ => []
 | f + 1, i, k => if i = 0 ∧ k = 0 then [] else match (stN a b i k).find? (fitB a b i k) with
  | some p => edOf i k p :: edB a b f p.1.1 p.1.2
  | none => []
theorem fit_ex (a b : List ByteArray) (i k : Nat) (h : ¬ (i = 0 ∧ k = 0)) : ∃ p ∈ stN a b i k, fitB a b i k p = true := by
 rcases i with _ | i
 ·rcases k with _ | k
  ·exact absurd ⟨rfl, rfl⟩ h
  ·exact ⟨((0, k), 1), by simp [stN], by simp [fitB, dst]⟩
 ·rcases k with _ | k
  ·exact ⟨((i, 0), 1), by simp [stN], by simp [fitB, dst]⟩
  ·have e : stN a b (i + 1) (k + 1) = [((i, k), chN a b i k), ((i, k + 1), 1), ((i + 1, k), 1)] := by simp [stN, chN]
   rw [e]
   have hd : dst a b (i + 1) (k + 1) = min (min (dst a b i k + chN a b i k) (dst a b i (k + 1) + 1)) (dst a b (i + 1) k + 1) := by rw [dst]
   by_cases h1 : dst a b i k + chN a b i k = dst a b (i + 1) (k + 1)
   ·exact ⟨((i, k), chN a b i k), by simp, by simp only [fitB]; exact decide_eq_true h1⟩
   ·by_cases h2 : dst a b i (k + 1) + 1 = dst a b (i + 1) (k + 1)
    ·exact ⟨((i, k + 1), 1), by simp, by simp only [fitB]; exact decide_eq_true h2⟩
    ·exact ⟨((i + 1, k), 1), by simp, by simp only [fitB]; exact decide_eq_true (by omega)⟩
structure EB where
 i : Nat
 k : Nat
 out : List Ed
theorem find_at {α : Type} {p : α → Bool} {l : List α} {n : Nat} (h : n < l.length) (hp : p l[n] = true) (hb : ∀ j (_ : j < n) (h2 : j < l.length), p l[j] = false) : l.find? p = some l[n] := by
 rw [List.find?_eq_some_iff_getElem]
 exact ⟨hp, n, h, rfl, fun j hj => by simpa using hb j hj (by omega)⟩
set_option maxHeartbeats 16000000 in
theorem edits_s (a b : List ByteArray) (ha : a.length ≤ 40) (hb : b.length ≤ 40) : Ctr Try.prog 26 [gV true true a b, .sl true 1 ((dL a b (nLab a b)).map eI)] (fun rr => rr = ⟨.sl true 2 ((edB a b (a.length + b.length) a.length b.length).reverse.map eE), []⟩) := by
 have encs := And.intro encs (And.intro (show ∀ a b i k, stC a b i k = [.pt true [(.v (.int .i64 ((i : Int))))], .pt true [(.v (.int .i64 ((k : Int))))], .pt true [.sl true 1 (a.map eS), .sl true 1 (b.map eS)]] from fun _ _ _ _ => rfl) (show ∀ b1 b2 a b, gV b1 b2 a b = .agg [.sl b1 1 (a.map eS), .sl b2 1 (b.map eS)] from fun _ _ _ _ => rfl))
 refine Ctr.of (rs := [.tmp 4]) Tok true Try.func26 rfl rfl rfl rfl (by simp [ofDL]) (fun w0 kp => ?_)
 simp only [↓sx0, sxE, encs, sevalprocAttr]
 refine LoopW.comp [2, 3, 5, 6, 7, 8, 9, 26, 27, 28, 29, 30, 31, 32, 33, 34, 35, 36, 37, 38, 39, 40, 41, 42, 43, 44, 45, 46, 47, 48, 49, 50, 51, 52, 53, 54, 55, 56, 57, 58, 59, 60, 61, 62, 63, 64, 65, 66, 67, 68, 69, 70] (by simp only [sx2, encs, sxR, sevalprocAttr] <;> (try simp) <;> (try omega)) ?_
 simp only [sx2, sxR, sevalprocAttr]
 refine LoopW.up Tok (fun s : EB => []) (fun s => [(2, [.row 0]), (3, [(.v (.int .i64 ((s.i : Int)))), (.v (.int .i64 ((s.k : Int))))])]) (fun s => []) (fun s => [.own 63 2 (s.out.map eE)]) (fun s => (s.i ≤ a.length ∧ s.k ≤ b.length ∧ s.out.length + s.i + s.k ≤ a.length + b.length) ∧ ∃ f, s.i + s.k ≤ f ∧ s.out ++ edB a b f s.i s.k = edB a b (a.length + b.length) a.length b.length) (fun s => s.i + s.k) (⟨a.length, b.length, []⟩) (by simp only [sx2, encs, sxR, sevalprocAttr] <;> (try simp) <;> (try omega)) ?_ ?_
 ·exact ⟨⟨by simp, by simp, by simp⟩, _, Nat.le_refl _, rfl⟩
 rintro ⟨i, k, out⟩ ⟨⟨h1, h2, h3⟩, f, hf, hF⟩
 simp only at h1 h2 h3 hf hF
 simp only [↓sx0, sxE, encs, sevalprocAttr]
 refine BrW.dec (fun hne => ?_) (fun heq => ?_)
 ·have hz : ¬ (i = 0 ∧ k = 0) := fun h => hne (by rw [h.1, h.2]; rfl)
  have hst := steps_s a b i k
  have hit := stepsIt_s a b i k h1 h2 (by omega) (by omega)
  have hna : nLab a b = (a.length + 1) * (b.length + 1) := rfl
  have hll := dL_len a b (nLab a b)
  have hati := at_s true true a b i k (by omega) (by omega) (by omega)
  have hix := atN_lt (na := a.length) (nb := b.length) h1 h2
  have hgi := dL_get (a := a) (b := b) (n := nLab a b) (i := i) h2 (by omega)
  have hix2 : atN b.length i k < (dL a b (nLab a b)).length := by omega
  have hgi2 : (dL a b (nLab a b))[atN b.length i k] = dst a b i k := by rw [← hgi]; simp [List.getD_eq_getElem?_getD, hix2]
  have hdb := dst_b a b i k
  simp only [↓sx0, sxE, encs, sevalprocAttr]
  repeat ((with_reducible refine Vc.go trivial fun _ => ?_); simp only [↓sx0, sxE, encs, sevalprocAttr])
  refine CallI.fn (hst) (by simp only [sx3, encs, sxR, sevalprocAttr] <;> (try simp) <;> (try rfl)) ?_
  simp only [↓sx0, sxE, encs, sevalprocAttr]
  refine RangeW.it Tok (fun _ => rfl) (fun hro => by first | rfl | exact (by rw [hro] at *; contradiction)) (hit) [(2, .box 0 0), (3, .box 1 0), (5, .box 2 0), (6, .box 3 0), (25, .clo 56 (stC a b i k))] (fun ys => [some ⟨59, [.sl true 1 (a.map eS), .sl true 1 (b.map eS)]⟩, some ⟨39, [.sl true 1 ((dL a b (nLab a b)).map eI)]⟩, some ⟨38, [.row 0]⟩, some ⟨76, [(.v (.int .i64 ((i : Int)))), (.v (.int .i64 ((k : Int))))]⟩]) (fun ys => [.own 63 2 (out.map eE)]) (fun ys => ∀ n (h : n < ys.length) (h2 : n < (stN a b i k).length), fitB a b i k (stN a b i k)[n] = false) (fun n h => absurd h (Nat.not_lt_zero _)) (by simp only [sx2, encs, sxR, sevalprocAttr] <;> (try simp) <;> (try omega)) rfl rfl (by intro d hd; obtain ⟨p, -, rfl⟩ := List.mem_map.1 hd; rfl) ?_ (fun hJall => ?_)
  ·rintro pre d hpre hJ ρ σ μ ho' hy hs
   obtain ⟨q, hq⟩ := hpre
   have hn : pre.length < (stN a b i k).length := by
    have := congrArg List.length hq
    simp at this; omega
   have hd : d = fY (stN a b i k)[pre.length] := by
    have : ((stN a b i k).map fY)[pre.length]? = some d := by rw [← hq]; simp
    simpa [List.getElem?_eq_getElem hn, eq_comm] using this
   subst hd
   obtain ⟨yd', ro, mks, fr, lp, sz⟩ := ho'
   have hpm := List.getElem_mem hn
   have hpb := stN_mem hpm
   have hlen : (pre ++ [fY (stN a b i k)[pre.length]]).length = pre.length + 1 := by simp
   have hnext : fitB a b i k (stN a b i k)[pre.length] = false → ∀ n (h : n < (pre ++ [fY (stN a b i k)[pre.length]]).length) (h2 : n < (stN a b i k).length), fitB a b i k (stN a b i k)[n] = false := fun h0 n h h2 => by
    rw [hlen] at h
    by_cases e : n = pre.length
    ·subst e; exact h0
    ·exact hJ n (by omega) h2
   have hfnd : fitB a b i k (stN a b i k)[pre.length] = true → (stN a b i k).find? (fitB a b i k) = some (stN a b i k)[pre.length] := fun h0 => find_at hn h0 hJ
   generalize (stN a b i k)[pre.length] = p at hpb hnext hfnd ⊢
   obtain ⟨⟨p1, p2⟩, c⟩ := p
   simp only at hpb
   have hatp := at_s true true a b p1 p2 (by omega) (by omega) (by omega)
   have hixp := atN_lt (na := a.length) (nb := b.length) (i := p1) (k := p2) (by omega) (by omega)
   have hgp := dL_get (a := a) (b := b) (n := nLab a b) (i := p1) (k := p2) (by omega) (by omega)
   have hixp2 : atN b.length p1 p2 < (dL a b (nLab a b)).length := by omega
   have hgp2 : (dL a b (nLab a b))[atN b.length p1 p2] = dst a b p1 p2 := by rw [← hgp]; simp [List.getD_eq_getElem?_getD, hixp2]
   have hdp := dst_b a b p1 p2
   have hfy : fY ((p1, p2), c) = [.agg [(.v (.int .i64 ((p1 : Int)))), (.v (.int .i64 ((p2 : Int))))], (.v (.int .i64 c))] := rfl
   rw [hfy] at hnext ⊢
   simp only [↓sx0, sxE, encs, sevalprocAttr]
   intro fr'
   refine DrawW.plan Tok mixed (.q 0 <| .q 1 <| .q 2 <| .q 3 <| .q 4 <| .q 5 <| .q 9 <| .q 11 <| .q 12 <| .q 13 <| .q 14 <| .q 15 <| .q 16 <| .e 6 [0, 11, 12, 14, 16] <| .q 7 <| .q 8 <| .q 10 <| .e 17 [0, 8, 11] <| .q 18 <| .q 19 <| .q 20 <| .done) (by kernel_rfl) (by kernel_rfl) ?_
   simp only [↓sx0, sxE, encs, sevalprocAttr]
   repeat ((with_reducible refine Vc.go ?_ fun _ => ?_); (focus (first | omega | (simp only [InK]; omega) | (simp [InK]; done) | (simp [InK]; omega))); simp only [↓sx0, sxE, encs, sevalprocAttr])
   refine CallI.fn (hatp) (by simp only [sx3, encs, sxR, sevalprocAttr] <;> (try simp) <;> (try rfl)) ?_
   simp only [↓sx0, sxE, encs, sevalprocAttr]
   refine IxW.nat hixp2 ?_
   simp only [↓sx0, sxE, encs, sevalprocAttr]
   rw [hgp2]
   repeat ((with_reducible refine Vc.go ?_ fun _ => ?_); (focus (first | omega | (simp only [InK]; omega) | (simp [InK]; done) | (simp [InK]; omega))); simp only [↓sx0, sxE, encs, sevalprocAttr])
   refine CallI.fn (hati) (by simp only [sx3, encs, sxR, sevalprocAttr] <;> (try simp) <;> (try rfl)) ?_
   simp only [↓sx0, sxE, encs, sevalprocAttr]
   refine IxW.nat hix2 ?_
   simp only [↓sx0, sxE, encs, sevalprocAttr]
   rw [hgi2]
   refine BrW.dec (fun hnf => ?_) (fun hnf => ?_)
   ·have hfalse : fitB a b i k ((p1, p2), c) = false := by rw [fitB]; exact decide_eq_false hnf
    simp only [↓sx0, sxE, encs, sevalprocAttr]
    refine ⟨fun n hn2 h2 => hnext hfalse n (by simpa using hn2) h2, ?_⟩
    simp only [sx2, encs, sxR, sevalprocAttr] <;> (try simp) <;> (try omega)
   ·have hnf := Decidable.not_not.1 hnf
    have htrue : fitB a b i k ((p1, p2), c) = true := by rw [fitB]; exact decide_eq_true hnf
    obtain ⟨f', rfl⟩ : ∃ f', f = f' + 1 := ⟨f - 1, by omega⟩
    have hstep : edB a b (f' + 1) i k = edOf i k ((p1, p2), c) :: edB a b f' p1 p2 := by rw [edB, if_neg hz, hfnd htrue]
    simp only [↓sx0, sxE, encs, sevalprocAttr]
    repeat ((with_reducible refine Vc.go trivial fun _ => ?_); simp only [↓sx0, sxE, encs, sevalprocAttr])
    refine BrW.dec (fun e1 => ?_) (fun e1 => ?_)
    ·simp only [↓sx0, sxE, encs, sevalprocAttr]
     repeat ((with_reducible refine Vc.go trivial fun _ => ?_); simp only [↓sx0, sxE, encs, sevalprocAttr])
     refine BrW.dec (fun e2 => ?_) (fun e2 => ?_)
     ·simp only [↓sx0, sxE, encs, sevalprocAttr]
      have hx : edOf i k ((p1, p2), c) = ⟨-1, -1⟩ := by rw [edOf]; simp only; rw [if_pos (by omega), if_pos (by omega)]
      rw [hx] at hstep
      refine DrawW.plan Tok mixed (.q 0 <| .q 1 <| .q 4 <| .e 2 [0, 4] <| .e 3 [4] <| .e 5 [4] <| .e 6 [] <| .done) (by kernel_rfl) (by kernel_rfl) ?_
      simp only [↓sx0, sxE, encs, sevalprocAttr]
      repeat ((with_reducible refine Vc.go ?_ fun _ => ?_); (focus (first | omega | (simp only [InK]; omega) | (simp [InK]; done) | (simp [InK]; omega))); simp only [↓sx0, sxE, encs, sevalprocAttr])
      refine ⟨⟨p1, p2, out ++ [⟨-1, -1⟩]⟩, StLe.auto (by simp only [sx2, encs, sxR, sevalprocAttr] <;> (try simp [eE, encs]) <;> (try omega)), ?_, ?_⟩
      ·exact ⟨⟨by simp only; omega, by simp only; omega, by simp; omega⟩, f', by simp only; omega, by rw [← hF, hstep]; simp⟩
      ·simp only; omega
     ·simp only [↓sx0, sxE, encs, sevalprocAttr]
      have hx : edOf i k ((p1, p2), c) = ⟨-1, (p2 : Int)⟩ := by rw [edOf]; simp only; rw [if_pos (by omega), if_neg (by omega)]
      rw [hx] at hstep
      refine DrawW.plan Tok mixed (.q 0 <| .q 1 <| .q 4 <| .e 2 [0, 4] <| .e 3 [4] <| .e 5 [4] <| .e 6 [] <| .done) (by kernel_rfl) (by kernel_rfl) ?_
      simp only [↓sx0, sxE, encs, sevalprocAttr]
      repeat ((with_reducible refine Vc.go ?_ fun _ => ?_); (focus (first | omega | (simp only [InK]; omega) | (simp [InK]; done) | (simp [InK]; omega))); simp only [↓sx0, sxE, encs, sevalprocAttr])
      refine ⟨⟨p1, p2, out ++ [⟨-1, (p2 : Int)⟩]⟩, StLe.auto (by simp only [sx2, encs, sxR, sevalprocAttr] <;> (try simp [eE, encs]) <;> (try omega)), ?_, ?_⟩
      ·exact ⟨⟨by simp only; omega, by simp only; omega, by simp; omega⟩, f', by simp only; omega, by rw [← hF, hstep]; simp⟩
      ·simp only; omega
    ·simp only [↓sx0, sxE, encs, sevalprocAttr]
     repeat ((with_reducible refine Vc.go trivial fun _ => ?_); simp only [↓sx0, sxE, encs, sevalprocAttr])
     refine BrW.dec (fun e2 => ?_) (fun e2 => ?_)
     ·simp only [↓sx0, sxE, encs, sevalprocAttr]
      have hx : edOf i k ((p1, p2), c) = ⟨(p1 : Int), -1⟩ := by rw [edOf]; simp only; rw [if_neg (by omega), if_pos (by omega)]
      rw [hx] at hstep
      refine DrawW.plan Tok mixed (.q 0 <| .q 1 <| .q 4 <| .e 2 [0, 4] <| .e 3 [4] <| .e 5 [4] <| .e 6 [] <| .done) (by kernel_rfl) (by kernel_rfl) ?_
      simp only [↓sx0, sxE, encs, sevalprocAttr]
      repeat ((with_reducible refine Vc.go ?_ fun _ => ?_); (focus (first | omega | (simp only [InK]; omega) | (simp [InK]; done) | (simp [InK]; omega))); simp only [↓sx0, sxE, encs, sevalprocAttr])
      refine ⟨⟨p1, p2, out ++ [⟨(p1 : Int), -1⟩]⟩, StLe.auto (by simp only [sx2, encs, sxR, sevalprocAttr] <;> (try simp [eE, encs]) <;> (try omega)), ?_, ?_⟩
      ·exact ⟨⟨by simp only; omega, by simp only; omega, by simp; omega⟩, f', by simp only; omega, by rw [← hF, hstep]; simp⟩
      ·simp only; omega
     ·simp only [↓sx0, sxE, encs, sevalprocAttr]
      have hx : edOf i k ((p1, p2), c) = ⟨(p1 : Int), (p2 : Int)⟩ := by rw [edOf]; simp only; rw [if_neg (by omega), if_neg (by omega)]
      rw [hx] at hstep
      refine DrawW.plan Tok mixed (.q 0 <| .q 1 <| .q 4 <| .e 2 [0, 4] <| .e 3 [4] <| .e 5 [4] <| .e 6 [] <| .done) (by kernel_rfl) (by kernel_rfl) ?_
      simp only [↓sx0, sxE, encs, sevalprocAttr]
      repeat ((with_reducible refine Vc.go ?_ fun _ => ?_); (focus (first | omega | (simp only [InK]; omega) | (simp [InK]; done) | (simp [InK]; omega))); simp only [↓sx0, sxE, encs, sevalprocAttr])
      refine ⟨⟨p1, p2, out ++ [⟨(p1 : Int), (p2 : Int)⟩]⟩, StLe.auto (by simp only [sx2, encs, sxR, sevalprocAttr] <;> (try simp [eE, encs]) <;> (try omega)), ?_, ?_⟩
      ·exact ⟨⟨by simp only; omega, by simp only; omega, by simp; omega⟩, f', by simp only; omega, by rw [← hF, hstep]; simp⟩
      ·simp only; omega
  ·exfalso
   obtain ⟨p, hp, hfp⟩ := fit_ex a b i k hz
   obtain ⟨n, hn, rfl⟩ := List.getElem_of_mem hp
   have := hJall n (by simpa using hn) hn
   rw [this] at hfp; cases hfp
 ·have hz : i = 0 ∧ k = 0 := by simpa using heq
  obtain ⟨rfl, rfl⟩ := hz
  have hb0 : edB a b f 0 0 = [] := by cases f <;> simp [edB]
  rw [hb0, List.append_nil] at hF
  have hol : out.length ≤ 80 := by omega
  rw [← hF]
  generalize out = l at hol ⊢
  simp only [↓sx0, sxE, encs, sevalprocAttr]
  refine CallI.inl (rs := []) Tok Try.func43 rfl rfl rfl rfl (by simp) (fun ρ σ μ fr lp => ?_)
  simp only [↓sx0, sxE, encs, sevalprocAttr]
  (with_reducible refine Vc.go ?_ fun _ => ?_); focus (first | omega | (simp only [InK]; omega) | (simp [InK]; done) | (simp [InK]; omega))
  simp only [↓sx0, sxE, encs, sevalprocAttr]
  refine LoopW.comp [0, 2, 3] (by simp only [sx2, encs, sxR, sevalprocAttr] <;> (try simp) <;> (try omega)) ?_
  simp only [sx2, sxR, sevalprocAttr]
  refine LoopW.up Tok (fun i : Nat => [(2, (.v (.int .i64 i))), (3, (.v (.int .i64 ((l.length : Int) - 1 - i))))]) (fun i => []) (fun i => [(0, (rv l i).map eE)]) (fun i => []) (fun i => 2 * i ≤ l.length) (fun i => l.length - i) (0) (by simp only [sx2, encs, sxR, sevalprocAttr] <;> (try simp [rv_zero, encs]) <;> (try omega)) ?_ ?_
  ·omega
  ·intro i hi
   simp only [↓sx0, sxE, encs, sevalprocAttr]
   refine BrW.dec (fun hlt => ?_) (fun hlt => ?_)
   ·simp only [↓sx0, sxE, encs, sevalprocAttr]
    have hj : i < l.length := by omega
    have hj2 : l.length - 1 - i < l.length := by omega
    have ej : ((l.length : Int) - 1 - i).toNat = l.length - 1 - i := by omega
    have g1 : (rv l i)[l.length - 1 - i]? = some l[l.length - 1 - i] := by rw [rv_at l i _ hj2 (by omega) (by omega), List.getElem?_eq_getElem hj2]
    have g2 : (rv l i)[i]? = some l[i] := by rw [rv_at l i _ hj (by omega) (by omega), List.getElem?_eq_getElem hj]
    have hst := rv_step l i (by omega)
    have h1 : ((rv l i).map eE).modify ((i : Int)).toNat (modE · 0 (eE l[l.length - 1 - i])) = ((rv l i).set i l[l.length - 1 - i]).map eE := by rw [Int.toNat_natCast]; exact modify_map g2 _ rfl
    have h2 : (((rv l i).set i l[l.length - 1 - i]).map eE).modify ((l.length : Int) - 1 - i).toNat (modE · 0 (eE l[i])) = (rv l (i + 1)).map eE := by
     rw [ej, ← hst]; exact modify_map (x := l[l.length - 1 - i]) (by rw [List.getElem?_set, if_neg (by omega)]; exact g1) _ rfl
    simp only [encs] at h1 h2
    refine DrawW.plan Tok mixed (.q 0 <| .q 1 <| .q 2 <| .q 3 <| .q 4 <| .q 5 <| .q 6 <| .q 7 <| .q 8 <| .q 9 <| .q 10 <| .q 11 <| .q 12 <| .e 13 [] <| .q 14 <| .e 15 [] <| .done) (by kernel_rfl) (by kernel_rfl) ?_
    simp only [↓sx0, sxE, encs, sevalprocAttr]
    (with_reducible refine Vc.go ?_ fun _ => ?_); focus (first | omega | (simp only [InK]; omega) | (simp [rv_length, InK]; done) | (simp [rv_length, InK]; omega))
    simp only [↓sx0, sxE, encs, sevalprocAttr]
    refine IxW.map l[l.length - 1 - i] (by omega) (by rw [ej]; exact g1) ?_
    simp only [↓sx0, sxE, encs, sevalprocAttr]
    (with_reducible refine Vc.go ?_ fun _ => ?_); focus (first | omega | (simp only [InK]; omega) | (simp [rv_length, InK]; done) | (simp [rv_length, InK]; omega))
    simp only [↓sx0, sxE, encs, sevalprocAttr]
    refine IxW.map l[i] (by omega) (by simpa using g2) ?_
    simp only [↓sx0, sxE, encs, sevalprocAttr]
    (with_reducible refine Vc.go ?_ fun _ => ?_); focus (first | omega | (simp only [InK]; omega) | (simp [rv_length, InK]; done) | (simp [rv_length, InK]; omega))
    simp only [↓sx0, sxE, encs, sevalprocAttr]
    (with_reducible refine Vc.go ?_ fun _ => ?_); focus (first | omega | (simp only [InK]; omega) | (simp [rv_length, InK]; done) | (simp [rv_length, InK]; omega))
    simp only [↓sx0, sxE, encs, sevalprocAttr]
    (with_reducible refine Vc.go ?_ fun _ => ?_); focus (first | omega | (simp only [InK]; omega) | (simp [rv_length, InK]; done) | (simp [rv_length, InK]; omega))
    simp only [↓sx0, sxE, encs, sevalprocAttr]
    (with_reducible refine Vc.go ?_ fun _ => ?_); focus (first | omega | (simp only [InK]; omega) | (simp [rv_length, InK]; done) | (simp [rv_length, InK]; omega))
    simp only [↓sx0, sxE, encs, sevalprocAttr]
    (with_reducible refine Vc.go ?_ fun _ => ?_); focus (first | omega | (simp only [InK]; omega) | (simp [InK]; done) | (simp [InK]; omega))
    simp only [↓sx0, sxE, encs, sevalprocAttr]
    (with_reducible refine Vc.go ?_ fun _ => ?_); focus (first | omega | (simp only [InK]; omega) | (simp [InK]; done) | (simp [InK]; omega))
    simp only [↓sx0, sxE, encs, sevalprocAttr]
    rw [h1, h2]
    refine ⟨i + 1, StLe.auto (by simp only [sx2, encs, sxR, sevalprocAttr] <;> (try simp) <;> (try omega)), ?_, ?_⟩
    ·omega
    ·omega
   ·simp only [↓sx0, sxE, encs, sevalprocAttr]
    rw [rv_end l i (by omega) (by omega)]
    refine EndW.fn ?_ ?_ <;> simp only [sx4, encs, kpLL_map, sxR, sevalprocAttr] <;> (try simp) <;> (try omega)
end Go.Proofs.Ytmiibjncomgneaa
