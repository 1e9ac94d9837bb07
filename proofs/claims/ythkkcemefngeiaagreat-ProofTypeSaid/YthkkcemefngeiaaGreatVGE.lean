/-
 Chapter 8, walks: pairs that are kept.
-/
import Derived.Test.YthkkcemefngeiaaGreatVGA
import Derived.Test.YthkkcemefngeiaaGreatVGB
import Derived.Test.YthkkcemefngeiaaGreatVGD
namespace Go.Proofs.YthkkcemefngeiaaGreat
open Go Go.Vx
set_option linter.unusedSimpArgs false
set_option linter.unusedVariables false
set_option maxRecDepth 20000
theorem checkSorts_s (b1 b2 : Bool) (a b : List Int) : Ctr Tryz.prog 23 [.sl b1 1 (a.map eI), .sl b2 1 (b.map eI)] (fun rr => rr = ⟨(.v (.int .i64 (if a.length ≤ 300 ∧ b.length ≤ 300 then 0 else 8))), []⟩) := by
 refine Ctr.of (rs := [.tmp 4]) Tok true Tryz.func23 rfl rfl rfl rfl (by simp [ofDL]) (fun w0 kp => ?_)
 simp only [↓sx0, sxE, encs, sevalprocAttr]
 refine BrW.dec (fun h1 => ?_) (fun h1 => ?_)
 ·rw [if_neg (by omega)]
  simp only [↓sx0, sxE, encs, sevalprocAttr]
  repeat ((with_reducible refine BrW.yes (by omega) ?_); simp only [↓sx0, sxE, encs, sevalprocAttr])
  refine EndW.fn ?_ ?_ <;> simp only [sx4, encs, kpLL_map, sxR, sevalprocAttr] <;> (try simp) <;> (try omega)
 ·simp only [↓sx0, sxE, encs, sevalprocAttr]
  repeat ((with_reducible refine BrW.no (by omega) ?_); simp only [↓sx0, sxE, encs, sevalprocAttr])
  refine BrW.dec (fun h2 => ?_) (fun h2 => ?_)
  ·rw [if_neg (by omega)]
   simp only [↓sx0, sxE, encs, sevalprocAttr]
   refine EndW.fn ?_ ?_ <;> simp only [sx4, encs, kpLL_map, sxR, sevalprocAttr] <;> (try simp) <;> (try omega)
  ·rw [if_pos (by omega)]
   simp only [↓sx0, sxE, encs, sevalprocAttr]
   refine EndW.fn ?_ ?_ <;> simp only [sx4, encs, kpLL_map, sxR, sevalprocAttr] <;> (try simp) <;> (try omega)
def eJ (p : Nat × Nat) : List D := [(.v (.int .i64 ((p.1 : Int)))), (.v (.int .i64 ((p.2 : Int))))]
/-- the first place in b from f on that is kept with place i of a. -/
def keP (a b : List Int) (i f k : Nat) : Bool := match a[i]?, b[k]? with
 | some x, some y => decide (x = y) && decide (tl a b (i + 1) (k + 1) + 1 = tl a b i f)
 | _, _ => false
def keF (a b : List Int) (i f : Nat) : Nat → Nat → Option Nat
 | 0, _ => none
 | n + 1, k => if keP a b i f k = true then some k else keF a b i f n (k + 1)
def keN (a b : List Int) (i f : Nat) : Option Nat := keF a b i f (b.length - f) f
/-- the pairs of the first i places, and where to go on. -/
def keS : (a b : List Int) → Nat → List (Nat × Nat) × Nat
 | _, _, 0 => ([], 0)
 | a, b, i + 1 => match keN a b i (keS a b i).2 with
  | none => keS a b i
  | some k => ((keS a b i).1 ++ [(i, k)], k + 1)
theorem keF_b (a b : List Int) (i f : Nat) : ∀ n k j, keF a b i f n k = some j → k ≤ j ∧ j < k + n
 | 0, _, _, h => by simp [keF] at h
 | n + 1, k, j, h => by
  unfold keF at h
  split at h
  ·cases h; omega
  ·have := keF_b a b i f n (k + 1) j h; omega
theorem keS_b (a b : List Int) : ∀ i, (keS a b i).2 ≤ b.length ∧ (keS a b i).1.length ≤ i
 | 0 => by simp [keS]
 | i + 1 => by
  have h := keS_b a b i
  simp only [keS]
  split
  ·omega
  ·rename_i k hk
   have := keF_b a b i _ _ _ _ hk
   simp only [List.length_append, List.length_cons, List.length_nil]
   omega
def keptL (a b : List Int) : List (Nat × Nat) := (keS a b a.length).1
theorem tab0_get {a b : List Int} {r : Nat} (h : r < a.length + 1) : (tabT a b 0)[r]? = some [.sl true 1 ((rowT a b r).map eI)] := by rw [tabT_get h, if_pos (by omega)]
def keptV (a b : List Int) : List (Nat × Nat) × Int := if a.length ≤ 300 ∧ b.length ≤ 300 then (keptL a b, 0) else ([], 8)
set_option maxHeartbeats 8000000 in
theorem kept_s (b1 b2 : Bool) (a b : List Int) : Ctr Tryz.prog 9 [.sl b1 1 (a.map eI), .sl b2 1 (b.map eI)] (fun rr => rr = ⟨.tup [.sl true 2 ((keptV a b).1.map eJ), (.v (.int .i64 ((keptV a b).2)))], []⟩) := by
 have encs := And.intro encs (show ∀ p, eJ p = [(.v (.int .i64 ((p.1 : Int)))), (.v (.int .i64 ((p.2 : Int))))] from fun _ => rfl)
 have hcs := checkSorts_s b1 b2 a b
 refine Ctr.of (rs := [.tmp 4, .tmp 5]) Tok true Tryz.func9 rfl rfl rfl rfl (by simp [ofDL]) (fun w0 kp => ?_)
 simp only [↓sx0, sxE, encs, sevalprocAttr]
 by_cases hs : a.length ≤ 300 ∧ b.length ≤ 300
 ·rw [if_pos hs] at hcs
  rw [show keptV a b = (keptL a b, 0) by rw [keptV, if_pos hs]]
  refine CallI.fn (hcs) (by simp only [sx3, encs, sxR, sevalprocAttr] <;> (try simp) <;> (try rfl)) ?_
  simp only [↓sx0, sxE, encs, sevalprocAttr]
  refine BrW.no (by simp) ?_
  simp only [↓sx0, sxE, encs, sevalprocAttr]
  refine CallI.fn (tails_s b1 b2 a b (by omega) (by omega)) (by simp only [sx3, encs, sxR, sevalprocAttr] <;> (try simp) <;> (try rfl)) ?_
  simp only [↓sx0, sxE, encs, sevalprocAttr]
  refine LoopW.comp [1, 7, 8, 9, 22, 23, 24] (by simp only [sx2, encs, sxR, sevalprocAttr] <;> (try simp) <;> (try omega)) ?_
  simp only [sx2, sxR, sevalprocAttr]
  refine LoopW.up Tok (fun i : Nat => [(8, .row 0), (24, (.v (.int .i64 i))), (9, (.v (.int .i64 ((keS a b i).2))))]) (fun i => []) (fun i => []) (fun i => [.own 37 2 ((keS a b i).1.map eJ)]) (fun i => i ≤ a.length) (fun i => a.length - i) (0) (by simp only [sx2, encs, sxR, sevalprocAttr] <;> (try simp [keS, encs]) <;> (try omega)) ?_ ?_
  ·omega
  rintro i hi
  obtain ⟨hb1, hb2⟩ := keS_b a b i
  simp only [↓sx0, sxE, encs, sevalprocAttr]
  refine BrW.dec (fun hlt => ?_) (fun hlt => ?_)
  ·simp only [↓sx0, sxE, encs, sevalprocAttr]
   have hia : i < a.length := by omega
   refine IxW.nat hia ?_
   simp only [↓sx0, sxE, encs, sevalprocAttr]
   generalize hf : (keS a b i).2 = f at hb1 ⊢
   refine LoopW.comp [1, 7, 8, 9, 10, 11, 12, 22, 23, 24] (by simp only [sx2, encs, sxR, sevalprocAttr] <;> (try simp) <;> (try omega)) ?_
   simp only [sx2, sxR, sevalprocAttr]
   refine LoopW.up Tok (fun k : Nat => [(8, .row 0), (12, (.v (.int .i64 k))), (9, (.v (.int .i64 f)))]) (fun k => []) (fun k => []) (fun k => []) (fun k => (f ≤ k ∧ k ≤ b.length) ∧ keF a b i f (b.length - k) k = keN a b i f) (fun k => b.length - k) (f) (by simp only [sx2, encs, sxR, sevalprocAttr] <;> (try simp) <;> (try omega)) ?_ ?_
   ·exact ⟨⟨by omega, by omega⟩, rfl⟩
   rintro k ⟨⟨hfk, hkb⟩, hF⟩
   simp only [↓sx0, sxE, encs, sevalprocAttr]
   refine BrW.dec (fun hlt2 => ?_) (fun hlt2 => ?_)
   ·simp only [↓sx0, sxE, encs, sevalprocAttr]
    have hkb2 : k < b.length := by omega
    have hFs : keF a b i f (b.length - k) k = if keP a b i f k = true then some k else keF a b i f (b.length - (k + 1)) (k + 1) := by rw [show b.length - k = (b.length - (k + 1)) + 1 by omega, keF]
    have hP : keP a b i f k = (decide (a[i] = b[k]) && decide (tl a b (i + 1) (k + 1) + 1 = tl a b i f)) := by simp [keP, hia, hkb2]
    have hno : keP a b i f k = false → keF a b i f (b.length - (k + 1)) (k + 1) = keN a b i f := fun h => by rw [← hF, hFs, if_neg (by rw [h]; simp)]
    have htb := tl_b a b (i + 1) (k + 1)
    refine DrawW.plan Tok mixed (.q 0 <| .q 1 <| .q 2 <| .q 3 <| .q 4 <| .q 5 <| .q 6 <| .q 7 <| .q 8 <| .q 9 <| .q 10 <| .q 11 <| .q 12 <| .q 13 <| .q 14 <| .q 15 <| .q 16 <| .q 17 <| .q 18 <| .q 19 <| .q 20 <| .q 21 <| .q 22 <| .q 23 <| .q 24 <| .q 25 <| .done) (by kernel_rfl) (by kernel_rfl) ?_
    simp only [↓sx0, sxE, encs, sevalprocAttr]
    refine IxW.nat hkb2 ?_
    simp only [↓sx0, sxE, encs, sevalprocAttr]
    refine BrW.dec (fun heq => ?_) (fun heq => ?_)
    ·simp only [↓sx0, sxE, encs, sevalprocAttr]
     repeat ((with_reducible refine Vc.go ?_ fun _ => ?_); (focus (first | omega | (simp only [InK]; omega) | (simp [InK]; done) | (simp [InK]; omega))); simp only [↓sx0, sxE, encs, sevalprocAttr])
     refine ⟨by omega, _, (by rw [show ((i : Int) + 1).toNat = i + 1 by omega]; exact tab0_get (by omega)), ?_⟩
     simp only [↓sx0, sxE, encs, sevalprocAttr]
     repeat ((with_reducible refine Vc.go ?_ fun _ => ?_); (focus (first | omega | (simp only [InK]; omega) | (simp [InK]; done) | (simp [InK]; omega))); simp only [↓sx0, sxE, encs, sevalprocAttr])
     refine ⟨by omega, _, (by rw [show ((k : Int) + 1).toNat = k + 1 by omega]; exact rowT_get a b (i + 1) (k + 1) (by omega)), ?_⟩
     simp only [↓sx0, sxE, encs, sevalprocAttr]
     repeat ((with_reducible refine Vc.go ?_ fun _ => ?_); (focus (first | omega | (simp only [InK]; omega) | (simp [InK]; done) | (simp [InK]; omega))); simp only [↓sx0, sxE, encs, sevalprocAttr])
     refine ⟨by omega, _, (by rw [Int.toNat_natCast]; exact tab0_get (by omega)), ?_⟩
     simp only [↓sx0, sxE, encs, sevalprocAttr]
     refine ⟨by omega, _, (by rw [Int.toNat_natCast]; exact rowT_get a b i f (by omega)), ?_⟩
     simp only [↓sx0, sxE, encs, sevalprocAttr]
     refine BrW.dec (fun h2 => ?_) (fun h2 => ?_)
     ·have hkp : keP a b i f k = true := by rw [hP, heq, h2]; simp
      have hN : keN a b i f = some k := by rw [← hF, hFs, if_pos hkp]
      have hS : keS a b (i + 1) = ((keS a b i).1 ++ [(i, k)], k + 1) := by simp only [keS]; rw [hf, hN]
      simp only [↓sx0, sxE, encs, sevalprocAttr]
      repeat ((with_reducible refine Vc.go ?_ fun _ => ?_); (focus (first | omega | (simp only [InK]; omega) | (simp [InK]; done) | (simp [InK]; omega))); simp only [↓sx0, sxE, encs, sevalprocAttr])
      refine ⟨i + 1, StLe.auto (by simp only [sx2, encs, sxR, sevalprocAttr] <;> (try simp [hS, encs]) <;> (try omega)), ?_, ?_⟩
      ·omega
      ·omega
     ·have hkp : keP a b i f k = false := by rw [hP, decide_eq_false h2]; simp
      simp only [↓sx0, sxE, encs, sevalprocAttr]
      repeat ((with_reducible refine Vc.go ?_ fun _ => ?_); (focus (first | omega | (simp only [InK]; omega) | (simp [InK]; done) | (simp [InK]; omega))); simp only [↓sx0, sxE, encs, sevalprocAttr])
      refine ⟨k + 1, StLe.auto (by simp only [sx2, encs, sxR, sevalprocAttr] <;> (try simp) <;> (try omega)), ?_, ?_⟩
      ·exact ⟨⟨by omega, by omega⟩, hno hkp⟩
      ·omega
    ·have hkp : keP a b i f k = false := by rw [hP, decide_eq_false (fun h => heq h.symm)]; simp
     simp only [↓sx0, sxE, encs, sevalprocAttr]
     repeat ((with_reducible refine Vc.go ?_ fun _ => ?_); (focus (first | omega | (simp only [InK]; omega) | (simp [InK]; done) | (simp [InK]; omega))); simp only [↓sx0, sxE, encs, sevalprocAttr])
     refine ⟨k + 1, StLe.auto (by simp only [sx2, encs, sxR, sevalprocAttr] <;> (try simp) <;> (try omega)), ?_, ?_⟩
     ·exact ⟨⟨by omega, by omega⟩, hno hkp⟩
     ·omega
   ·have hkb3 : k = b.length := by omega
    have hN : keN a b i f = none := by rw [← hF, hkb3, Nat.sub_self, keF]
    have hS : keS a b (i + 1) = keS a b i := by simp only [keS]; rw [hf, hN]
    simp only [↓sx0, sxE, encs, sevalprocAttr]
    repeat ((with_reducible refine Vc.go ?_ fun _ => ?_); (focus (first | omega | (simp only [InK]; omega) | (simp [InK]; done) | (simp [InK]; omega))); simp only [↓sx0, sxE, encs, sevalprocAttr])
    refine ⟨i + 1, StLe.auto (by simp only [sx2, encs, sxR, sevalprocAttr] <;> (try simp [hS, hf, encs]) <;> (try omega)), ?_, ?_⟩
    ·omega
    ·omega
  ·simp only [↓sx0, sxE, encs, sevalprocAttr]
   have hie : i = a.length := by omega
   subst hie
   refine EndW.fn ?_ ?_ <;> simp only [sx4, encs, kpLL_map, sxR, sevalprocAttr] <;> (try simp [keptL]) <;> (try omega)
 ·rw [if_neg hs] at hcs
  rw [show keptV a b = ([], 8) by rw [keptV, if_neg hs]]
  refine CallI.fn (hcs) (by simp only [sx3, encs, sxR, sevalprocAttr] <;> (try simp) <;> (try rfl)) ?_
  simp only [↓sx0, sxE, encs, sevalprocAttr]
  refine EndW.fn ?_ ?_ <;> simp only [sx4, encs, kpLL_map, sxR, sevalprocAttr] <;> (try simp) <;> (try omega)
end Go.Proofs.YthkkcemefngeiaaGreat
/-
 Chapter 8, walks: lists of words.
-/
namespace Go.Proofs.YthkkcemefngeiaaGreat
open Go Go.Vx
set_option linter.unusedSimpArgs false
set_option linter.unusedVariables false
set_option maxRecDepth 20000
theorem take_eq_succ {α : Type} {l m : List α} {k : Nat} (h1 : k < l.length) (h2 : k < m.length) (h : l.take k = m.take k) (e : l[k] = m[k]) : l.take (k + 1) = m.take (k + 1) := by
 rw [List.take_succ_eq_append_getElem h1, List.take_succ_eq_append_getElem h2, h, e]
theorem texts_s (b b' : Bool) (l m : List ByteArray) (hl : l.length ≤ 1000000000) : Ctr Tryz.prog 21 [.sl b 1 (l.map eS), .sl b' 1 (m.map eS)] (fun rr => rr = ⟨(.v (.bool (decide (l = m)))), []⟩) := by
 refine Ctr.of (rs := [.tmp 4]) Tok true Tryz.func21 rfl rfl rfl rfl (by simp [ofDL]) (fun w0 kp => ?_)
 simp only [↓sx0, sxE, encs, sevalprocAttr]
 refine BrW.dec (fun hn => ?_) (fun hn => ?_)
 ·simp only [↓sx0, sxE, encs, sevalprocAttr]
  have : ¬ l = m := fun h => hn (by rw [h])
  refine EndW.fn ?_ ?_ <;> simp only [sx4, encs, kpLL_map, sxR, sevalprocAttr] <;> (try simp [this]) <;> (try omega)
 ·simp only [↓sx0, sxE, encs, sevalprocAttr]
  have hn2 : l.length = m.length := by omega
  refine LoopW.comp [0, 1, 5] (by simp only [sx2, encs, sxR, sevalprocAttr] <;> (try simp) <;> (try omega)) ?_
  simp only [sx2, sxR, sevalprocAttr]
  refine LoopW.up Tok (fun k : Nat => [(5, (.v (.int .i64 k)))]) (fun k => []) (fun k => []) (fun k => []) (fun k => k ≤ l.length ∧ l.take k = m.take k) (fun k => l.length - k) (0) (by simp only [sx2, encs, sxR, sevalprocAttr] <;> (try simp) <;> (try omega)) ?_ ?_
  ·exact ⟨by omega, by simp⟩
  rintro k ⟨hk, ht⟩
  simp only [↓sx0, sxE, encs, sevalprocAttr]
  refine BrW.dec (fun hlt => ?_) (fun hlt => ?_)
  ·simp only [↓sx0, sxE, encs, sevalprocAttr]
   have h1 : k < l.length := by omega
   have h2 : k < m.length := by omega
   refine DrawW.plan Tok mixed (.q 0 <| .q 1 <| .q 2 <| .q 3 <| .q 4 <| .q 5 <| .q 6 <| .q 7 <| .q 8 <| .done) (by kernel_rfl) (by kernel_rfl) ?_
   simp only [↓sx0, sxE, encs, sevalprocAttr]
   refine IxW.nat h1 ?_
   simp only [↓sx0, sxE, encs, sevalprocAttr]
   refine IxW.nat h2 ?_
   simp only [↓sx0, sxE, encs, sevalprocAttr]
   refine BrW.dec (fun hne => ?_) (fun hne => ?_)
   ·simp only [↓sx0, sxE, encs, sevalprocAttr]
    have : ¬ l = m := fun h => hne (by subst h; rfl)
    refine EndW.fn ?_ ?_ <;> simp only [sx4, encs, kpLL_map, sxR, sevalprocAttr] <;> (try simp [this]) <;> (try omega)
   ·simp only [↓sx0, sxE, encs, sevalprocAttr]
    have he : l[k] = m[k] := by exact Decidable.not_not.1 hne
    (with_reducible refine Vc.go ?_ fun _ => ?_); focus (first | omega | (simp only [InK]; omega) | (simp [InK]; done) | (simp [InK]; omega))
    simp only [↓sx0, sxE, encs, sevalprocAttr]
    refine ⟨k + 1, StLe.auto (by simp only [sx2, encs, sxR, sevalprocAttr] <;> (try simp) <;> (try omega)), ?_, ?_⟩
    ·exact ⟨h1, take_eq_succ h1 h2 ht he⟩
    ·omega
  ·simp only [↓sx0, sxE, encs, sevalprocAttr]
   have hke : k = l.length := by omega
   subst hke
   rw [List.take_length, hn2, List.take_length] at ht
   refine EndW.fn ?_ ?_ <;> simp only [sx4, encs, kpLL_map, sxR, sevalprocAttr] <;> (try simp [ht]) <;> (try omega)
theorem grow_s (n : Nat) (hn : n ≤ 1000000) : Ctr Tryz.prog 74 [.v (.slice none 0 0), (.v (.int .i64 n))] (fun rr => rr = ⟨.row 0, [.own 9 1 []]⟩) := by
 refine Ctr.of (rs := [.tmp 4]) Tok false Tryz.func74 rfl rfl rfl rfl (by simp [ofDL]) (fun w0 kp => ?_)
 simp only [↓sx0, sxE, encs, sevalprocAttr]
 refine BrW.no (by omega) ?_
 simp only [↓sx0, sxE, encs, sevalprocAttr]
 (with_reducible refine Vc.go ?_ fun _ => ?_); focus (first | omega | (simp only [InK]; omega) | (simp [InK]; done) | (simp [InK]; omega))
 simp only [↓sx0, sxE, encs, sevalprocAttr]
 (with_reducible refine Vc.go ?_ fun _ => ?_); focus (first | omega | (simp only [InK]; omega) | (simp [InK]; done) | (simp [InK]; omega))
 simp only [↓sx0, sxE, encs, sevalprocAttr]
 refine BrW.dec (fun h => ?_) (fun h => ?_)
 ·simp only [↓sx0, sxE, encs, sevalprocAttr]
  (with_reducible refine Vc.go ?_ fun _ => ?_); focus (first | omega | (simp only [InK]; omega) | (simp [InK]; done) | (simp [InK]; omega))
  simp only [↓sx0, sxE, encs, sevalprocAttr]
  (with_reducible refine Vc.go ?_ fun _ => ?_); focus (first | omega | (simp only [InK]; omega) | (simp [InK]; done) | (simp [InK]; omega))
  simp only [↓sx0, sxE, encs, sevalprocAttr]
  (with_reducible refine Vc.go ?_ fun _ => ?_); focus (first | omega | (simp only [InK]; omega) | (simp [InK]; done) | (simp [InK]; omega))
  simp only [↓sx0, sxE, encs, sevalprocAttr]
  exact EndW.r [some 1] (by simp) (by simp only [sx4, sxF, encs, kpLL_map, sxR, sevalprocAttr] <;> simp) (by simp only [sx4, sxF, encs, kpLL_map, sxR, sevalprocAttr] <;> simp) (by simp only [sx4, sxF, encs, kpLL_map, sxR, sevalprocAttr] <;> simp) (by simp only [sx4, sxF, encs, kpLL_map, sxR, sevalprocAttr] <;> simp)
 ·simp only [↓sx0, sxE, encs, sevalprocAttr]
  exact EndW.r [none] (by simp) (by simp only [sx4, sxF, encs, kpLL_map, sxR, sevalprocAttr] <;> simp) (by simp only [sx4, sxF, encs, kpLL_map, sxR, sevalprocAttr] <;> simp) (by simp only [sx4, sxF, encs, kpLL_map, sxR, sevalprocAttr] <;> simp) (by simp only [sx4, sxF, encs, kpLL_map, sxR, sevalprocAttr] <;> simp)
def eSL (p : Bool × List ByteArray) : List D := [.sl p.1 1 (p.2.map eS)]
def cat (ls : List (Bool × List ByteArray)) : List ByteArray := ls.flatMap Prod.snd
theorem lens_take {ls : List (Bool × List ByteArray)} {k : Nat} (h : k < ls.length) : cat (ls.take (k + 1)) = cat (ls.take k) ++ ls[k].2 := by
 rw [List.take_succ_eq_append_getElem h, cat, List.flatMap_append, cat]; simp only [List.flatMap_cons, List.flatMap_nil, List.append_nil]
theorem lens_le (ls : List (Bool × List ByteArray)) (k : Nat) : (cat (ls.take k)).length ≤ (cat ls).length := by
 conv => rhs; rw [← List.take_append_drop k ls, cat, List.flatMap_append, List.length_append]
 unfold cat
 omega
theorem concat_s (b : Bool) (ls : List (Bool × List ByteArray)) (hn : ls.length ≤ 1000) (hl : (cat ls).length ≤ 1000000) :
  Ctr Tryz.prog 54 [.sl b 1 (ls.map eSL)] (fun rr => rr = ⟨.row 0, [.own 9 1 ((cat ls).map eS)]⟩) := by
 have encs := And.intro encs (show ∀ p, eSL p = [.sl p.1 1 (p.2.map eS)] from fun _ => rfl)
 refine Ctr.of (rs := [.tmp 2]) Tok false Tryz.func54 rfl rfl rfl rfl (by simp [ofDL]) (fun w0 kp => ?_)
 simp only [↓sx0, sxE, encs, sevalprocAttr]
 refine LoopW.comp [0, 3, 9, 10, 11] (by simp only [sx2, encs, sxR, sevalprocAttr] <;> (try simp) <;> (try omega)) ?_
 simp only [sx2, sxR, sevalprocAttr]
 refine LoopW.up Tok (fun k : Nat => [(3, (.v (.int .i64 ((cat (ls.take k)).length)))), (11, (.v (.int .i64 k)))]) (fun k => []) (fun k => []) (fun k => []) (fun k => k ≤ ls.length) (fun k => ls.length - k) (0) (by simp only [sx2, encs, sxR, sevalprocAttr] <;> (try simp [cat, encs]) <;> (try omega)) ?_ ?_
 ·omega
 rintro k hk
 have hb := lens_le ls k
 simp only [↓sx0, sxE, encs, sevalprocAttr]
 refine BrW.dec (fun hlt => ?_) (fun hlt => ?_)
 ·simp only [↓sx0, sxE, encs, sevalprocAttr]
  have hk' : k < ls.length := by omega
  have hb2 := lens_le ls (k + 1)
  rw [lens_take hk', List.length_append] at hb2
  refine IxW.nat hk' ?_
  simp only [↓sx0, sxE, encs, sevalprocAttr]
  (with_reducible refine Vc.go ?_ fun _ => ?_); focus (first | omega | (simp only [InK]; omega) | (simp [InK]; done) | (simp [InK]; omega))
  simp only [↓sx0, sxE, encs, sevalprocAttr]
  refine BrW.no (by omega) ?_
  simp only [↓sx0, sxE, encs, sevalprocAttr]
  (with_reducible refine Vc.go ?_ fun _ => ?_); focus (first | omega | (simp only [InK]; omega) | (simp [InK]; done) | (simp [InK]; omega))
  simp only [↓sx0, sxE, encs, sevalprocAttr]
  refine ⟨k + 1, StLe.auto (by simp only [sx2, encs, sxR, sevalprocAttr] <;> (try simp [lens_take hk', encs]) <;> (try omega)), ?_, ?_⟩
  ·omega
  ·omega
 ·simp only [↓sx0, sxE, encs, sevalprocAttr]
  have hke : k = ls.length := by omega
  subst hke
  rw [List.take_length]
  refine CallI.ctr (grow_s (cat ls).length hl) (by simp only [sx3, encs, sxR, sevalprocAttr] <;> (try simp) <;> (try rfl)) ?_
  rintro _ rfl
  simp only [↓sx0, sxE, encs, sevalprocAttr]
  refine LoopW.comp [6, 25, 26, 27] (by simp only [sx2, encs, sxR, sevalprocAttr] <;> (try simp) <;> (try omega)) ?_
  simp only [sx2, sxR, sevalprocAttr]
  refine LoopW.up Tok (fun k : Nat => [(27, (.v (.int .i64 k)))]) (fun k => []) (fun k => [(0, (cat (ls.take k)).map eS)]) (fun k => []) (fun k => k ≤ ls.length) (fun k => ls.length - k) (0) (by simp only [sx2, encs, sxR, sevalprocAttr] <;> (try simp [cat, encs]) <;> (try omega)) ?_ ?_
  ·omega
  rintro k hk
  have hb := lens_le ls k
  simp only [↓sx0, sxE, encs, sevalprocAttr]
  refine BrW.dec (fun hlt => ?_) (fun hlt => ?_)
  ·simp only [↓sx0, sxE, encs, sevalprocAttr]
   have hk' : k < ls.length := by omega
   have hb2 := lens_le ls (k + 1)
   rw [lens_take hk', List.length_append] at hb2
   refine IxW.nat hk' ?_
   simp only [↓sx0, sxE, encs, sevalprocAttr]
   (with_reducible refine Vc.go ?_ fun _ => ?_); focus (first | omega | (simp only [InK]; omega) | (simp [InK]; done) | (simp [InK]; omega))
   simp only [↓sx0, sxE, encs, sevalprocAttr]
   (with_reducible refine Vc.go ?_ fun _ => ?_); focus (first | omega | (simp only [InK]; omega) | (simp [InK]; done) | (simp [InK]; omega))
   simp only [↓sx0, sxE, encs, sevalprocAttr]
   refine ⟨k + 1, StLe.auto (by simp only [sx2, encs, sxR, sevalprocAttr] <;> (try simp [lens_take hk', encs]) <;> (try omega)), ?_, ?_⟩
   ·omega
   ·omega
  ·simp only [↓sx0, sxE, encs, sevalprocAttr]
   have hke : k = ls.length := by omega
   subst hke
   rw [List.take_length]
   exact EndW.r [some 0] (by simp) (by simp only [sx4, sxF, encs, kpLL_map, sxR, sevalprocAttr] <;> simp [kpLL_map, encs, kpL, kpD]) (by simp only [sx4, sxF, encs, kpLL_map, sxR, sevalprocAttr] <;> simp [kpLL_map, encs, kpL, kpD]) (by simp only [sx4, sxF, encs, kpLL_map, sxR, sevalprocAttr] <;> simp [kpLL_map, encs, kpL, kpD]) (by simp only [sx4, sxF, encs, kpLL_map, sxR, sevalprocAttr] <;> simp [kpLL_map, encs, kpL, kpD])
theorem words1_s (s : ByteArray) (hs : s.size ≤ 1000000000) : Ctr Tryz.prog 55 [(.v (.string (s)))] (fun rr => rr = ⟨(.v (.bool (badW s))), []⟩) := by
 refine Ctr.of (rs := [.tmp 2]) Tok true Tryz.func55 rfl rfl rfl rfl (by simp [ofDL]) (fun w0 kp => ?_)
 simp only [↓sx0, sxE, encs, sevalprocAttr]
 refine CallI.fn (isWord_s s hs) (by simp only [sx3, encs, sxR, sevalprocAttr] <;> (try simp) <;> (try rfl)) ?_
 simp only [↓sx0, sxE, encs, sevalprocAttr]
 refine EndW.fn ?_ ?_ <;> simp only [sx4, encs, kpLL_map, sxR, sevalprocAttr] <;> (try simp [badW]) <;> (try omega)
/-- the error of two lists of words. -/
def wdsErr (a b : List ByteArray) : Int := if a.length ≤ 40 ∧ b.length ≤ 40 then (if (a ++ b).any badW = true then 3 else 0) else 8
def AllSz (l : List ByteArray) : Prop := ∀ s ∈ l, s.size ≤ 1000000000
theorem checkWords_s (b1 b2 : Bool) (l m : List ByteArray) (hl : AllSz l) (hm : AllSz m) : Ctr Tryz.prog 36 [.sl b1 1 (l.map eS), .sl b2 1 (m.map eS)] (fun rr => rr = ⟨(.v (.int .i64 (wdsErr l m))), []⟩) := by
 have encs := And.intro encs (show ∀ p, eSL p = [.sl p.1 1 (p.2.map eS)] from fun _ => rfl)
 refine Ctr.of (rs := [.tmp 4]) Tok true Tryz.func36 rfl rfl rfl rfl (by simp [ofDL]) (fun w0 kp => ?_)
 simp only [↓sx0, sxE, encs, sevalprocAttr]
 refine BrW.dec (fun h1 => ?_) (fun h1 => ?_)
 ·rw [show wdsErr l m = 8 by rw [wdsErr, if_neg (by omega)]]
  simp only [↓sx0, sxE, encs, sevalprocAttr]
  repeat ((with_reducible refine BrW.yes (by omega) ?_); simp only [↓sx0, sxE, encs, sevalprocAttr])
  refine EndW.fn ?_ ?_ <;> simp only [sx4, encs, kpLL_map, sxR, sevalprocAttr] <;> (try simp) <;> (try omega)
 ·simp only [↓sx0, sxE, encs, sevalprocAttr]
  repeat ((with_reducible refine BrW.no (by omega) ?_); simp only [↓sx0, sxE, encs, sevalprocAttr])
  refine BrW.dec (fun h2 => ?_) (fun h2 => ?_)
  ·rw [show wdsErr l m = 8 by rw [wdsErr, if_neg (by omega)]]
   simp only [↓sx0, sxE, encs, sevalprocAttr]
   refine EndW.fn ?_ ?_ <;> simp only [sx4, encs, kpLL_map, sxR, sevalprocAttr] <;> (try simp) <;> (try omega)
  ·have hc : cat [(b1, l), (b2, m)] = l ++ m := by simp [cat]
   rw [show wdsErr l m = if (l ++ m).any badW = true then 3 else 0 by rw [wdsErr, if_pos (by omega)]]
   simp only [↓sx0, sxE, encs, sevalprocAttr]
   refine CallI.ctr (concat_s false [(b1, l), (b2, m)] (by simp) (by rw [hc, List.length_append]; omega)) (by simp only [sx3, encs, sxR, sevalprocAttr] <;> (try simp) <;> (try rfl)) ?_
   rintro _ rfl
   rw [hc]
   simp only [↓sx0, sxE, encs, sevalprocAttr]
   refine CallI.fn (containsS_s false 55 badW (l ++ m) (by rw [List.length_append]; omega) (fun x hx => words1_s x ((List.mem_append.1 hx).elim (hl x) (hm x)))) (by simp only [sx3, encs, sxR, sevalprocAttr] <;> (try simp) <;> (try rfl)) ?_
   simp only [↓sx0, sxE, encs, sevalprocAttr]
   refine BrW.of (fun hb => ?_) (fun hb => ?_)
   ·rw [if_pos hb]
    simp only [↓sx0, sxE, encs, sevalprocAttr]
    refine EndW.fn ?_ ?_ <;> simp only [sx4, encs, kpLL_map, sxR, sevalprocAttr] <;> (try simp) <;> (try omega)
   ·rw [if_neg (by rw [hb]; simp)]
    simp only [↓sx0, sxE, encs, sevalprocAttr]
    refine EndW.fn ?_ ?_ <;> simp only [sx4, encs, kpLL_map, sxR, sevalprocAttr] <;> (try simp) <;> (try omega)
end Go.Proofs.YthkkcemefngeiaaGreat
/-
 Chapter 8, walks: edits are checked.
-/
namespace Go.Proofs.YthkkcemefngeiaaGreat
open Go Go.Vx
set_option linter.unusedSimpArgs false
set_option linter.unusedVariables false
set_option maxRecDepth 20000
def nxOk (n : Int) (i m : Nat) : Bool := decide (n = -1) || (decide (n = i) && decide (i < m))
def nxI (n : Int) (i : Nat) : Nat := if n = -1 then i else i + 1
def edC (a b : List ByteArray) (x : Ed) (i k : Nat) : Nat := if x.fr = -1 ∨ x.to = -1 ∨ a[i]? ≠ b[k]? then 1 else 0
/-- the cost of edits, and the error, from a place on. -/
def edF (a b : List ByteArray) : List Ed → Nat → Nat → Nat → Int × Int
 | [], i, k, c => if i = a.length ∧ k = b.length then ((c : Int), 0) else (0, 14)
 | x :: l, i, k, c => if x.fr = -1 ∧ x.to = -1 then (0, 3) else if nxOk x.fr i a.length = true ∧ nxOk x.to k b.length = true then edF a b l (nxI x.fr i) (nxI x.to k) (c + edC a b x i k) else (0, 9)
structure ESt where
 n : Nat
 i : Nat
 k : Nat
 c : Nat
def edV (a b : List ByteArray) (l : List Ed) : Int × Int := if wdsErr a b = 0 then edF a b l 0 0 0 else (0, wdsErr a b)
set_option maxHeartbeats 16000000 in
theorem checkEdits_s (b1 b2 b3 : Bool) (a b : List ByteArray) (l : List Ed) (ha : AllSz a) (hb : AllSz b) (hl : l.length ≤ 1000000) : Ctr Tryz.prog 20 [.sl b1 1 (a.map eS), .sl b2 1 (b.map eS), .sl b3 2 (l.map eE)] (fun rr => rr = ⟨.tup [(.v (.int .i64 ((edV a b l).1))), (.v (.int .i64 ((edV a b l).2)))], []⟩) := by
 have hcw := checkWords_s b1 b2 a b ha hb
 refine Ctr.of (rs := [.tmp 6, .tmp 7]) Tok true Tryz.func20 rfl rfl rfl rfl (by simp [ofDL]) (fun w0 kp => ?_)
 simp only [↓sx0, sxE, encs, sevalprocAttr]
 refine CallI.fn (hcw) (by simp only [sx3, encs, sxR, sevalprocAttr] <;> (try simp) <;> (try rfl)) ?_
 simp only [↓sx0, sxE, encs, sevalprocAttr]
 refine BrW.dec (fun he => ?_) (fun he => ?_)
 ·rw [show edV a b l = (0, wdsErr a b) by rw [edV, if_neg he]]
  simp only [↓sx0, sxE, encs, sevalprocAttr]
  refine EndW.fn ?_ ?_ <;> simp only [sx4, encs, kpLL_map, sxR, sevalprocAttr] <;> (try simp) <;> (try omega)
 ·have he : wdsErr a b = 0 := Decidable.not_not.1 he
  have hlen : a.length ≤ 40 ∧ b.length ≤ 40 := by
   unfold wdsErr at he
   split at he
   ·assumption
   ·omega
  rw [show edV a b l = edF a b l 0 0 0 by rw [edV, if_pos he]]
  simp only [↓sx0, sxE, encs, sevalprocAttr]
  skip
  refine LoopW.comp [0, 1, 9, 10, 11, 20, 21, 22] (by simp only [sx2, encs, sxR, sevalprocAttr] <;> (try simp) <;> (try omega)) ?_
  simp only [sx2, sxR, sevalprocAttr]
  refine LoopW.up Tok (fun s : ESt => [(11, (.v (.int .i64 s.c))), (22, (.v (.int .i64 s.n)))]) (fun s => [(0, [(.v (.int .i64 s.i))]), (1, [(.v (.int .i64 s.k))])]) (fun s => []) (fun s => []) (fun s => (s.n ≤ l.length ∧ s.i ≤ a.length ∧ s.k ≤ b.length ∧ s.c ≤ s.n) ∧ edF a b (l.drop s.n) s.i s.k s.c = edF a b l 0 0 0) (fun s => l.length - s.n) (⟨0, 0, 0, 0⟩) (by simp only [sx2, encs, sxR, sevalprocAttr] <;> (try simp) <;> (try omega)) ?_ ?_
  ·exact ⟨⟨by simp, by simp, by simp, by simp⟩, rfl⟩
  rintro ⟨n, i, k, c⟩ ⟨⟨hn, hi, hk, hc⟩, hE⟩
  simp only at hn hi hk hc hE
  simp only [↓sx0, sxE, encs, sevalprocAttr]
  refine BrW.dec (fun hlt => ?_) (fun hlt => ?_)
  ·simp only [↓sx0, sxE, encs, sevalprocAttr]
   have hn2 : n < l.length := by omega
   have hd : l.drop n = l[n] :: l.drop (n + 1) := List.drop_eq_getElem_cons hn2
   refine IxW.nat hn2 ?_
   simp only [↓sx0, sxE, encs, sevalprocAttr]
   generalize l[n] = x at hd ⊢
   have hcb : c ≤ 1000000 := by omega
   rw [hd, edF] at hE
   refine BrW.dec (fun q1 => ?_) (fun q1 => ?_)
   ·simp only [↓sx0, sxE, encs, sevalprocAttr]
    refine BrW.dec (fun q2 => ?_) (fun q2 => ?_)
    ·simp only [↓sx0, sxE, encs, sevalprocAttr]
     rw [if_pos ⟨q1, q2⟩] at hE
     rw [← hE]
     refine EndW.fn ?_ ?_ <;> simp only [sx4, encs, kpLL_map, sxR, sevalprocAttr] <;> (try simp) <;> (try omega)
    ·simp only [↓sx0, sxE, encs, sevalprocAttr]
     repeat ((with_reducible refine BrW.no (by omega) ?_); simp only [↓sx0, sxE, encs, sevalprocAttr])
     refine CallI.inl (rs := [.tmp 6]) Tok Tryz.func37 rfl rfl rfl rfl (by simp) (fun ρ σ μ fr lp => ?_)
     simp only [↓sx0, sxE, encs, sevalprocAttr]
     repeat ((with_reducible refine BrW.yes (by omega) ?_); simp only [↓sx0, sxE, encs, sevalprocAttr])
     refine CallI.inl (rs := [.tmp 6]) Tok Tryz.func37 rfl rfl rfl rfl (by simp) (fun ρ σ μ fr lp => ?_)
     simp only [↓sx0, sxE, encs, sevalprocAttr]
     repeat ((with_reducible refine BrW.no (by omega) ?_); simp only [↓sx0, sxE, encs, sevalprocAttr])
     refine BrW.dec (fun g2 => ?_) (fun g2 => ?_)
     ·simp only [↓sx0, sxE, encs, sevalprocAttr]
      repeat ((with_reducible refine BrW.yes (by omega) ?_); simp only [↓sx0, sxE, encs, sevalprocAttr])
      rw [if_neg (by omega), if_neg (by simp only [nxOk, Bool.or_eq_true, Bool.and_eq_true, decide_eq_true_eq]; omega)] at hE
      rw [← hE]
      refine EndW.fn ?_ ?_ <;> simp only [sx4, encs, kpLL_map, sxR, sevalprocAttr] <;> (try simp) <;> (try omega)
     ·simp only [↓sx0, sxE, encs, sevalprocAttr]
      repeat ((with_reducible refine BrW.no (by omega) ?_); simp only [↓sx0, sxE, encs, sevalprocAttr])
      refine BrW.dec (fun g3 => ?_) (fun g3 => ?_)
      ·simp only [↓sx0, sxE, encs, sevalprocAttr]
       rw [if_neg (by omega), if_neg (by simp only [nxOk, Bool.or_eq_true, Bool.and_eq_true, decide_eq_true_eq]; omega)] at hE
       rw [← hE]
       refine EndW.fn ?_ ?_ <;> simp only [sx4, encs, kpLL_map, sxR, sevalprocAttr] <;> (try simp) <;> (try omega)
      ·simp only [↓sx0, sxE, encs, sevalprocAttr]
       repeat ((with_reducible refine Vc.go ?_ fun _ => ?_); (focus (first | omega | (simp only [InK]; omega) | (simp [InK]; done) | (simp [InK]; omega))); simp only [↓sx0, sxE, encs, sevalprocAttr])
       refine DrawW.plan Tok mixed (.q 0 <| .q 1 <| .q 2 <| .q 3 <| .q 4 <| .q 5 <| .q 6 <| .q 7 <| .q 8 <| .q 9 <| .q 10 <| .q 11 <| .q 12 <| .q 13 <| .q 14 <| .q 15 <| .q 16 <| .q 17 <| .q 18 <| .q 19 <| .q 20 <| .done) (by kernel_rfl) (by kernel_rfl) ?_
       simp only [↓sx0, sxE, encs, sevalprocAttr]
       repeat ((with_reducible refine BrW.yes (by omega) ?_); simp only [↓sx0, sxE, encs, sevalprocAttr])
       repeat ((with_reducible refine Vc.go ?_ fun _ => ?_); (focus (first | omega | (simp only [InK]; omega) | (simp [InK]; done) | (simp [InK]; omega))); simp only [↓sx0, sxE, encs, sevalprocAttr])
       rw [if_neg (by omega), if_pos (by simp only [nxOk, Bool.or_eq_true, Bool.and_eq_true, decide_eq_true_eq]; omega)] at hE
       rw [show nxI x.fr i = i by rw [nxI, if_pos (by omega)]] at hE
       rw [show nxI x.to k = k + 1 by rw [nxI, if_neg (by omega)]] at hE
       rw [show edC a b x i k = 1 by rw [edC, if_pos (by first | omega | (simp only [hab]; simp [hne]))]] at hE
       repeat ((with_reducible refine Vc.go ?_ fun _ => ?_); (focus (first | omega | (simp only [InK]; omega) | (simp [InK]; done) | (simp [InK]; omega))); simp only [↓sx0, sxE, encs, sevalprocAttr])
       refine ⟨⟨n + 1, i, k + 1, c + 1⟩, StLe.auto (by simp only [sx2, encs, sxR, sevalprocAttr] <;> (try simp) <;> (try omega)), ?_, ?_⟩
       ·exact ⟨⟨by simp only; omega, by simp only; omega, by simp only; omega, by simp only; omega⟩, hE⟩
       ·simp only; omega
   ·simp only [↓sx0, sxE, encs, sevalprocAttr]
    repeat ((with_reducible refine BrW.no (by omega) ?_); simp only [↓sx0, sxE, encs, sevalprocAttr])
    refine CallI.inl (rs := [.tmp 6]) Tok Tryz.func37 rfl rfl rfl rfl (by simp) (fun ρ σ μ fr lp => ?_)
    simp only [↓sx0, sxE, encs, sevalprocAttr]
    repeat ((with_reducible refine BrW.no (by omega) ?_); simp only [↓sx0, sxE, encs, sevalprocAttr])
    refine BrW.dec (fun f2 => ?_) (fun f2 => ?_)
    ·simp only [↓sx0, sxE, encs, sevalprocAttr]
     repeat ((with_reducible refine BrW.yes (by omega) ?_); simp only [↓sx0, sxE, encs, sevalprocAttr])
     rw [if_neg (by omega), if_neg (by simp only [nxOk, Bool.or_eq_true, Bool.and_eq_true, decide_eq_true_eq]; omega)] at hE
     rw [← hE]
     refine EndW.fn ?_ ?_ <;> simp only [sx4, encs, kpLL_map, sxR, sevalprocAttr] <;> (try simp) <;> (try omega)
    ·simp only [↓sx0, sxE, encs, sevalprocAttr]
     repeat ((with_reducible refine BrW.no (by omega) ?_); simp only [↓sx0, sxE, encs, sevalprocAttr])
     refine BrW.dec (fun f3 => ?_) (fun f3 => ?_)
     ·simp only [↓sx0, sxE, encs, sevalprocAttr]
      rw [if_neg (by omega), if_neg (by simp only [nxOk, Bool.or_eq_true, Bool.and_eq_true, decide_eq_true_eq]; omega)] at hE
      rw [← hE]
      refine EndW.fn ?_ ?_ <;> simp only [sx4, encs, kpLL_map, sxR, sevalprocAttr] <;> (try simp) <;> (try omega)
     ·simp only [↓sx0, sxE, encs, sevalprocAttr]
      repeat ((with_reducible refine Vc.go ?_ fun _ => ?_); (focus (first | omega | (simp only [InK]; omega) | (simp [InK]; done) | (simp [InK]; omega))); simp only [↓sx0, sxE, encs, sevalprocAttr])
      refine CallI.inl (rs := [.tmp 6]) Tok Tryz.func37 rfl rfl rfl rfl (by simp) (fun ρ σ μ fr lp => ?_)
      simp only [↓sx0, sxE, encs, sevalprocAttr]
      refine BrW.dec (fun g1 => ?_) (fun g1 => ?_)
      ·simp only [↓sx0, sxE, encs, sevalprocAttr]
       repeat ((with_reducible refine BrW.yes (by omega) ?_); simp only [↓sx0, sxE, encs, sevalprocAttr])
       refine DrawW.plan Tok mixed (.q 0 <| .q 1 <| .q 2 <| .q 3 <| .q 4 <| .q 5 <| .q 6 <| .q 7 <| .q 8 <| .q 9 <| .q 10 <| .q 11 <| .q 12 <| .q 13 <| .q 14 <| .q 15 <| .q 16 <| .q 17 <| .q 18 <| .q 19 <| .q 20 <| .done) (by kernel_rfl) (by kernel_rfl) ?_
       simp only [↓sx0, sxE, encs, sevalprocAttr]
       repeat ((with_reducible refine BrW.yes (by omega) ?_); simp only [↓sx0, sxE, encs, sevalprocAttr])
       repeat ((with_reducible refine BrW.no (by omega) ?_); simp only [↓sx0, sxE, encs, sevalprocAttr])
       repeat ((with_reducible refine BrW.yes (by omega) ?_); simp only [↓sx0, sxE, encs, sevalprocAttr])
       repeat ((with_reducible refine Vc.go ?_ fun _ => ?_); (focus (first | omega | (simp only [InK]; omega) | (simp [InK]; done) | (simp [InK]; omega))); simp only [↓sx0, sxE, encs, sevalprocAttr])
       rw [if_neg (by omega), if_pos (by simp only [nxOk, Bool.or_eq_true, Bool.and_eq_true, decide_eq_true_eq]; omega)] at hE
       rw [show nxI x.fr i = i + 1 by rw [nxI, if_neg (by omega)]] at hE
       rw [show nxI x.to k = k by rw [nxI, if_pos (by omega)]] at hE
       rw [show edC a b x i k = 1 by rw [edC, if_pos (by first | omega | (simp only [hab]; simp [hne]))]] at hE
       repeat ((with_reducible refine Vc.go ?_ fun _ => ?_); (focus (first | omega | (simp only [InK]; omega) | (simp [InK]; done) | (simp [InK]; omega))); simp only [↓sx0, sxE, encs, sevalprocAttr])
       refine ⟨⟨n + 1, i + 1, k, c + 1⟩, StLe.auto (by simp only [sx2, encs, sxR, sevalprocAttr] <;> (try simp) <;> (try omega)), ?_, ?_⟩
       ·exact ⟨⟨by simp only; omega, by simp only; omega, by simp only; omega, by simp only; omega⟩, hE⟩
       ·simp only; omega
      ·simp only [↓sx0, sxE, encs, sevalprocAttr]
       refine BrW.dec (fun g2 => ?_) (fun g2 => ?_)
       ·simp only [↓sx0, sxE, encs, sevalprocAttr]
        repeat ((with_reducible refine BrW.yes (by omega) ?_); simp only [↓sx0, sxE, encs, sevalprocAttr])
        rw [if_neg (by omega), if_neg (by simp only [nxOk, Bool.or_eq_true, Bool.and_eq_true, decide_eq_true_eq]; omega)] at hE
        rw [← hE]
        refine EndW.fn ?_ ?_ <;> simp only [sx4, encs, kpLL_map, sxR, sevalprocAttr] <;> (try simp) <;> (try omega)
       ·simp only [↓sx0, sxE, encs, sevalprocAttr]
        repeat ((with_reducible refine BrW.no (by omega) ?_); simp only [↓sx0, sxE, encs, sevalprocAttr])
        refine BrW.dec (fun g3 => ?_) (fun g3 => ?_)
        ·simp only [↓sx0, sxE, encs, sevalprocAttr]
         rw [if_neg (by omega), if_neg (by simp only [nxOk, Bool.or_eq_true, Bool.and_eq_true, decide_eq_true_eq]; omega)] at hE
         rw [← hE]
         refine EndW.fn ?_ ?_ <;> simp only [sx4, encs, kpLL_map, sxR, sevalprocAttr] <;> (try simp) <;> (try omega)
        ·simp only [↓sx0, sxE, encs, sevalprocAttr]
         repeat ((with_reducible refine Vc.go ?_ fun _ => ?_); (focus (first | omega | (simp only [InK]; omega) | (simp [InK]; done) | (simp [InK]; omega))); simp only [↓sx0, sxE, encs, sevalprocAttr])
         refine DrawW.plan Tok mixed (.q 0 <| .q 1 <| .q 2 <| .q 3 <| .q 4 <| .q 5 <| .q 6 <| .q 7 <| .q 8 <| .q 9 <| .q 10 <| .q 11 <| .q 12 <| .q 13 <| .q 14 <| .q 15 <| .q 16 <| .q 17 <| .q 18 <| .q 19 <| .q 20 <| .done) (by kernel_rfl) (by kernel_rfl) ?_
         simp only [↓sx0, sxE, encs, sevalprocAttr]
         repeat ((with_reducible refine BrW.no (by omega) ?_); simp only [↓sx0, sxE, encs, sevalprocAttr])
         have hia : i < a.length := by omega
         have hkb : k < b.length := by omega
         have e1 : x.fr = (i : Int) := by omega
         have e2 : x.to = (k : Int) := by omega
         refine ⟨by omega, _, (by rw [e1, Int.toNat_natCast, List.getElem?_map, List.getElem?_eq_getElem hia]; rfl), ?_⟩
         simp only [↓sx0, sxE, encs, sevalprocAttr]
         refine ⟨by omega, _, (by rw [e2, Int.toNat_natCast, List.getElem?_map, List.getElem?_eq_getElem hkb]; rfl), ?_⟩
         simp only [↓sx0, sxE, encs, sevalprocAttr]
         have hab : a[i]? = some a[i] ∧ b[k]? = some b[k] := ⟨List.getElem?_eq_getElem hia, List.getElem?_eq_getElem hkb⟩
         refine BrW.dec (fun hne => ?_) (fun hne => ?_)
         ·simp only [↓sx0, sxE, encs, sevalprocAttr]
          rw [if_neg (by omega), if_pos (by simp only [nxOk, Bool.or_eq_true, Bool.and_eq_true, decide_eq_true_eq]; omega)] at hE
          rw [show nxI x.fr i = i + 1 by rw [nxI, if_neg (by omega)]] at hE
          rw [show nxI x.to k = k + 1 by rw [nxI, if_neg (by omega)]] at hE
          rw [show edC a b x i k = 1 by rw [edC, if_pos (by first | omega | (simp only [hab]; simp [hne]))]] at hE
          repeat ((with_reducible refine Vc.go ?_ fun _ => ?_); (focus (first | omega | (simp only [InK]; omega) | (simp [InK]; done) | (simp [InK]; omega))); simp only [↓sx0, sxE, encs, sevalprocAttr])
          refine ⟨⟨n + 1, i + 1, k + 1, c + 1⟩, StLe.auto (by simp only [sx2, encs, sxR, sevalprocAttr] <;> (try simp) <;> (try omega)), ?_, ?_⟩
          ·exact ⟨⟨by simp only; omega, by simp only; omega, by simp only; omega, by simp only; omega⟩, hE⟩
          ·simp only; omega
         ·simp only [↓sx0, sxE, encs, sevalprocAttr]
          rw [if_neg (by omega), if_pos (by simp only [nxOk, Bool.or_eq_true, Bool.and_eq_true, decide_eq_true_eq]; omega)] at hE
          rw [show nxI x.fr i = i + 1 by rw [nxI, if_neg (by omega)]] at hE
          rw [show nxI x.to k = k + 1 by rw [nxI, if_neg (by omega)]] at hE
          rw [show edC a b x i k = 0 by rw [edC, if_neg (by simp only [hab]; simp [hne]; omega)]] at hE
          repeat ((with_reducible refine Vc.go ?_ fun _ => ?_); (focus (first | omega | (simp only [InK]; omega) | (simp [InK]; done) | (simp [InK]; omega))); simp only [↓sx0, sxE, encs, sevalprocAttr])
          refine ⟨⟨n + 1, i + 1, k + 1, c⟩, StLe.auto (by simp only [sx2, encs, sxR, sevalprocAttr] <;> (try simp) <;> (try omega)), ?_, ?_⟩
          ·exact ⟨⟨by simp only; omega, by simp only; omega, by simp only; omega, by simp only; omega⟩, hE⟩
          ·simp only; omega
  ·simp only [↓sx0, sxE, encs, sevalprocAttr]
   have hne : n = l.length := by omega
   subst hne
   rw [List.drop_length, edF] at hE
   refine BrW.dec (fun ti => ?_) (fun ti => ?_)
   ·simp only [↓sx0, sxE, encs, sevalprocAttr]
    repeat ((with_reducible refine BrW.yes (by omega) ?_); simp only [↓sx0, sxE, encs, sevalprocAttr])
    rw [if_neg (by omega)] at hE
    rw [← hE]
    refine EndW.fn ?_ ?_ <;> simp only [sx4, encs, kpLL_map, sxR, sevalprocAttr] <;> (try simp) <;> (try omega)
   ·simp only [↓sx0, sxE, encs, sevalprocAttr]
    repeat ((with_reducible refine BrW.no (by omega) ?_); simp only [↓sx0, sxE, encs, sevalprocAttr])
    refine BrW.dec (fun tk => ?_) (fun tk => ?_)
    ·rw [if_neg (by omega)] at hE
     rw [← hE]
     simp only [↓sx0, sxE, encs, sevalprocAttr]
     refine EndW.fn ?_ ?_ <;> simp only [sx4, encs, kpLL_map, sxR, sevalprocAttr] <;> (try simp) <;> (try omega)
    ·rw [if_pos (by omega)] at hE
     rw [← hE]
     simp only [↓sx0, sxE, encs, sevalprocAttr]
     refine EndW.fn ?_ ?_ <;> simp only [sx4, encs, kpLL_map, sxR, sevalprocAttr] <;> (try simp) <;> (try omega)
end Go.Proofs.YthkkcemefngeiaaGreat
/-
 Chapter 8, walks: the laws are awake.
-/
namespace Go.Proofs.YthkkcemefngeiaaGreat
open Go Go.Vx
set_option linter.unusedSimpArgs false
set_option linter.unusedVariables false
set_option maxRecDepth 20000
def foxL : List Pt := [⟨1, [⟨#[116, 104, 101]⟩, ⟨#[113, 117, 105, 99, 107]⟩, ⟨#[102, 111, 120]⟩]⟩]
def fox4 : List Pt := [⟨1, [⟨#[116, 104, 101]⟩, ⟨#[118, 101, 114, 121]⟩, ⟨#[113, 117, 105, 99, 107]⟩, ⟨#[102, 111, 120]⟩]⟩]
def inMk : Mk := ⟨2, 0, 1, ⟨#[]⟩, ⟨#[118, 101, 114, 121]⟩, 0, 0⟩
def outMk : Mk := ⟨1, 0, 3, ⟨#[102, 111, 120]⟩, ⟨#[]⟩, 0, 0⟩
def outMk2 : Mk := ⟨1, 0, 2, ⟨#[102, 111, 120]⟩, ⟨#[]⟩, 0, 0⟩
def wdsA : List ByteArray := [⟨#[116, 104, 101]⟩, ⟨#[113, 117, 105, 99, 107]⟩, ⟨#[102, 111, 120]⟩]
def wdsB : List ByteArray := [⟨#[97]⟩, ⟨#[113, 117, 105, 99, 107]⟩, ⟨#[114, 101, 100]⟩, ⟨#[102, 111, 120]⟩]
def edsL : List Ed := [⟨0, 0⟩, ⟨1, 1⟩, ⟨-1, 2⟩, ⟨2, 3⟩]
theorem fox_s : Ctr Tryz.prog 18 [] (fun rr => rr = ⟨.sl true 2 (foxL.map (eP true)), []⟩) := by
 refine Ctr.of (rs := [.tmp 0]) Tok true Tryz.func18 rfl rfl rfl rfl (by simp [ofDL]) (fun w0 kp => ?_)
 simp only [↓sx0, sxE, encs, sevalprocAttr]
 repeat ((with_reducible refine Vc.go ?_ fun _ => ?_); (focus (first | omega | (simp only [InK]; omega) | (simp [InK]; done) | (simp [InK]; omega))); simp only [↓sx0, sxE, encs, sevalprocAttr])
 refine EndW.fn ?_ ?_ <;> simp only [sx4, encs, kpLL_map, sxR, sevalprocAttr] <;> (try simp [foxL, eP, eS]) <;> (try omega)
theorem fox_err : (partsErr foxL).2 = 0 := by kernel_rfl
theorem fox_ins : foxL.set 0 (insP foxL[0] 1 inMk.new) = fox4 := by kernel_rfl
theorem fox4_err : (partsErr fox4).2 = 0 := by kernel_rfl
theorem in_err : mkErr inMk = 0 := by kernel_rfl
theorem sw_v : swE inMk outMk = ((outMk2, inMk), 0) := by kernel_rfl
theorem kept_v : keptV [3, 1, 2, 1] [1, 2, 4] = ([(1, 0), (2, 1)], 0) := by kernel_rfl
theorem eds_v : edV wdsA wdsB edsL = (2, 0) := by kernel_rfl
theorem awE : (foxL = ([⟨1, [⟨#[116, 104, 101]⟩, ⟨#[113, 117, 105, 99, 107]⟩, ⟨#[102, 111, 120]⟩]⟩] : List Pt)) ∧ (fox4 = ([⟨1, [⟨#[116, 104, 101]⟩, ⟨#[118, 101, 114, 121]⟩, ⟨#[113, 117, 105, 99, 107]⟩, ⟨#[102, 111, 120]⟩]⟩] : List Pt)) ∧ (inMk = (⟨2, 0, 1, ⟨#[]⟩, ⟨#[118, 101, 114, 121]⟩, 0, 0⟩ : Mk)) ∧ (outMk = (⟨1, 0, 3, ⟨#[102, 111, 120]⟩, ⟨#[]⟩, 0, 0⟩ : Mk)) ∧ (outMk2 = (⟨1, 0, 2, ⟨#[102, 111, 120]⟩, ⟨#[]⟩, 0, 0⟩ : Mk)) ∧ (wdsA = ([⟨#[116, 104, 101]⟩, ⟨#[113, 117, 105, 99, 107]⟩, ⟨#[102, 111, 120]⟩] : List ByteArray)) ∧ (wdsB = ([⟨#[97]⟩, ⟨#[113, 117, 105, 99, 107]⟩, ⟨#[114, 101, 100]⟩, ⟨#[102, 111, 120]⟩] : List ByteArray)) ∧ (edsL = ([⟨0, 0⟩, ⟨1, 1⟩, ⟨-1, 2⟩, ⟨2, 3⟩] : List Ed)) := ⟨rfl, rfl, rfl, rfl, rfl, rfl, rfl, rfl⟩
theorem awake_s : Ctr Tryz.prog 4 [] (fun rr => rr = ⟨(.v (.bool (true))), []⟩) := by
 have hA := AppliedIn_s true true foxL inMk 0 1 rfl rfl rfl (by decide) (by decide) (by decide) (by decide) ⟨by decide, by decide⟩ fox_err in_err (by rw [fox_ins]; exact fox4_err)
 rw [fox_ins] at hA
 have hS := Swapped_s inMk outMk ⟨by decide, by decide⟩ ⟨by decide, by decide⟩
 rw [sw_v] at hS
 have hK := kept_s false false [3, 1, 2, 1] [1, 2, 4]
 rw [kept_v] at hK
 have hE := checkEdits_s false false false wdsA wdsB edsL (by unfold AllSz; decide) (by unfold AllSz; decide) (by decide)
 rw [eds_v] at hE
 have encs := And.intro (And.intro encs (show ∀ p, eJ p = [(.v (.int .i64 ((p.1 : Int)))), (.v (.int .i64 ((p.2 : Int))))] from fun _ => rfl)) (And.intro awE prE)
 refine Ctr.of (rs := [.tmp 0]) Tok true Tryz.func4 rfl rfl rfl rfl (by simp [ofDL]) (fun w0 kp => ?_)
 simp only [↓sx0, sxE, encs, sevalprocAttr]
 refine DrawW.plan Tok mixed (.q 1 <| .e 0 [1] <| .e 2 [] <| .q 3 <| .q 4 <| .q 5 <| .q 6 <| .q 7 <| .done) (by kernel_rfl) (by kernel_rfl) ?_
 simp only [↓sx0, sxE, encs, sevalprocAttr]
 refine CallI.fn (fox_s) (by simp only [sx3, encs, sxR, sevalprocAttr] <;> (try simp) <;> (try rfl)) ?_
 simp only [↓sx0, sxE, encs, sevalprocAttr]
 refine CallI.fn (hA) (by simp only [sx3, encs, sxR, sevalprocAttr] <;> (try simp) <;> (try rfl)) ?_
 simp only [↓sx0, sxE, encs, sevalprocAttr]
 refine CallI.fn (hS) (by simp only [sx3, encs, sxR, sevalprocAttr] <;> (try simp) <;> (try rfl)) ?_
 simp only [↓sx0, sxE, encs, sevalprocAttr]
 refine CallI.fn (hK) (by simp only [sx3, encs, sxR, sevalprocAttr] <;> (try simp) <;> (try rfl)) ?_
 simp only [↓sx0, sxE, encs, sevalprocAttr]
 refine CallI.fn (hE) (by simp only [sx3, encs, sxR, sevalprocAttr] <;> (try simp) <;> (try rfl)) ?_
 simp only [↓sx0, sxE, encs, sevalprocAttr]
 refine ⟨by omega, _, rfl, ?_⟩
 simp only [↓sx0, sxE, encs, sevalprocAttr]
 refine CallI.fn (texts_s true false [⟨#[116, 104, 101]⟩, ⟨#[118, 101, 114, 121]⟩, ⟨#[113, 117, 105, 99, 107]⟩, ⟨#[102, 111, 120]⟩] [⟨#[116, 104, 101]⟩, ⟨#[118, 101, 114, 121]⟩, ⟨#[113, 117, 105, 99, 107]⟩, ⟨#[102, 111, 120]⟩] (by decide)) (by simp only [sx3, encs, sxR, sevalprocAttr] <;> (try simp) <;> (try rfl)) ?_
 simp only [↓sx0, sxE, encs, sevalprocAttr]
 repeat ((with_reducible refine Vc.go trivial fun _ => ?_); simp only [↓sx0, sxE, encs, sevalprocAttr])
 refine ⟨by omega, _, rfl, ?_⟩
 simp only [↓sx0, sxE, encs, sevalprocAttr]
 refine EndW.fn ?_ ?_ <;> simp only [sx4, encs, kpLL_map, sxR, sevalprocAttr] <;> (try simp) <;> (try omega)
end Go.Proofs.YthkkcemefngeiaaGreat
