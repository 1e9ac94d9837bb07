/-
 Chapter 8: where two copies differ first (the program and the reference).
-/
import Derived.Test.YthkkcemefngeiaaGreatVGA
namespace Go.Proofs.YthkkcemefngeiaaGreat
open Go Go.Vx
set_option linter.unusedSimpArgs false
set_option linter.unusedVariables false
set_option maxRecDepth 20000
def fwW : List ByteArray → List ByteArray → Nat → Option Nat
 | [], [], _ => none
 | x :: xs, y :: ys, n => if x = y then fwW xs ys (n + 1) else some n
 | _, _, n => some n
def fcP : List Pt → List Pt → Nat → Option (Nat × Nat)
 | [], [], _ => none
 | p :: ps, q :: qs, n => if p.kind = q.kind then (match fwW p.words q.words 0 with | some w => some (n, w) | none => fcP ps qs (n + 1)) else some (n, 0)
 | _, _, n => some (n, 0)
def fcV (a b : List Pt) : (Nat × Nat) × Int := match fcP a b 0 with
 | some p => (p, 0)
 | none => ((0, 0), 12)
theorem fwW_in {x y : List ByteArray} {w : Nat} (hx : w < x.length) (hy : w < y.length) : fwW (x.drop w) (y.drop w) w = if x[w] = y[w] then fwW (x.drop (w + 1)) (y.drop (w + 1)) (w + 1) else some w := by
 rw [List.drop_eq_getElem_cons hx, List.drop_eq_getElem_cons hy, fwW]
theorem fwW_out {x y : List ByteArray} {w : Nat} (h : (w < x.length ∧ y.length ≤ w) ∨ (x.length ≤ w ∧ w < y.length)) : fwW (x.drop w) (y.drop w) w = some w := by
 rcases h with ⟨h1, h2⟩ | ⟨h1, h2⟩
 ·rw [List.drop_eq_getElem_cons h1, List.drop_eq_nil_of_le h2]; rfl
 ·rw [List.drop_eq_getElem_cons h2, List.drop_eq_nil_of_le h1]; rfl
theorem fwW_end {x y : List ByteArray} {w : Nat} (h1 : x.length ≤ w) (h2 : y.length ≤ w) : fwW (x.drop w) (y.drop w) w = none := by
 rw [List.drop_eq_nil_of_le h1, List.drop_eq_nil_of_le h2]; rfl
theorem fcP_in {a b : List Pt} {n : Nat} (hx : n < a.length) (hy : n < b.length) : fcP (a.drop n) (b.drop n) n = if a[n].kind = b[n].kind then (match fwW a[n].words b[n].words 0 with | some w => some (n, w) | none => fcP (a.drop (n + 1)) (b.drop (n + 1)) (n + 1)) else some (n, 0) := by
 rw [List.drop_eq_getElem_cons hx, List.drop_eq_getElem_cons hy, fcP]
theorem fcP_out {a b : List Pt} {n : Nat} (h : (n < a.length ∧ b.length ≤ n) ∨ (a.length ≤ n ∧ n < b.length)) : fcP (a.drop n) (b.drop n) n = some (n, 0) := by
 rcases h with ⟨h1, h2⟩ | ⟨h1, h2⟩
 ·rw [List.drop_eq_getElem_cons h1, List.drop_eq_nil_of_le h2]; rfl
 ·rw [List.drop_eq_getElem_cons h2, List.drop_eq_nil_of_le h1]; rfl
theorem fcP_end {a b : List Pt} {n : Nat} (h1 : a.length ≤ n) (h2 : b.length ≤ n) : fcP (a.drop n) (b.drop n) n = none := by
 rw [List.drop_eq_nil_of_le h1, List.drop_eq_nil_of_le h2]; rfl
theorem fcV_some {a b : List Pt} {p : Nat × Nat} (h : fcP a b 0 = some p) : fcV a b = (p, 0) := by rw [fcV, h]
theorem fcV_none {a b : List Pt} (h : fcP a b 0 = none) : fcV a b = ((0, 0), 12) := by rw [fcV, h]
def fcS (v : (Nat × Nat) × Int) : SV := .tup [.agg [(.v (.int .i64 ((v.1.1 : Int)))), (.v (.int .i64 ((v.1.2 : Int))))], (.v (.int .i64 v.2))]
theorem fcS_at (a b : Nat) (e : Int) : fcS ((a, b), e) = .tup [.agg [(.v (.int .i64 ((a : Int)))), (.v (.int .i64 ((b : Int))))], (.v (.int .i64 e))] := rfl
set_option maxHeartbeats 8000000 in
theorem firstChangedR_s (b1 b2 b3 b4 : Bool) (a b : List Pt) (ha : a.length ≤ 1000000) (hb : b.length ≤ 1000000) (haw : ∀ p ∈ a, p.words.length ≤ 1000000) (hbw : ∀ p ∈ b, p.words.length ≤ 1000000) :
  Ctr Tryz.prog 13 [.sl b1 2 (a.map (eP b2)), .sl b3 2 (b.map (eP b4))] (fun rr => rr = ⟨fcS (fcV a b), []⟩) := by
 have encs := And.intro encs fcS_at
 refine Ctr.of (rs := [.cell 4 37, .tmp 5]) Tok true Tryz.func13 rfl rfl rfl rfl (by simp [ofDL]) (fun w0 kp => ?_)
 simp only [↓sx0, sxE, encs, sevalprocAttr]
 refine LoopW.comp [0, 1, 4, 6] (by simp only [sx2, encs, sxR, sevalprocAttr] <;> (try simp) <;> (try omega)) ?_
 simp only [sx2, sxR, sevalprocAttr]
 refine LoopW.up Tok (fun n : Nat => [(6, (.v (.int .i64 ((n : Int)))))]) (fun n => []) (fun n => []) (fun n => []) (fun n => (n ≤ a.length ∨ n ≤ b.length) ∧ fcP (a.drop n) (b.drop n) n = fcP a b 0) (fun n => a.length + b.length - n) (0) (by simp only [sx2, encs, sxR, sevalprocAttr] <;> (try simp) <;> (try omega)) ?_ ?_
 ·exact ⟨.inl (Nat.zero_le _), rfl⟩
 rintro n ⟨hn, hJ⟩
 simp only [↓sx0, sxE, encs, sevalprocAttr]
 by_cases h1 : n < a.length
 ·refine BrW.yes (by omega) ?_
  simp only [↓sx0, sxE, encs, sevalprocAttr]
  refine DrawW.plan Tok mixed (.q 0 <| .q 1 <| .q 2 <| .q 3 <| .q 4 <| .q 5 <| .q 6 <| .q 7 <| .q 8 <| .q 9 <| .q 10 <| .q 11 <| .q 12 <| .q 13 <| .q 14 <| .q 15 <| .q 16 <| .q 17 <| .q 18 <| .q 19 <| .q 20 <| .q 21 <| .q 22 <| .done) (by kernel_rfl) (by kernel_rfl) ?_
  simp only [↓sx0, sxE, encs, sevalprocAttr]
  refine BrW.no (by omega) ?_
  simp only [↓sx0, sxE, encs, sevalprocAttr]
  by_cases h2 : n < b.length
  ·have hin := fcP_in h1 h2
   have hwa := haw a[n] (List.getElem_mem h1)
   have hwb := hbw b[n] (List.getElem_mem h2)
   refine BrW.no (by omega) ?_
   simp only [↓sx0, sxE, encs, sevalprocAttr]
   refine IxW.nat h1 ?_
   simp only [↓sx0, sxE, encs, sevalprocAttr]
   refine IxW.nat h2 ?_
   simp only [↓sx0, sxE, encs, sevalprocAttr]
   refine BrW.dec (fun hk => ?_) (fun hk => ?_)
   ·rw [if_neg hk] at hin
    rw [fcV_some (hJ.symm.trans hin)]
    simp only [↓sx0, sxE, encs, sevalprocAttr]
    refine EndW.fn ?_ ?_ <;> simp only [sx4, encs, kpLL_map, sxR, sevalprocAttr] <;> (try simp) <;> (try omega)
   ·simp only [↓sx0, sxE, encs, sevalprocAttr]
    have hk : a[n].kind = b[n].kind := Decidable.not_not.1 hk
    rw [if_pos hk] at hin
    refine LoopW.comp [0, 1, 4, 6, 7] (by simp only [sx2, encs, sxR, sevalprocAttr] <;> (try simp) <;> (try omega)) ?_
    simp only [sx2, sxR, sevalprocAttr]
    refine LoopW.up Tok (fun w : Nat => [(7, (.v (.int .i64 ((w : Int)))))]) (fun w => []) (fun w => []) (fun w => []) (fun w => (w ≤ a[n].words.length ∨ w ≤ b[n].words.length) ∧ fwW (a[n].words.drop w) (b[n].words.drop w) w = fwW a[n].words b[n].words 0) (fun w => a[n].words.length + b[n].words.length - w) (0) (by simp only [sx2, encs, sxR, sevalprocAttr] <;> (try simp) <;> (try omega)) ?_ ?_
    ·exact ⟨.inl (Nat.zero_le _), rfl⟩
    rintro w ⟨hw, hW⟩
    simp only [↓sx0, sxE, encs, sevalprocAttr]
    refine IxW.nat h1 ?_
    simp only [↓sx0, sxE, encs, sevalprocAttr]
    by_cases h3 : w < a[n].words.length
    ·refine BrW.yes (by omega) ?_
     simp only [↓sx0, sxE, encs, sevalprocAttr]
     refine DrawW.plan Tok mixed (.q 0 <| .q 1 <| .q 2 <| .q 3 <| .q 4 <| .q 5 <| .q 6 <| .q 7 <| .q 8 <| .q 9 <| .q 10 <| .q 11 <| .q 12 <| .q 13 <| .q 14 <| .q 15 <| .q 16 <| .q 17 <| .q 18 <| .q 19 <| .q 20 <| .q 21 <| .q 22 <| .q 23 <| .q 24 <| .q 25 <| .q 26 <| .q 27 <| .q 28 <| .q 29 <| .q 30 <| .q 31 <| .q 32 <| .q 33 <| .q 34 <| .q 35 <| .q 36 <| .done) (by kernel_rfl) (by kernel_rfl) ?_
     simp only [↓sx0, sxE, encs, sevalprocAttr]
     refine IxW.nat h1 ?_
     simp only [↓sx0, sxE, encs, sevalprocAttr]
     refine BrW.no (by omega) ?_
     simp only [↓sx0, sxE, encs, sevalprocAttr]
     refine IxW.nat h2 ?_
     simp only [↓sx0, sxE, encs, sevalprocAttr]
     by_cases h4 : w < b[n].words.length
     ·have hwin := fwW_in h3 h4
      refine BrW.no (by omega) ?_
      simp only [↓sx0, sxE, encs, sevalprocAttr]
      refine IxW.nat h1 ?_
      simp only [↓sx0, sxE, encs, sevalprocAttr]
      refine IxW.nat h3 ?_
      simp only [↓sx0, sxE, encs, sevalprocAttr]
      refine IxW.nat h2 ?_
      simp only [↓sx0, sxE, encs, sevalprocAttr]
      refine IxW.nat h4 ?_
      simp only [↓sx0, sxE, encs, sevalprocAttr]
      refine BrW.dec (fun hq => ?_) (fun hq => ?_)
      ·rw [if_neg hq] at hwin
       rw [hW.symm.trans hwin] at hin
       rw [fcV_some (hJ.symm.trans hin)]
       simp only [↓sx0, sxE, encs, sevalprocAttr]
       refine EndW.fn ?_ ?_ <;> simp only [sx4, encs, kpLL_map, sxR, sevalprocAttr] <;> (try simp) <;> (try omega)
      ·have hq := Decidable.not_not.1 hq
       rw [if_pos hq] at hwin
       simp only [↓sx0, sxE, encs, sevalprocAttr]
       repeat ((with_reducible refine Vc.go ?_ fun _ => ?_); (focus (first | omega | (simp only [InK]; omega) | (simp [InK]; done) | (simp [InK]; omega))); simp only [↓sx0, sxE, encs, sevalprocAttr])
       refine ⟨w + 1, StLe.auto (by simp only [sx2, encs, sxR, sevalprocAttr] <;> (try simp) <;> (try omega)), ?_, ?_⟩
       ·exact ⟨by omega, by rw [← hW, hwin]⟩
       ·omega
     ·refine BrW.yes (by omega) ?_
      have hwo := fwW_out (x := a[n].words) (y := b[n].words) (w := w) (.inl ⟨h3, by omega⟩)
      rw [hW.symm.trans hwo] at hin
      rw [fcV_some (hJ.symm.trans hin)]
      simp only [↓sx0, sxE, encs, sevalprocAttr]
      refine EndW.fn ?_ ?_ <;> simp only [sx4, encs, kpLL_map, sxR, sevalprocAttr] <;> (try simp) <;> (try omega)
    ·refine BrW.no (by omega) ?_
     simp only [↓sx0, sxE, encs, sevalprocAttr]
     refine IxW.nat h2 ?_
     simp only [↓sx0, sxE, encs, sevalprocAttr]
     by_cases h4 : w < b[n].words.length
     ·refine BrW.yes (by omega) ?_
      have hwo := fwW_out (x := a[n].words) (y := b[n].words) (w := w) (.inr ⟨by omega, h4⟩)
      rw [hW.symm.trans hwo] at hin
      rw [fcV_some (hJ.symm.trans hin)]
      simp only [↓sx0, sxE, encs, sevalprocAttr]
      refine DrawW.plan Tok mixed (.q 0 <| .q 1 <| .q 2 <| .q 3 <| .q 4 <| .q 5 <| .q 6 <| .q 7 <| .q 8 <| .q 9 <| .q 10 <| .q 11 <| .q 12 <| .q 13 <| .q 14 <| .q 15 <| .q 16 <| .q 17 <| .q 18 <| .q 19 <| .q 20 <| .q 21 <| .q 22 <| .q 23 <| .q 24 <| .q 25 <| .q 26 <| .q 27 <| .q 28 <| .q 29 <| .q 30 <| .q 31 <| .q 32 <| .q 33 <| .q 34 <| .q 35 <| .q 36 <| .done) (by kernel_rfl) (by kernel_rfl) ?_
      simp only [↓sx0, sxE, encs, sevalprocAttr]
      refine IxW.nat h1 ?_
      simp only [↓sx0, sxE, encs, sevalprocAttr]
      refine BrW.yes (by omega) ?_
      simp only [↓sx0, sxE, encs, sevalprocAttr]
      refine EndW.fn ?_ ?_ <;> simp only [sx4, encs, kpLL_map, sxR, sevalprocAttr] <;> (try simp) <;> (try omega)
     ·refine BrW.no (by omega) ?_
      have hwe := fwW_end (x := a[n].words) (y := b[n].words) (w := w) (by omega) (by omega)
      rw [hW.symm.trans hwe] at hin
      simp only at hin
      simp only [↓sx0, sxE, encs, sevalprocAttr]
      repeat ((with_reducible refine Vc.go ?_ fun _ => ?_); (focus (first | omega | (simp only [InK]; omega) | (simp [InK]; done) | (simp [InK]; omega))); simp only [↓sx0, sxE, encs, sevalprocAttr])
      refine ⟨n + 1, StLe.auto (by simp only [sx2, encs, sxR, sevalprocAttr] <;> (try simp) <;> (try omega)), ?_, ?_⟩
      ·exact ⟨by omega, by rw [← hJ, hin]⟩
      ·omega
  ·refine BrW.yes (by omega) ?_
   have hin := fcP_out (a := a) (b := b) (n := n) (.inl ⟨h1, by omega⟩)
   rw [fcV_some (hJ.symm.trans hin)]
   simp only [↓sx0, sxE, encs, sevalprocAttr]
   refine EndW.fn ?_ ?_ <;> simp only [sx4, encs, kpLL_map, sxR, sevalprocAttr] <;> (try simp) <;> (try omega)
 ·refine BrW.no (by omega) ?_
  simp only [↓sx0, sxE, encs, sevalprocAttr]
  by_cases h2 : n < b.length
  ·refine BrW.yes (by omega) ?_
   simp only [↓sx0, sxE, encs, sevalprocAttr]
   refine DrawW.plan Tok mixed (.q 0 <| .q 1 <| .q 2 <| .q 3 <| .q 4 <| .q 5 <| .q 6 <| .q 7 <| .q 8 <| .q 9 <| .q 10 <| .q 11 <| .q 12 <| .q 13 <| .q 14 <| .q 15 <| .q 16 <| .q 17 <| .q 18 <| .q 19 <| .q 20 <| .q 21 <| .q 22 <| .done) (by kernel_rfl) (by kernel_rfl) ?_
   simp only [↓sx0, sxE, encs, sevalprocAttr]
   refine BrW.yes (by omega) ?_
   have hin := fcP_out (a := a) (b := b) (n := n) (.inr ⟨by omega, h2⟩)
   rw [fcV_some (hJ.symm.trans hin)]
   simp only [↓sx0, sxE, encs, sevalprocAttr]
   refine EndW.fn ?_ ?_ <;> simp only [sx4, encs, kpLL_map, sxR, sevalprocAttr] <;> (try simp) <;> (try omega)
  ·refine BrW.no (by omega) ?_
   have hin := fcP_end (a := a) (b := b) (n := n) (by omega) (by omega)
   rw [fcV_none (hJ.symm.trans hin)]
   simp only [↓sx0, sxE, encs, sevalprocAttr]
   refine EndW.fn ?_ ?_ <;> simp only [sx4, encs, kpLL_map, sxR, sevalprocAttr] <;> (try simp) <;> (try omega)
def fcA (a b : List Pt) : (Nat × Nat) × Int := if (partsErr a).2 = 0 then (if (partsErr b).2 = 0 then fcV a b else ((0, 0), (partsErr b).2)) else ((0, 0), (partsErr a).2)
set_option maxHeartbeats 8000000 in
theorem firstChanged_s (b1 b2 b3 b4 : Bool) (a b : List Pt) (ha : a.length ≤ 1000000) (hb : b.length ≤ 1000000) (haw : ∀ p ∈ a, p.words.length ≤ 1000000) (hbw : ∀ p ∈ b, p.words.length ≤ 1000000) :
  Ctr Tryz.prog 10 [.sl b1 2 (a.map (eP b2)), .sl b3 2 (b.map (eP b4))] (fun rr => rr = ⟨fcS (fcA a b), []⟩) := by
 have encs := And.intro encs fcS_at
 refine Ctr.of (rs := [.cell 4 37, .tmp 5]) Tok true Tryz.func10 rfl rfl rfl rfl (by simp [ofDL]) (fun w0 kp => ?_)
 simp only [↓sx0, sxE, encs, sevalprocAttr]
 refine LoopW.comp [0, 1, 4, 15, 16] (by simp only [sx2, encs, sxR, sevalprocAttr] <;> (try simp) <;> (try omega)) ?_
 simp only [sx2, sxR, sevalprocAttr]
 refine LoopW.up Tok (fun k : Nat => [(16, (.v (.int .i64 k)))]) (fun k => []) (fun k => []) (fun k => []) (fun k => k ≤ 2 ∧ (0 < k → (partsErr a).2 = 0) ∧ (1 < k → (partsErr b).2 = 0)) (fun k => 2 - k) (0) (by simp only [sx2, encs, sxR, sevalprocAttr] <;> (try simp) <;> (try omega)) ?_ ?_
 ·exact ⟨by omega, fun h => absurd h (by omega), fun h => absurd h (by omega)⟩
 rintro k ⟨hk, h1, h2⟩
 simp only [↓sx0, sxE, encs, sevalprocAttr]
 refine BrW.dec (fun hlt => ?_) (fun hlt => ?_)
 ·have hk2 : k = 0 ∨ k = 1 := by omega
  rcases hk2 with rfl | rfl
  ·simp only [↓sx0, sxE, encs, sevalprocAttr]
   refine ArrIx.go (by simp) ?_
   simp only [↓sx0, sxE, encs, sevalprocAttr]
   refine CallI.fn (checkCopy_s b1 b2 a) (by simp only [sx3, encs, sxR, sevalprocAttr] <;> (try simp) <;> (try rfl)) ?_
   simp only [↓sx0, sxE, encs, sevalprocAttr]
   refine BrW.dec (fun he => ?_) (fun he => ?_)
   ·rw [show fcA a b = ((0, 0), (partsErr a).2) by rw [fcA, if_neg he]]
    simp only [↓sx0, sxE, encs, sevalprocAttr]
    refine EndW.fn ?_ ?_ <;> simp only [sx4, encs, kpLL_map, sxR, sevalprocAttr] <;> (try simp) <;> (try omega)
   ·simp only [↓sx0, sxE, encs, sevalprocAttr]
    repeat ((with_reducible refine Vc.go ?_ fun _ => ?_); (focus (first | omega | (simp only [InK]; omega) | (simp [InK]; done) | (simp [InK]; omega))); simp only [↓sx0, sxE, encs, sevalprocAttr])
    refine ⟨1, StLe.auto (by simp only [sx2, encs, sxR, sevalprocAttr] <;> (try simp) <;> (try omega)), ?_, ?_⟩
    ·exact ⟨by omega, fun _ => by omega, fun h => absurd h (by omega)⟩
    ·omega
  ·simp only [↓sx0, sxE, encs, sevalprocAttr]
   refine ArrIx.go (by simp) ?_
   simp only [↓sx0, sxE, encs, sevalprocAttr]
   refine CallI.fn (checkCopy_s b3 b4 b) (by simp only [sx3, encs, sxR, sevalprocAttr] <;> (try simp) <;> (try rfl)) ?_
   simp only [↓sx0, sxE, encs, sevalprocAttr]
   refine BrW.dec (fun he => ?_) (fun he => ?_)
   ·rw [show fcA a b = ((0, 0), (partsErr b).2) by rw [fcA, if_pos (h1 (by omega)), if_neg he]]
    simp only [↓sx0, sxE, encs, sevalprocAttr]
    refine EndW.fn ?_ ?_ <;> simp only [sx4, encs, kpLL_map, sxR, sevalprocAttr] <;> (try simp) <;> (try omega)
   ·simp only [↓sx0, sxE, encs, sevalprocAttr]
    repeat ((with_reducible refine Vc.go ?_ fun _ => ?_); (focus (first | omega | (simp only [InK]; omega) | (simp [InK]; done) | (simp [InK]; omega))); simp only [↓sx0, sxE, encs, sevalprocAttr])
    refine ⟨2, StLe.auto (by simp only [sx2, encs, sxR, sevalprocAttr] <;> (try simp) <;> (try omega)), ?_, ?_⟩
    ·exact ⟨by omega, fun _ => h1 (by omega), fun h => by omega⟩
    ·omega
 rw [show fcA a b = fcV a b by rw [fcA, if_pos (h1 (by omega)), if_pos (h2 (by omega))]]
 clear h1 h2 hlt hk
 simp only [↓sx0, sxE, encs, sevalprocAttr]
 refine LoopW.comp [0, 1, 4, 30, 31] (by simp only [sx2, encs, sxR, sevalprocAttr] <;> (try simp) <;> (try omega)) ?_
 simp only [sx2, sxR, sevalprocAttr]
 refine LoopW.up Tok (fun n : Nat => [(31, (.v (.int .i64 ((n : Int)))))]) (fun n => []) (fun n => []) (fun n => []) (fun n => (n ≤ a.length ∨ n ≤ b.length) ∧ fcP (a.drop n) (b.drop n) n = fcP a b 0) (fun n => a.length + b.length - n) (0) (by simp only [sx2, encs, sxR, sevalprocAttr] <;> (try simp) <;> (try omega)) ?_ ?_
 ·exact ⟨.inl (Nat.zero_le _), rfl⟩
 rintro n ⟨hn, hJ⟩
 simp only [↓sx0, sxE, encs, sevalprocAttr]
 by_cases hm : n < a.length ∨ n < b.length
 ·refine BrW.yes (by omega) ?_
  simp only [↓sx0, sxE, encs, sevalprocAttr]
  refine DrawW.plan Tok mixed (.q 0 <| .q 1 <| .q 2 <| .q 3 <| .q 4 <| .q 5 <| .q 6 <| .q 7 <| .q 8 <| .q 9 <| .q 10 <| .q 11 <| .q 12 <| .q 13 <| .q 14 <| .q 15 <| .q 16 <| .q 17 <| .q 18 <| .q 19 <| .done) (by kernel_rfl) (by kernel_rfl) ?_
  simp only [↓sx0, sxE, encs, sevalprocAttr]
  by_cases hi : n < a.length ∧ n < b.length
  ·obtain ⟨h1, h2⟩ := hi
   have hin := fcP_in h1 h2
   have hwa := haw a[n] (List.getElem_mem h1)
   have hwb := hbw b[n] (List.getElem_mem h2)
   refine BrW.no (by omega) ?_
   simp only [↓sx0, sxE, encs, sevalprocAttr]
   refine IxW.nat h1 ?_
   simp only [↓sx0, sxE, encs, sevalprocAttr]
   refine IxW.nat h2 ?_
   simp only [↓sx0, sxE, encs, sevalprocAttr]
   refine BrW.dec (fun hk => ?_) (fun hk => ?_)
   ·rw [if_neg hk] at hin
    rw [fcV_some (hJ.symm.trans hin)]
    simp only [↓sx0, sxE, encs, sevalprocAttr]
    refine EndW.fn ?_ ?_ <;> simp only [sx4, encs, kpLL_map, sxR, sevalprocAttr] <;> (try simp) <;> (try omega)
   ·simp only [↓sx0, sxE, encs, sevalprocAttr]
    have hk : a[n].kind = b[n].kind := Decidable.not_not.1 hk
    rw [if_pos hk] at hin
    refine DrawW.plan Tok mixed (.q 0 <| .q 1 <| .q 2 <| .q 3 <| .q 4 <| .q 5 <| .q 6 <| .q 7 <| .q 8 <| .q 9 <| .q 10 <| .q 11 <| .done) (by kernel_rfl) (by kernel_rfl) ?_
    simp only [↓sx0, sxE, encs, sevalprocAttr]
    refine IxW.nat h1 ?_
    simp only [↓sx0, sxE, encs, sevalprocAttr]
    refine IxW.nat h2 ?_
    simp only [↓sx0, sxE, encs, sevalprocAttr]
    refine LoopW.comp [0, 1, 4, 9, 10, 11, 30, 31, 70, 71] (by simp only [sx2, encs, sxR, sevalprocAttr] <;> (try simp) <;> (try omega)) ?_
    simp only [sx2, sxR, sevalprocAttr]
    refine LoopW.up Tok (fun w : Nat => [(71, (.v (.int .i64 ((w : Int)))))]) (fun w => []) (fun w => []) (fun w => []) (fun w => (w ≤ a[n].words.length ∨ w ≤ b[n].words.length) ∧ fwW (a[n].words.drop w) (b[n].words.drop w) w = fwW a[n].words b[n].words 0) (fun w => a[n].words.length + b[n].words.length - w) (0) (by simp only [sx2, encs, sxR, sevalprocAttr] <;> (try simp) <;> (try omega)) ?_ ?_
    ·exact ⟨.inl (Nat.zero_le _), rfl⟩
    rintro w ⟨hw, hW⟩
    simp only [↓sx0, sxE, encs, sevalprocAttr]
    by_cases hm2 : w < a[n].words.length ∨ w < b[n].words.length
    ·refine BrW.yes (by omega) ?_
     simp only [↓sx0, sxE, encs, sevalprocAttr]
     refine DrawW.plan Tok mixed (.q 0 <| .q 1 <| .q 2 <| .q 3 <| .q 4 <| .q 5 <| .q 6 <| .q 7 <| .q 8 <| .q 9 <| .q 10 <| .q 11 <| .q 12 <| .q 13 <| .q 14 <| .q 15 <| .q 16 <| .q 17 <| .done) (by kernel_rfl) (by kernel_rfl) ?_
     simp only [↓sx0, sxE, encs, sevalprocAttr]
     by_cases hi2 : w < a[n].words.length ∧ w < b[n].words.length
     ·obtain ⟨h3, h4⟩ := hi2
      have hwin := fwW_in h3 h4
      refine BrW.no (by omega) ?_
      simp only [↓sx0, sxE, encs, sevalprocAttr]
      refine IxW.nat h3 ?_
      simp only [↓sx0, sxE, encs, sevalprocAttr]
      refine IxW.nat h4 ?_
      simp only [↓sx0, sxE, encs, sevalprocAttr]
      refine BrW.dec (fun hq => ?_) (fun hq => ?_)
      ·rw [if_neg hq] at hwin
       rw [hW.symm.trans hwin] at hin
       rw [fcV_some (hJ.symm.trans hin)]
       simp only [↓sx0, sxE, encs, sevalprocAttr]
       refine EndW.fn ?_ ?_ <;> simp only [sx4, encs, kpLL_map, sxR, sevalprocAttr] <;> (try simp) <;> (try omega)
      ·have hq := Decidable.not_not.1 hq
       rw [if_pos hq] at hwin
       simp only [↓sx0, sxE, encs, sevalprocAttr]
       repeat ((with_reducible refine Vc.go ?_ fun _ => ?_); (focus (first | omega | (simp only [InK]; omega) | (simp [InK]; done) | (simp [InK]; omega))); simp only [↓sx0, sxE, encs, sevalprocAttr])
       refine ⟨w + 1, StLe.auto (by simp only [sx2, encs, sxR, sevalprocAttr] <;> (try simp) <;> (try omega)), ?_, ?_⟩
       ·exact ⟨by omega, by rw [← hW, hwin]⟩
       ·omega
     ·refine BrW.yes (by omega) ?_
      have hwo := fwW_out (x := a[n].words) (y := b[n].words) (w := w) (by omega)
      rw [hW.symm.trans hwo] at hin
      rw [fcV_some (hJ.symm.trans hin)]
      simp only [↓sx0, sxE, encs, sevalprocAttr]
      refine EndW.fn ?_ ?_ <;> simp only [sx4, encs, kpLL_map, sxR, sevalprocAttr] <;> (try simp) <;> (try omega)
    ·refine BrW.no (by omega) ?_
     have hwe := fwW_end (x := a[n].words) (y := b[n].words) (w := w) (by omega) (by omega)
     rw [hW.symm.trans hwe] at hin
     simp only at hin
     simp only [↓sx0, sxE, encs, sevalprocAttr]
     repeat ((with_reducible refine Vc.go ?_ fun _ => ?_); (focus (first | omega | (simp only [InK]; omega) | (simp [InK]; done) | (simp [InK]; omega))); simp only [↓sx0, sxE, encs, sevalprocAttr])
     refine ⟨n + 1, StLe.auto (by simp only [sx2, encs, sxR, sevalprocAttr] <;> (try simp) <;> (try omega)), ?_, ?_⟩
     ·exact ⟨by omega, by rw [← hJ, hin]⟩
     ·omega
  ·refine BrW.yes (by omega) ?_
   have hin := fcP_out (a := a) (b := b) (n := n) (by omega)
   rw [fcV_some (hJ.symm.trans hin)]
   simp only [↓sx0, sxE, encs, sevalprocAttr]
   refine EndW.fn ?_ ?_ <;> simp only [sx4, encs, kpLL_map, sxR, sevalprocAttr] <;> (try simp) <;> (try omega)
 ·refine BrW.no (by omega) ?_
  have hin := fcP_end (a := a) (b := b) (n := n) (by omega) (by omega)
  rw [fcV_none (hJ.symm.trans hin)]
  simp only [↓sx0, sxE, encs, sevalprocAttr]
  refine EndW.fn ?_ ?_ <;> simp only [sx4, encs, kpLL_map, sxR, sevalprocAttr] <;> (try simp) <;> (try omega)
end Go.Proofs.YthkkcemefngeiaaGreat

