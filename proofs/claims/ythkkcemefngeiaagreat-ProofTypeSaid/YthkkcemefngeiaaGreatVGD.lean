/-
 Chapter 8, walks: two marks in the other order (reference).
-/
import Derived.Test.YthkkcemefngeiaaGreatVGC
namespace Go.Proofs.YthkkcemefngeiaaGreat
open Go Go.Vx
set_option linter.unusedSimpArgs false
set_option linter.unusedVariables false
set_option maxRecDepth 20000
def orR (r : Option (Mk × Mk)) (a b : Mk) : SV := match r with
 | some (x, y) => .tup [mV y, mV x, (.v (.bool (true)))]
 | none => .tup [mV b, mV a, (.v (.bool (false)))]
end Go.Proofs.YthkkcemefngeiaaGreat
/-
 Chapter 8, walks: two marks in the other order (reference), ahead of a break or a join.
-/
namespace Go.Proofs.YthkkcemefngeiaaGreat
open Go Go.Vx
set_option linter.unusedSimpArgs false
set_option linter.unusedVariables false
set_option maxRecDepth 20000
end Go.Proofs.YthkkcemefngeiaaGreat
/-
 Chapter 8, walks: two marks in the other order, both sides.
-/
namespace Go.Proofs.YthkkcemefngeiaaGreat
open Go Go.Vx
set_option linter.unusedSimpArgs false
set_option linter.unusedVariables false
set_option maxRecDepth 20000
def orderP (a b : Mk) : Option (Mk × Mk) :=
 if a.mark = 5 then brokenP a b else if a.mark = 6 then joinedP a b else if b.mark = 5 then breaksP a b else if b.mark = 6 then joinsP a b else quietP a b
theorem swapped_s (a b : Mk) (ha : inR a = true) (hb : inR b = true) : Ctr Tryz.prog 35 [mV a, mV b] (fun rr => rr = ⟨.tup [prSV (swapF (orderP a b)).1, (.v (.int .i64 ((swapF (orderP a b)).2)))], []⟩) := by
 unfold orderP
 by_cases h1 : a.mark = 5
 ·rw [if_pos h1]; exact swappedB_s a b ha hb h1
 rw [if_neg h1]
 by_cases h2 : a.mark = 6
 ·rw [if_pos h2]; exact swappedJ_s a b ha hb h2
 rw [if_neg h2]
 by_cases h3 : b.mark = 5
 ·rw [if_pos h3]; exact swappedK_s a b ha hb h1 h2 h3
 rw [if_neg h3]
 by_cases h4 : b.mark = 6
 ·rw [if_pos h4]; exact swappedL_s a b ha hb h1 h2 h4
 rw [if_neg h4]
 exact swappedQ_s a b ha hb h1 h2 h3 h4
/-- what a mark must have at its word. -/
def bdE (m : Mk) : Int := if (ptsB m = true ∧ m.word = 0) ∨ (m.mark = 7 ∧ m.word ≠ 0) then 3 else 0
end Go.Proofs.YthkkcemefngeiaaGreat
/-
 Chapter 8, walks: marks are right (reference).
-/
namespace Go.Proofs.YthkkcemefngeiaaGreat
open Go Go.Vx
set_option linter.unusedSimpArgs false
set_option linter.unusedVariables false
set_option maxRecDepth 20000
end Go.Proofs.YthkkcemefngeiaaGreat
/-
 Chapter 8, walks: both marks in the other order, if they are right.
-/
namespace Go.Proofs.YthkkcemefngeiaaGreat
open Go Go.Vx
set_option linter.unusedSimpArgs false
set_option linter.unusedVariables false
set_option maxRecDepth 20000
def swE (a b : Mk) : (Mk × Mk) × Int := if mkErr a = 0 then (if mkErr b = 0 then swapF (orderP a b) else ((mk0, mk0), mkErr b)) else ((mk0, mk0), mkErr a)
theorem mk_ok {m : Mk} (h : mkErr m = 0) : (1 ≤ m.mark ∧ m.mark ≤ 7) ∧ inR m = true ∧ wantB m.mark m.old m.new m.was m.kind = true ∧ bdE m = 0 := by
 unfold mkErr at h
 split at h
 ·rename_i h1
  split at h
  ·rename_i h2
   split at h
   ·rename_i h3
    exact ⟨h1, h2, h3.1, by rw [bdE, if_neg (fun h => h.elim h3.2.1 h3.2.2)]⟩
   ·omega
  ·omega
 ·omega
set_option maxHeartbeats 4000000 in
theorem Swapped_s (a b : Mk) (za : MkSz a) (zb : MkSz b) : Ctr Tryz.prog 19 [mV a, mV b] (fun rr => rr = ⟨.tup [prSV (swE a b).1, (.v (.int .i64 ((swE a b).2)))], []⟩) := by
 have encs := And.intro encs prE
 refine Ctr.of (rs := [.cell 4 54, .tmp 5]) Tok true Tryz.func19 rfl rfl rfl rfl (by simp [ofDL]) (fun w0 kp => ?_)
 simp only [↓sx0, sxE, encs, sevalprocAttr]
 refine LoopW.comp [2, 3, 4, 11, 12] (by simp only [sx2, encs, sxR, sevalprocAttr] <;> (try simp) <;> (try omega)) ?_
 simp only [sx2, sxR, sevalprocAttr]
 refine LoopW.up Tok (fun k : Nat => [(12, (.v (.int .i64 k)))]) (fun k => []) (fun k => []) (fun k => []) (fun k => k ≤ 2 ∧ (0 < k → mkErr a = 0) ∧ (1 < k → mkErr b = 0)) (fun k => 2 - k) (0) (by simp only [sx2, encs, sxR, sevalprocAttr] <;> (try simp) <;> (try omega)) ?_ ?_
 ·exact ⟨by omega, fun h => absurd h (by omega), fun h => absurd h (by omega)⟩
 rintro k ⟨hk, h1, h2⟩
 simp only [↓sx0, sxE, encs, sevalprocAttr]
 refine BrW.dec (fun hlt => ?_) (fun hlt => ?_)
 ·have hk2 : k = 0 ∨ k = 1 := by omega
  rcases hk2 with rfl | rfl
  ·simp only [↓sx0, sxE, encs, sevalprocAttr]
   refine ArrIx.go (by simp) ?_
   simp only [↓sx0, sxE, encs, sevalprocAttr]
   refine CallI.fn (checkMark_s a za) (by simp only [sx3, encs, sxR, sevalprocAttr] <;> (try simp) <;> (try rfl)) ?_
   simp only [↓sx0, sxE, encs, sevalprocAttr]
   refine BrW.dec (fun he => ?_) (fun he => ?_)
   ·rw [show swE a b = ((mk0, mk0), mkErr a) by rw [swE, if_neg he]]
    simp only [↓sx0, sxE, encs, sevalprocAttr]
    refine EndW.fn ?_ ?_ <;> simp only [sx4, encs, kpLL_map, sxR, sevalprocAttr] <;> (try simp) <;> (try omega)
   ·simp only [↓sx0, sxE, encs, sevalprocAttr]
    repeat ((with_reducible refine Vc.go ?_ fun _ => ?_); (focus (first | omega | (simp only [InK]; omega) | (simp [InK]; done) | (simp [InK]; omega))); simp only [↓sx0, sxE, encs, sevalprocAttr])
    refine ⟨1, StLe.auto (by simp only [sx2, encs, sxR, sevalprocAttr] <;> (try simp) <;> (try omega)), ?_, ?_⟩
    ·exact ⟨by omega, fun _ => by omega, fun h => absurd h (by omega)⟩
    ·omega
  ·simp only [↓sx0, sxE, encs, sevalprocAttr]
   refine ArrIx.go (by simp) ?_
   simp only [↓sx0, sxE, encs, sevalprocAttr]
   refine CallI.fn (checkMark_s b zb) (by simp only [sx3, encs, sxR, sevalprocAttr] <;> (try simp) <;> (try rfl)) ?_
   simp only [↓sx0, sxE, encs, sevalprocAttr]
   refine BrW.dec (fun he => ?_) (fun he => ?_)
   ·rw [show swE a b = ((mk0, mk0), mkErr b) by rw [swE, if_pos (h1 (by omega)), if_neg he]]
    simp only [↓sx0, sxE, encs, sevalprocAttr]
    refine EndW.fn ?_ ?_ <;> simp only [sx4, encs, kpLL_map, sxR, sevalprocAttr] <;> (try simp) <;> (try omega)
   ·simp only [↓sx0, sxE, encs, sevalprocAttr]
    repeat ((with_reducible refine Vc.go ?_ fun _ => ?_); (focus (first | omega | (simp only [InK]; omega) | (simp [InK]; done) | (simp [InK]; omega))); simp only [↓sx0, sxE, encs, sevalprocAttr])
    refine ⟨2, StLe.auto (by simp only [sx2, encs, sxR, sevalprocAttr] <;> (try simp) <;> (try omega)), ?_, ?_⟩
    ·exact ⟨by omega, fun _ => h1 (by omega), fun h => by omega⟩
    ·omega
 ·have e1 := h1 (by omega)
  have e2 := h2 (by omega)
  simp only [↓sx0, sxE, encs, sevalprocAttr]
  refine CallI.fn (swapped_s a b (mk_ok e1).2.1 (mk_ok e2).2.1) (by simp only [sx3, encs, sxR, sevalprocAttr] <;> (try simp) <;> (try rfl)) ?_
  simp only [↓sx0, sxE, encs, sevalprocAttr]
  rw [show swE a b = swapF (orderP a b) by rw [swE, if_pos e1, if_pos e2]]
  refine EndW.fn ?_ ?_ <;> simp only [sx4, encs, kpLL_map, sxR, sevalprocAttr] <;> (try simp) <;> (try omega)
end Go.Proofs.YthkkcemefngeiaaGreat
