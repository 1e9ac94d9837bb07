/-
 Chapter 8, walks: two marks in the other order (reference).
-/
import Derived.Test.YtmiibjncomgneaaVGC
namespace Go.Proofs.Ytmiibjncomgneaa
open Go Go.Vx
set_option linter.unusedSimpArgs false
set_option linter.unusedVariables false
set_option maxRecDepth 20000
def orR (r : Option (Mk × Mk)) (a b : Mk) : SV := match r with
 | some (x, y) => .tup [mV y, mV x, (.v (.bool (true)))]
 | none => .tup [mV b, mV a, (.v (.bool (false)))]
end Go.Proofs.Ytmiibjncomgneaa
/-
 Chapter 8, walks: two marks in the other order (reference), ahead of a break or a join.
-/
namespace Go.Proofs.Ytmiibjncomgneaa
open Go Go.Vx
set_option linter.unusedSimpArgs false
set_option linter.unusedVariables false
set_option maxRecDepth 20000
end Go.Proofs.Ytmiibjncomgneaa
/-
 Chapter 8, walks: two marks in the other order, both sides.
-/
namespace Go.Proofs.Ytmiibjncomgneaa
open Go Go.Vx
set_option linter.unusedSimpArgs false
set_option linter.unusedVariables false
set_option maxRecDepth 20000
def orderP (a b : Mk) : Option (Mk × Mk) :=
 if a.mark = 5 then brokenP a b else if a.mark = 6 then joinedP a b else if b.mark = 5 then breaksP a b else if b.mark = 6 then joinsP a b else quietP a b
/-- what a mark must have at its word. -/
def bdE (m : Mk) : Int := if (ptsB m = true ∧ m.word = 0) ∨ (m.mark = 7 ∧ m.word ≠ 0) then 3 else 0
end Go.Proofs.Ytmiibjncomgneaa
/-
 Chapter 8, walks: marks are right (reference).
-/
namespace Go.Proofs.Ytmiibjncomgneaa
open Go Go.Vx
set_option linter.unusedSimpArgs false
set_option linter.unusedVariables false
set_option maxRecDepth 20000
end Go.Proofs.Ytmiibjncomgneaa
/-
 Chapter 8, walks: both marks in the other order, if they are right.
-/
namespace Go.Proofs.Ytmiibjncomgneaa
open Go Go.Vx
set_option linter.unusedSimpArgs false
set_option linter.unusedVariables false
set_option maxRecDepth 20000
def swE (a b : Mk) : (Mk × Mk) × Int := if mkErr a = 0 then (if mkErr b = 0 then swapF (orderP a b) else ((mk0, mk0), mkErr b)) else ((mk0, mk0), mkErr a)
theorem mk_ok {m : Mk} (h : mkErr m = 0) : (1 ≤ m.mark ∧ m.mark ≤ 7) ∧ inR m = true ∧ wantB m.mark m.old m.new m.was m.kind = true ∧ bdE m = 0 := by
 unfold mkErr at h
 split at h
 ·rename_i h1
  split at h
  ·rename_i h2
   split at h
   ·rename_i h3
    exact ⟨h1, h2, h3.1, by rw [bdE, if_neg (fun h => h.elim h3.2.1 h3.2.2)]⟩
   ·omega
  ·omega
 ·omega
theorem brief_s (m : Mk) : Ctr Try.prog 19 [mV m] (fun rr => rr = ⟨(.v (.bool (decide (m.old.size ≤ 40 ∧ m.new.size ≤ 40)))), []⟩) := by
 refine Ctr.of (rs := [.tmp 2]) Tok true Try.func19 rfl rfl rfl rfl (by simp [ofDL]) (fun w0 kp => ?_)
 simp only [↓sx0, sxE, encs, sevalprocAttr]
 refine BrW.dec (fun h => ?_) (fun h => ?_)
 ·rw [show decide (m.old.size ≤ 40 ∧ m.new.size ≤ 40) = decide ((m.new.size : Int) ≤ 40) by rw [decide_eq_decide]; omega]
  simp only [↓sx0, sxE, encs, sevalprocAttr]
  refine EndW.fn ?_ ?_ <;> simp only [sx4, encs, kpLL_map, sxR, sevalprocAttr] <;> (try simp) <;> (try omega)
 ·rw [show decide (m.old.size ≤ 40 ∧ m.new.size ≤ 40) = false by rw [decide_eq_false_iff_not]; omega]
  simp only [↓sx0, sxE, encs, sevalprocAttr]
  refine EndW.fn ?_ ?_ <;> simp only [sx4, encs, kpLL_map, sxR, sevalprocAttr] <;> (try simp) <;> (try omega)
end Go.Proofs.Ytmiibjncomgneaa
