/-
 Chapter 8, walks: two marks in the other order, the first one joins.
-/
import Derived.Test.YtmbemlmkfoblhaaGreatDoorVGE
set_option linter.unusedSimpArgs false
set_option linter.unusedVariables false
namespace Go.Proofs.YtmbemlmkfoblhaaGreatDoor
open Go Go.Vx
set_option maxRecDepth 20000
end Go.Proofs.YtmbemlmkfoblhaaGreatDoor
/-
 Chapter 8, walks: two marks in the other order, the second one breaks.
-/
namespace Go.Proofs.YtmbemlmkfoblhaaGreatDoor
open Go Go.Vx
set_option maxRecDepth 20000
end Go.Proofs.YtmbemlmkfoblhaaGreatDoor
/-
 Chapter 8, walks: two marks in the other order, the second one joins.
-/
namespace Go.Proofs.YtmbemlmkfoblhaaGreatDoor
open Go Go.Vx
set_option maxRecDepth 20000
end Go.Proofs.YtmbemlmkfoblhaaGreatDoor
/-
 Chapter 8, walks: two marks in the other order (reference).
-/
namespace Go.Proofs.YtmbemlmkfoblhaaGreatDoor
open Go Go.Vx
set_option maxRecDepth 20000
def orR (r : Option (Mk × Mk)) (a b : Mk) : SV := match r with
 | some (x, y) => .tup [mV y, mV x, (.v (.bool (true)))]
 | none => .tup [mV b, mV a, (.v (.bool (false)))]
end Go.Proofs.YtmbemlmkfoblhaaGreatDoor
/-
 Chapter 8, walks: two marks in the other order (reference), ahead of a break or a join.
-/
namespace Go.Proofs.YtmbemlmkfoblhaaGreatDoor
open Go Go.Vx
set_option maxRecDepth 20000
end Go.Proofs.YtmbemlmkfoblhaaGreatDoor
/-
 Chapter 8, walks: two marks in the other order, both sides.
-/
namespace Go.Proofs.YtmbemlmkfoblhaaGreatDoor
open Go Go.Vx
set_option maxRecDepth 20000
def orderP (a b : Mk) : Option (Mk × Mk) :=
 if a.mark = 5 then brokenP a b else if a.mark = 6 then joinedP a b else if b.mark = 5 then breaksP a b else if b.mark = 6 then joinsP a b else quietP a b
theorem placeR_s (m : Mk) : Ctr Tryz.prog 41 [mV m] (fun rr => rr = ⟨(.v (.int .i64 (if inR m = true then 0 else 2))), []⟩) := by
 refine Ctr.of (rs := [.tmp 2]) Tok true Tryz.func41 rfl rfl rfl rfl (by simp [ofDL]) (fun w0 kp => ?_)
 simp only [↓sx0, xE, sevalprocAttr]
 refine CallI.fn (withinB_s m.part 0 59) (by simp only [sx3, xR, sevalprocAttr] <;> (try simp) <;> (try rfl)) ?_
 simp only [↓sx0, xE, sevalprocAttr]
 refine BrW.of (fun h => ?_) (fun h => ?_)
 ·simp only [↓sx0, xE, sevalprocAttr]
  repeat ((with_reducible refine BrW.tt h ?_); simp only [↓sx0, xE, sevalprocAttr])
  refine CallI.fn (withinB_s m.word 0 100) (by simp only [sx3, xR, sevalprocAttr] <;> (try simp) <;> (try rfl)) ?_
  simp only [↓sx0, xE, sevalprocAttr]
  refine BrW.of (fun h2 => ?_) (fun h2 => ?_)
  ·rw [if_pos (show inR m = true by rw [inR, h, h2]; rfl)]
   simp only [↓sx0, xE, sevalprocAttr]
   repeat ((with_reducible refine BrW.tt h2 ?_); simp only [↓sx0, xE, sevalprocAttr])
   refine EndW.fn ?_ ?_ <;> simp only [sx4, xK, sevalprocAttr] <;> (try simp) <;> (try omega)
  ·rw [if_neg (show ¬ inR m = true by rw [inR, h, h2]; simp)]
   simp only [↓sx0, xE, sevalprocAttr]
   repeat ((with_reducible refine BrW.ff h2 ?_); simp only [↓sx0, xE, sevalprocAttr])
   refine EndW.fn ?_ ?_ <;> simp only [sx4, xK, sevalprocAttr] <;> (try simp) <;> (try omega)
 ·rw [if_neg (show ¬ inR m = true by rw [inR, h]; simp)]
  simp only [↓sx0, xE, sevalprocAttr]
  repeat ((with_reducible refine BrW.ff h ?_); simp only [↓sx0, xE, sevalprocAttr])
  refine EndW.fn ?_ ?_ <;> simp only [sx4, xK, sevalprocAttr] <;> (try simp) <;> (try omega)
/-- what a mark must have at its word. -/
def bdE (m : Mk) : Int := if (ptsB m = true ∧ m.word = 0) ∨ (m.mark = 7 ∧ m.word ≠ 0) then 3 else 0
theorem boundsR_s (m : Mk) : Ctr Tryz.prog 43 [mV m] (fun rr => rr = ⟨(.v (.int .i64 (bdE m))), []⟩) := by
 have hp : ptsB m = true ↔ (m.mark = 5 ∨ m.mark = 6) := by simp [ptsB]
 refine Ctr.of (rs := [.tmp 2]) Tok true Tryz.func43 rfl rfl rfl rfl (by simp [ofDL]) (fun w0 kp => ?_)
 simp only [↓sx0, xE, sevalprocAttr]
 have fin : ∀ c : Prop, [Decidable c] → True := fun _ _ => trivial
 by_cases h56 : m.mark = 5 ∨ m.mark = 6
 ·by_cases hw : m.word = 0
  ·rw [show bdE m = 3 by rw [bdE, if_pos (.inl ⟨hp.2 h56, hw⟩)]]
   rcases h56 with h5 | h6
   ·repeat ((first | (with_reducible refine BrW.yes (by omega) ?_) | (with_reducible refine BrW.no (by omega) ?_)); (try simp only [↓sx0, xE, sevalprocAttr]))
    refine EndW.fn ?_ ?_ <;> simp only [sx4, xK, sevalprocAttr] <;> (try simp) <;> (try omega)
   ·repeat ((first | (with_reducible refine BrW.yes (by omega) ?_) | (with_reducible refine BrW.no (by omega) ?_)); (try simp only [↓sx0, xE, sevalprocAttr]))
    refine EndW.fn ?_ ?_ <;> simp only [sx4, xK, sevalprocAttr] <;> (try simp) <;> (try omega)
  ·rw [show bdE m = 0 by rw [bdE, if_neg (by rw [hp]; omega)]]
   rcases h56 with h5 | h6
   ·repeat ((first | (with_reducible refine BrW.yes (by omega) ?_) | (with_reducible refine BrW.no (by omega) ?_)); (try simp only [↓sx0, xE, sevalprocAttr]))
    refine EndW.fn ?_ ?_ <;> simp only [sx4, xK, sevalprocAttr] <;> (try simp) <;> (try omega)
   ·repeat ((first | (with_reducible refine BrW.yes (by omega) ?_) | (with_reducible refine BrW.no (by omega) ?_)); (try simp only [↓sx0, xE, sevalprocAttr]))
    refine EndW.fn ?_ ?_ <;> simp only [sx4, xK, sevalprocAttr] <;> (try simp) <;> (try omega)
 ·by_cases h7 : m.mark = 7 ∧ m.word ≠ 0
  ·rw [show bdE m = 3 by rw [bdE, if_pos (.inr h7)]]
   repeat ((first | (with_reducible refine BrW.yes (by omega) ?_) | (with_reducible refine BrW.no (by omega) ?_)); (try simp only [↓sx0, xE, sevalprocAttr]))
   refine EndW.fn ?_ ?_ <;> simp only [sx4, xK, sevalprocAttr] <;> (try simp) <;> (try omega)
  ·rw [show bdE m = 0 by rw [bdE, if_neg (by rw [hp]; omega)]]
   by_cases hm : m.mark = 7
   ·repeat ((first | (with_reducible refine BrW.yes (by omega) ?_) | (with_reducible refine BrW.no (by omega) ?_)); (try simp only [↓sx0, xE, sevalprocAttr]))
    refine EndW.fn ?_ ?_ <;> simp only [sx4, xK, sevalprocAttr] <;> (try simp) <;> (try omega)
   ·repeat ((first | (with_reducible refine BrW.yes (by omega) ?_) | (with_reducible refine BrW.no (by omega) ?_)); (try simp only [↓sx0, xE, sevalprocAttr]))
    refine EndW.fn ?_ ?_ <;> simp only [sx4, xK, sevalprocAttr] <;> (try simp) <;> (try omega)
end Go.Proofs.YtmbemlmkfoblhaaGreatDoor
/-
 Chapter 8, walks: marks are right (reference).
-/
namespace Go.Proofs.YtmbemlmkfoblhaaGreatDoor
open Go Go.Vx
set_option maxRecDepth 20000
set_option maxHeartbeats 4000000 in
theorem told1_s (m : Mk) (hz : MkSz m) (hm : m.mark = 1) : Ctr Tryz.prog 42 [mV m] (fun rr => rr = ⟨(.v (.bool (wantB m.mark m.old m.new m.was m.kind))), []⟩) := by
 rw [wantB, if_pos hm]
 have encs := And.intro encs hm
 refine Ctr.of (rs := [.tmp 2]) Tok true Tryz.func42 rfl rfl rfl rfl (by simp [ofDL]) (fun w0 kp => ?_)
 simp only [↓sx0, sxE, encs, sevalprocAttr]
 refine DrawW.plan Tok mixed (.q 0 <| .q 1 <| .q 2 <| .q 3 <| .q 4 <| .q 5 <| .q 6 <| .q 7 <| .q 8 <| .q 9 <| .q 10 <| .q 11 <| .q 12 <| .q 13 <| .q 14 <| .q 15 <| .q 16 <| .q 17 <| .done) (by kernel_rfl) (by kernel_rfl) ?_
 simp only [↓sx0, sxE, encs, sevalprocAttr]
 refine DrawW.plan Tok mixed (.q 0 <| .q 1 <| .q 3 <| .q 4 <| .q 5 <| .e 2 [4] <| .q 6 <| .q 7 <| .done) (by kernel_rfl) (by kernel_rfl) ?_
 simp only [↓sx0, sxE, encs, sevalprocAttr]
 refine CallI.fn (withinB_s 1 5 7) (by simp only [sx3, encs, sxR, sevalprocAttr] <;> (try simp) <;> (try rfl)) ?_
 simp only [↓sx0, sxE, encs, sevalprocAttr]
 refine CallI.fn ((isWordR_s m.old hz.1)) (by simp only [sx3, encs, sxR, sevalprocAttr] <;> (try simp) <;> (try rfl)) ?_
 simp only [↓sx0, sxE, encs, sevalprocAttr]
 refine BrW.of (fun o1 => ?_) (fun o1 => ?_)
 ·simp only [↓sx0, sxE, encs, sevalprocAttr]
  iterate 6 (
   all_goals (try (with_reducible refine BrW.dec (fun h => ?_) (fun h => ?_)))
   all_goals (try simp only [↓sx0, sxE, encs, sevalprocAttr]) )
  all_goals (
   skip
   refine EndW.fn ?_ (by simp only [sx4, encs, kpLL_map, sxR, sevalprocAttr] <;> (try simp) <;> (try omega))
   simp only [sx4, encs, kpLL_map, sxR, sevalprocAttr]
   clear encs
   simp_all [em] <;> (intros; omega) )
 ·simp only [↓sx0, sxE, encs, sevalprocAttr]
  iterate 6 (
   all_goals (try (with_reducible refine BrW.dec (fun h => ?_) (fun h => ?_)))
   all_goals (try simp only [↓sx0, sxE, encs, sevalprocAttr]) )
  all_goals (
   skip
   refine EndW.fn ?_ (by simp only [sx4, encs, kpLL_map, sxR, sevalprocAttr] <;> (try simp) <;> (try omega))
   simp only [sx4, encs, kpLL_map, sxR, sevalprocAttr]
   clear encs
   simp_all [em] <;> (intros; omega) )
set_option maxHeartbeats 4000000 in
theorem told2_s (m : Mk) (hz : MkSz m) (hm : m.mark = 2) : Ctr Tryz.prog 42 [mV m] (fun rr => rr = ⟨(.v (.bool (wantB m.mark m.old m.new m.was m.kind))), []⟩) := by
 rw [wantB, if_neg (by omega), if_pos hm]
 have encs := And.intro encs hm
 refine Ctr.of (rs := [.tmp 2]) Tok true Tryz.func42 rfl rfl rfl rfl (by simp [ofDL]) (fun w0 kp => ?_)
 simp only [↓sx0, sxE, encs, sevalprocAttr]
 refine DrawW.plan Tok mixed (.q 0 <| .q 1 <| .q 2 <| .q 3 <| .q 4 <| .q 5 <| .q 6 <| .q 7 <| .q 8 <| .q 9 <| .q 10 <| .q 11 <| .q 12 <| .q 13 <| .q 14 <| .q 15 <| .q 16 <| .q 17 <| .done) (by kernel_rfl) (by kernel_rfl) ?_
 simp only [↓sx0, sxE, encs, sevalprocAttr]
 refine DrawW.plan Tok mixed (.q 0 <| .q 1 <| .q 3 <| .q 4 <| .q 5 <| .e 2 [4] <| .q 6 <| .q 7 <| .done) (by kernel_rfl) (by kernel_rfl) ?_
 simp only [↓sx0, sxE, encs, sevalprocAttr]
 refine CallI.fn (withinB_s 2 5 7) (by simp only [sx3, encs, sxR, sevalprocAttr] <;> (try simp) <;> (try rfl)) ?_
 simp only [↓sx0, sxE, encs, sevalprocAttr]
 refine BrW.dec (fun o2 => ?_) (fun o2 => ?_)
 ·simp only [↓sx0, sxE, encs, sevalprocAttr]
  iterate 6 (
   all_goals (try (with_reducible refine BrW.dec (fun h => ?_) (fun h => ?_)))
   all_goals (try simp only [↓sx0, sxE, encs, sevalprocAttr]) )
  all_goals (
   skip
   refine EndW.fn ?_ (by simp only [sx4, encs, kpLL_map, sxR, sevalprocAttr] <;> (try simp) <;> (try omega))
   simp only [sx4, encs, kpLL_map, sxR, sevalprocAttr]
   clear encs
   simp_all [em] <;> (intros; omega) )
 ·simp only [↓sx0, sxE, encs, sevalprocAttr]
  refine CallI.fn ((isWordR_s m.new hz.2)) (by simp only [sx3, encs, sxR, sevalprocAttr] <;> (try simp) <;> (try rfl)) ?_
  simp only [↓sx0, sxE, encs, sevalprocAttr]
  refine BrW.of (fun o1 => ?_) (fun o1 => ?_)
  ·simp only [↓sx0, sxE, encs, sevalprocAttr]
   iterate 6 (
    all_goals (try (with_reducible refine BrW.dec (fun h => ?_) (fun h => ?_)))
    all_goals (try simp only [↓sx0, sxE, encs, sevalprocAttr]) )
   all_goals (
    skip
    refine EndW.fn ?_ (by simp only [sx4, encs, kpLL_map, sxR, sevalprocAttr] <;> (try simp) <;> (try omega))
    simp only [sx4, encs, kpLL_map, sxR, sevalprocAttr]
    clear encs
    simp_all [em] <;> (intros; omega) )
  ·simp only [↓sx0, sxE, encs, sevalprocAttr]
   iterate 6 (
    all_goals (try (with_reducible refine BrW.dec (fun h => ?_) (fun h => ?_)))
    all_goals (try simp only [↓sx0, sxE, encs, sevalprocAttr]) )
   all_goals (
    skip
    refine EndW.fn ?_ (by simp only [sx4, encs, kpLL_map, sxR, sevalprocAttr] <;> (try simp) <;> (try omega))
    simp only [sx4, encs, kpLL_map, sxR, sevalprocAttr]
    clear encs
    simp_all [em] <;> (intros; omega) )
set_option maxHeartbeats 4000000 in
theorem told3_s (m : Mk) (hz : MkSz m) (hm : m.mark = 3) : Ctr Tryz.prog 42 [mV m] (fun rr => rr = ⟨(.v (.bool (wantB m.mark m.old m.new m.was m.kind))), []⟩) := by
 rw [wantB, if_neg (by omega), if_neg (by omega), if_pos hm]
 have encs := And.intro encs hm
 refine Ctr.of (rs := [.tmp 2]) Tok true Tryz.func42 rfl rfl rfl rfl (by simp [ofDL]) (fun w0 kp => ?_)
 simp only [↓sx0, sxE, encs, sevalprocAttr]
 refine DrawW.plan Tok mixed (.q 0 <| .q 1 <| .q 2 <| .q 3 <| .q 4 <| .q 5 <| .q 6 <| .q 7 <| .q 8 <| .q 9 <| .q 10 <| .q 11 <| .q 12 <| .q 13 <| .q 14 <| .q 15 <| .q 16 <| .q 17 <| .done) (by kernel_rfl) (by kernel_rfl) ?_
 simp only [↓sx0, sxE, encs, sevalprocAttr]
 refine DrawW.plan Tok mixed (.q 0 <| .q 1 <| .q 3 <| .q 4 <| .q 5 <| .e 2 [4] <| .q 6 <| .q 7 <| .done) (by kernel_rfl) (by kernel_rfl) ?_
 simp only [↓sx0, sxE, encs, sevalprocAttr]
 refine CallI.fn (withinB_s 3 5 7) (by simp only [sx3, encs, sxR, sevalprocAttr] <;> (try simp) <;> (try rfl)) ?_
 simp only [↓sx0, sxE, encs, sevalprocAttr]
 refine CallI.fn ((isWordR_s m.old hz.1)) (by simp only [sx3, encs, sxR, sevalprocAttr] <;> (try simp) <;> (try rfl)) ?_
 simp only [↓sx0, sxE, encs, sevalprocAttr]
 refine BrW.of (fun o2 => ?_) (fun o2 => ?_)
 ·simp only [↓sx0, sxE, encs, sevalprocAttr]
  refine CallI.fn ((isWordR_s m.new hz.2)) (by simp only [sx3, encs, sxR, sevalprocAttr] <;> (try simp) <;> (try rfl)) ?_
  simp only [↓sx0, sxE, encs, sevalprocAttr]
  refine BrW.of (fun o1 => ?_) (fun o1 => ?_)
  ·simp only [↓sx0, sxE, encs, sevalprocAttr]
   iterate 6 (
    all_goals (try (with_reducible refine BrW.dec (fun h => ?_) (fun h => ?_)))
    all_goals (try simp only [↓sx0, sxE, encs, sevalprocAttr]) )
   all_goals (
    skip
    refine EndW.fn ?_ (by simp only [sx4, encs, kpLL_map, sxR, sevalprocAttr] <;> (try simp) <;> (try omega))
    simp only [sx4, encs, kpLL_map, sxR, sevalprocAttr]
    clear encs
    simp_all [em] <;> (intros; omega) )
  ·simp only [↓sx0, sxE, encs, sevalprocAttr]
   iterate 6 (
    all_goals (try (with_reducible refine BrW.dec (fun h => ?_) (fun h => ?_)))
    all_goals (try simp only [↓sx0, sxE, encs, sevalprocAttr]) )
   all_goals (
    skip
    refine EndW.fn ?_ (by simp only [sx4, encs, kpLL_map, sxR, sevalprocAttr] <;> (try simp) <;> (try omega))
    simp only [sx4, encs, kpLL_map, sxR, sevalprocAttr]
    clear encs
    simp_all [em] <;> (intros; omega) )
 ·simp only [↓sx0, sxE, encs, sevalprocAttr]
  iterate 6 (
   all_goals (try (with_reducible refine BrW.dec (fun h => ?_) (fun h => ?_)))
   all_goals (try simp only [↓sx0, sxE, encs, sevalprocAttr]) )
  all_goals (
   skip
   refine EndW.fn ?_ (by simp only [sx4, encs, kpLL_map, sxR, sevalprocAttr] <;> (try simp) <;> (try omega))
   simp only [sx4, encs, kpLL_map, sxR, sevalprocAttr]
   clear encs
   simp_all [em] <;> (intros; omega) )
set_option maxHeartbeats 4000000 in
theorem told4_s (m : Mk) (hz : MkSz m) (hm : m.mark = 4) : Ctr Tryz.prog 42 [mV m] (fun rr => rr = ⟨(.v (.bool (wantB m.mark m.old m.new m.was m.kind))), []⟩) := by
 rw [wantB, if_neg (by omega), if_neg (by omega), if_neg (by omega), if_neg (by omega), if_neg (by omega)]
 have encs := And.intro encs hm
 refine Ctr.of (rs := [.tmp 2]) Tok true Tryz.func42 rfl rfl rfl rfl (by simp [ofDL]) (fun w0 kp => ?_)
 simp only [↓sx0, sxE, encs, sevalprocAttr]
 refine DrawW.plan Tok mixed (.q 0 <| .q 1 <| .q 2 <| .q 3 <| .q 4 <| .q 5 <| .q 6 <| .q 7 <| .q 8 <| .q 9 <| .q 10 <| .q 11 <| .q 12 <| .q 13 <| .q 14 <| .q 15 <| .q 16 <| .q 17 <| .done) (by kernel_rfl) (by kernel_rfl) ?_
 simp only [↓sx0, sxE, encs, sevalprocAttr]
 refine DrawW.plan Tok mixed (.q 0 <| .q 1 <| .q 3 <| .q 4 <| .q 5 <| .e 2 [4] <| .q 6 <| .q 7 <| .done) (by kernel_rfl) (by kernel_rfl) ?_
 simp only [↓sx0, sxE, encs, sevalprocAttr]
 refine CallI.fn (withinB_s 4 5 7) (by simp only [sx3, encs, sxR, sevalprocAttr] <;> (try simp) <;> (try rfl)) ?_
 simp only [↓sx0, sxE, encs, sevalprocAttr]
 iterate 6 (
  all_goals (try (with_reducible refine BrW.dec (fun h => ?_) (fun h => ?_)))
  all_goals (try simp only [↓sx0, sxE, encs, sevalprocAttr]) )
 all_goals (
  skip
  refine EndW.fn ?_ (by simp only [sx4, encs, kpLL_map, sxR, sevalprocAttr] <;> (try simp) <;> (try omega))
  simp only [sx4, encs, kpLL_map, sxR, sevalprocAttr]
  clear encs
  simp_all [em] <;> (intros; omega) )
set_option maxHeartbeats 4000000 in
theorem told5_s (m : Mk) (hz : MkSz m) (hm : m.mark = 5) : Ctr Tryz.prog 42 [mV m] (fun rr => rr = ⟨(.v (.bool (wantB m.mark m.old m.new m.was m.kind))), []⟩) := by
 rw [wantB, if_neg (by omega), if_neg (by omega), if_neg (by omega), if_pos (by omega)]
 have encs := And.intro encs hm
 refine Ctr.of (rs := [.tmp 2]) Tok true Tryz.func42 rfl rfl rfl rfl (by simp [ofDL]) (fun w0 kp => ?_)
 simp only [↓sx0, sxE, encs, sevalprocAttr]
 refine DrawW.plan Tok mixed (.q 0 <| .q 1 <| .q 2 <| .q 3 <| .q 4 <| .q 5 <| .q 6 <| .q 7 <| .q 8 <| .q 9 <| .q 10 <| .q 11 <| .q 12 <| .q 13 <| .q 14 <| .q 15 <| .q 16 <| .q 17 <| .done) (by kernel_rfl) (by kernel_rfl) ?_
 simp only [↓sx0, sxE, encs, sevalprocAttr]
 refine DrawW.plan Tok mixed (.q 0 <| .q 1 <| .q 3 <| .q 4 <| .q 5 <| .e 2 [4] <| .q 6 <| .q 7 <| .done) (by kernel_rfl) (by kernel_rfl) ?_
 simp only [↓sx0, sxE, encs, sevalprocAttr]
 refine CallI.fn (withinB_s 5 5 7) (by simp only [sx3, encs, sxR, sevalprocAttr] <;> (try simp) <;> (try rfl)) ?_
 simp only [↓sx0, sxE, encs, sevalprocAttr]
 refine BrW.dec (fun o3 => ?_) (fun o3 => ?_)
 ·simp only [↓sx0, sxE, encs, sevalprocAttr]
  iterate 6 (
   all_goals (try (with_reducible refine BrW.dec (fun h => ?_) (fun h => ?_)))
   all_goals (try simp only [↓sx0, sxE, encs, sevalprocAttr]) )
  all_goals (
   skip
   refine EndW.fn ?_ (by simp only [sx4, encs, kpLL_map, sxR, sevalprocAttr] <;> (try simp) <;> (try omega))
   simp only [sx4, encs, kpLL_map, sxR, sevalprocAttr]
   clear encs
   simp_all [em] <;> (intros; omega) )
 ·simp only [↓sx0, sxE, encs, sevalprocAttr]
  refine BrW.dec (fun o2 => ?_) (fun o2 => ?_)
  ·simp only [↓sx0, sxE, encs, sevalprocAttr]
   iterate 6 (
    all_goals (try (with_reducible refine BrW.dec (fun h => ?_) (fun h => ?_)))
    all_goals (try simp only [↓sx0, sxE, encs, sevalprocAttr]) )
   all_goals (
    skip
    refine EndW.fn ?_ (by simp only [sx4, encs, kpLL_map, sxR, sevalprocAttr] <;> (try simp) <;> (try omega))
    simp only [sx4, encs, kpLL_map, sxR, sevalprocAttr]
    clear encs
    simp_all [em] <;> (intros; omega) )
  ·simp only [↓sx0, sxE, encs, sevalprocAttr]
   refine CallI.fn ((isKindR_s m.kind)) (by simp only [sx3, encs, sxR, sevalprocAttr] <;> (try simp) <;> (try rfl)) ?_
   simp only [↓sx0, sxE, encs, sevalprocAttr]
   refine BrW.of (fun o1 => ?_) (fun o1 => ?_)
   ·simp only [↓sx0, sxE, encs, sevalprocAttr]
    iterate 6 (
     all_goals (try (with_reducible refine BrW.dec (fun h => ?_) (fun h => ?_)))
     all_goals (try simp only [↓sx0, sxE, encs, sevalprocAttr]) )
    all_goals (
     skip
     refine EndW.fn ?_ (by simp only [sx4, encs, kpLL_map, sxR, sevalprocAttr] <;> (try simp) <;> (try omega))
     simp only [sx4, encs, kpLL_map, sxR, sevalprocAttr]
     clear encs
     simp_all [em] <;> (intros; omega) )
   ·simp only [↓sx0, sxE, encs, sevalprocAttr]
    iterate 6 (
     all_goals (try (with_reducible refine BrW.dec (fun h => ?_) (fun h => ?_)))
     all_goals (try simp only [↓sx0, sxE, encs, sevalprocAttr]) )
    all_goals (
     skip
     refine EndW.fn ?_ (by simp only [sx4, encs, kpLL_map, sxR, sevalprocAttr] <;> (try simp) <;> (try omega))
     simp only [sx4, encs, kpLL_map, sxR, sevalprocAttr]
     clear encs
     simp_all [em] <;> (intros; omega) )
set_option maxHeartbeats 4000000 in
theorem told6_s (m : Mk) (hz : MkSz m) (hm : m.mark = 6) : Ctr Tryz.prog 42 [mV m] (fun rr => rr = ⟨(.v (.bool (wantB m.mark m.old m.new m.was m.kind))), []⟩) := by
 rw [wantB, if_neg (by omega), if_neg (by omega), if_neg (by omega), if_pos (by omega)]
 have encs := And.intro encs hm
 refine Ctr.of (rs := [.tmp 2]) Tok true Tryz.func42 rfl rfl rfl rfl (by simp [ofDL]) (fun w0 kp => ?_)
 simp only [↓sx0, sxE, encs, sevalprocAttr]
 refine DrawW.plan Tok mixed (.q 0 <| .q 1 <| .q 2 <| .q 3 <| .q 4 <| .q 5 <| .q 6 <| .q 7 <| .q 8 <| .q 9 <| .q 10 <| .q 11 <| .q 12 <| .q 13 <| .q 14 <| .q 15 <| .q 16 <| .q 17 <| .done) (by kernel_rfl) (by kernel_rfl) ?_
 simp only [↓sx0, sxE, encs, sevalprocAttr]
 refine DrawW.plan Tok mixed (.q 0 <| .q 1 <| .q 3 <| .q 4 <| .q 5 <| .e 2 [4] <| .q 6 <| .q 7 <| .done) (by kernel_rfl) (by kernel_rfl) ?_
 simp only [↓sx0, sxE, encs, sevalprocAttr]
 refine CallI.fn (withinB_s 6 5 7) (by simp only [sx3, encs, sxR, sevalprocAttr] <;> (try simp) <;> (try rfl)) ?_
 simp only [↓sx0, sxE, encs, sevalprocAttr]
 refine BrW.dec (fun o3 => ?_) (fun o3 => ?_)
 ·simp only [↓sx0, sxE, encs, sevalprocAttr]
  iterate 6 (
   all_goals (try (with_reducible refine BrW.dec (fun h => ?_) (fun h => ?_)))
   all_goals (try simp only [↓sx0, sxE, encs, sevalprocAttr]) )
  all_goals (
   skip
   refine EndW.fn ?_ (by simp only [sx4, encs, kpLL_map, sxR, sevalprocAttr] <;> (try simp) <;> (try omega))
   simp only [sx4, encs, kpLL_map, sxR, sevalprocAttr]
   clear encs
   simp_all [em] <;> (intros; omega) )
 ·simp only [↓sx0, sxE, encs, sevalprocAttr]
  refine BrW.dec (fun o2 => ?_) (fun o2 => ?_)
  ·simp only [↓sx0, sxE, encs, sevalprocAttr]
   iterate 6 (
    all_goals (try (with_reducible refine BrW.dec (fun h => ?_) (fun h => ?_)))
    all_goals (try simp only [↓sx0, sxE, encs, sevalprocAttr]) )
   all_goals (
    skip
    refine EndW.fn ?_ (by simp only [sx4, encs, kpLL_map, sxR, sevalprocAttr] <;> (try simp) <;> (try omega))
    simp only [sx4, encs, kpLL_map, sxR, sevalprocAttr]
    clear encs
    simp_all [em] <;> (intros; omega) )
  ·simp only [↓sx0, sxE, encs, sevalprocAttr]
   refine CallI.fn ((isKindR_s m.kind)) (by simp only [sx3, encs, sxR, sevalprocAttr] <;> (try simp) <;> (try rfl)) ?_
   simp only [↓sx0, sxE, encs, sevalprocAttr]
   refine BrW.of (fun o1 => ?_) (fun o1 => ?_)
   ·simp only [↓sx0, sxE, encs, sevalprocAttr]
    iterate 6 (
     all_goals (try (with_reducible refine BrW.dec (fun h => ?_) (fun h => ?_)))
     all_goals (try simp only [↓sx0, sxE, encs, sevalprocAttr]) )
    all_goals (
     skip
     refine EndW.fn ?_ (by simp only [sx4, encs, kpLL_map, sxR, sevalprocAttr] <;> (try simp) <;> (try omega))
     simp only [sx4, encs, kpLL_map, sxR, sevalprocAttr]
     clear encs
     simp_all [em] <;> (intros; omega) )
   ·simp only [↓sx0, sxE, encs, sevalprocAttr]
    iterate 6 (
     all_goals (try (with_reducible refine BrW.dec (fun h => ?_) (fun h => ?_)))
     all_goals (try simp only [↓sx0, sxE, encs, sevalprocAttr]) )
    all_goals (
     skip
     refine EndW.fn ?_ (by simp only [sx4, encs, kpLL_map, sxR, sevalprocAttr] <;> (try simp) <;> (try omega))
     simp only [sx4, encs, kpLL_map, sxR, sevalprocAttr]
     clear encs
     simp_all [em] <;> (intros; omega) )
set_option maxHeartbeats 4000000 in
theorem told7_s (m : Mk) (hz : MkSz m) (hm : m.mark = 7) : Ctr Tryz.prog 42 [mV m] (fun rr => rr = ⟨(.v (.bool (wantB m.mark m.old m.new m.was m.kind))), []⟩) := by
 rw [wantB, if_neg (by omega), if_neg (by omega), if_neg (by omega), if_neg (by omega), if_pos (by omega)]
 have encs := And.intro encs hm
 refine Ctr.of (rs := [.tmp 2]) Tok true Tryz.func42 rfl rfl rfl rfl (by simp [ofDL]) (fun w0 kp => ?_)
 simp only [↓sx0, sxE, encs, sevalprocAttr]
 refine DrawW.plan Tok mixed (.q 0 <| .q 1 <| .q 2 <| .q 3 <| .q 4 <| .q 5 <| .q 6 <| .q 7 <| .q 8 <| .q 9 <| .q 10 <| .q 11 <| .q 12 <| .q 13 <| .q 14 <| .q 15 <| .q 16 <| .q 17 <| .done) (by kernel_rfl) (by kernel_rfl) ?_
 simp only [↓sx0, sxE, encs, sevalprocAttr]
 refine DrawW.plan Tok mixed (.q 0 <| .q 1 <| .q 3 <| .q 4 <| .q 5 <| .e 2 [4] <| .q 6 <| .q 7 <| .done) (by kernel_rfl) (by kernel_rfl) ?_
 simp only [↓sx0, sxE, encs, sevalprocAttr]
 refine CallI.fn (withinB_s 7 5 7) (by simp only [sx3, encs, sxR, sevalprocAttr] <;> (try simp) <;> (try rfl)) ?_
 simp only [↓sx0, sxE, encs, sevalprocAttr]
 refine BrW.dec (fun o4 => ?_) (fun o4 => ?_)
 ·simp only [↓sx0, sxE, encs, sevalprocAttr]
  iterate 6 (
   all_goals (try (with_reducible refine BrW.dec (fun h => ?_) (fun h => ?_)))
   all_goals (try simp only [↓sx0, sxE, encs, sevalprocAttr]) )
  all_goals (
   skip
   refine EndW.fn ?_ (by simp only [sx4, encs, kpLL_map, sxR, sevalprocAttr] <;> (try simp) <;> (try omega))
   simp only [sx4, encs, kpLL_map, sxR, sevalprocAttr]
   clear encs
   simp_all [em] <;> (intros; omega) )
 ·simp only [↓sx0, sxE, encs, sevalprocAttr]
  refine BrW.dec (fun o3 => ?_) (fun o3 => ?_)
  ·simp only [↓sx0, sxE, encs, sevalprocAttr]
   iterate 6 (
    all_goals (try (with_reducible refine BrW.dec (fun h => ?_) (fun h => ?_)))
    all_goals (try simp only [↓sx0, sxE, encs, sevalprocAttr]) )
   all_goals (
    skip
    refine EndW.fn ?_ (by simp only [sx4, encs, kpLL_map, sxR, sevalprocAttr] <;> (try simp) <;> (try omega))
    simp only [sx4, encs, kpLL_map, sxR, sevalprocAttr]
    clear encs
    simp_all [em] <;> (intros; omega) )
  ·simp only [↓sx0, sxE, encs, sevalprocAttr]
   refine CallI.fn ((isKindR_s m.kind)) (by simp only [sx3, encs, sxR, sevalprocAttr] <;> (try simp) <;> (try rfl)) ?_
   simp only [↓sx0, sxE, encs, sevalprocAttr]
   refine BrW.of (fun o2 => ?_) (fun o2 => ?_)
   ·simp only [↓sx0, sxE, encs, sevalprocAttr]
    refine CallI.fn ((isKindR_s m.was)) (by simp only [sx3, encs, sxR, sevalprocAttr] <;> (try simp) <;> (try rfl)) ?_
    simp only [↓sx0, sxE, encs, sevalprocAttr]
    refine BrW.of (fun o1 => ?_) (fun o1 => ?_)
    ·simp only [↓sx0, sxE, encs, sevalprocAttr]
     iterate 6 (
      all_goals (try (with_reducible refine BrW.dec (fun h => ?_) (fun h => ?_)))
      all_goals (try simp only [↓sx0, sxE, encs, sevalprocAttr]) )
     all_goals (
      skip
      refine EndW.fn ?_ (by simp only [sx4, encs, kpLL_map, sxR, sevalprocAttr] <;> (try simp) <;> (try omega))
      simp only [sx4, encs, kpLL_map, sxR, sevalprocAttr]
      clear encs
      simp_all [em] <;> (intros; omega) )
    ·simp only [↓sx0, sxE, encs, sevalprocAttr]
     iterate 6 (
      all_goals (try (with_reducible refine BrW.dec (fun h => ?_) (fun h => ?_)))
      all_goals (try simp only [↓sx0, sxE, encs, sevalprocAttr]) )
     all_goals (
      skip
      refine EndW.fn ?_ (by simp only [sx4, encs, kpLL_map, sxR, sevalprocAttr] <;> (try simp) <;> (try omega))
      simp only [sx4, encs, kpLL_map, sxR, sevalprocAttr]
      clear encs
      simp_all [em] <;> (intros; omega) )
   ·simp only [↓sx0, sxE, encs, sevalprocAttr]
    iterate 6 (
     all_goals (try (with_reducible refine BrW.dec (fun h => ?_) (fun h => ?_)))
     all_goals (try simp only [↓sx0, sxE, encs, sevalprocAttr]) )
    all_goals (
     skip
     refine EndW.fn ?_ (by simp only [sx4, encs, kpLL_map, sxR, sevalprocAttr] <;> (try simp) <;> (try omega))
     simp only [sx4, encs, kpLL_map, sxR, sevalprocAttr]
     clear encs
     simp_all [em] <;> (intros; omega) )
theorem toldR_s (m : Mk) (hz : MkSz m) (hk : 1 ≤ m.mark ∧ m.mark ≤ 7) : Ctr Tryz.prog 42 [mV m] (fun rr => rr = ⟨(.v (.bool (wantB m.mark m.old m.new m.was m.kind))), []⟩) := by
 rcases (show m.mark = 1 ∨ m.mark = 2 ∨ m.mark = 3 ∨ m.mark = 4 ∨ m.mark = 5 ∨ m.mark = 6 ∨ m.mark = 7 by omega) with h | h | h | h | h | h | h
 ·exact told1_s m hz h
 ·exact told2_s m hz h
 ·exact told3_s m hz h
 ·exact told4_s m hz h
 ·exact told5_s m hz h
 ·exact told6_s m hz h
 ·exact told7_s m hz h
theorem checkMarkR_s (m : Mk) (hz : MkSz m) : Ctr Tryz.prog 11 [mV m] (fun rr => rr = ⟨(.v (.int .i64 (mkErr m))), []⟩) := by
 have hpl := placeR_s m
 refine Ctr.of (rs := [.tmp 2]) Tok true Tryz.func11 rfl rfl rfl rfl (by simp [ofDL]) (fun w0 kp => ?_)
 simp only [↓sx0, xE, sevalprocAttr]
 refine CallI.fn (withinB_s m.mark 1 7) (by simp only [sx3, xR, sevalprocAttr] <;> (try simp) <;> (try rfl)) ?_
 simp only [↓sx0, xE, sevalprocAttr]
 refine BrW.of (fun hk => ?_) (fun hk => ?_)
 ·have hk : 1 ≤ m.mark ∧ m.mark ≤ 7 := by simpa using hk
  simp only [↓sx0, xE, sevalprocAttr]
  by_cases hr : inR m = true
  ·rw [if_pos hr] at hpl
   refine CallI.fn (hpl) (by simp only [sx3, xR, sevalprocAttr] <;> (try simp) <;> (try rfl)) ?_
   simp only [↓sx0, xE, sevalprocAttr]
   refine BrW.no (by simp) ?_
   simp only [↓sx0, xE, sevalprocAttr]
   have he : mkErr m = if wantB m.mark m.old m.new m.was m.kind = true then bdE m else 3 := by
    rw [mkErr, if_pos hk, if_pos hr, bdE]
    by_cases hw : wantB m.mark m.old m.new m.was m.kind = true
    ·rw [if_pos hw]
     by_cases h1 : ptsB m = true ∧ m.word = 0
     ·rw [if_neg (fun h => h.2.1 h1), if_pos (.inl h1)]
     ·by_cases h2 : m.mark = 7 ∧ m.word ≠ 0
      ·rw [if_neg (fun h => h.2.2 h2), if_pos (.inr h2)]
      ·rw [if_pos ⟨hw, h1, h2⟩, if_neg (fun h => h.elim h1 h2)]
    ·rw [if_neg hw, if_neg (fun h => hw h.1)]
   rw [he]
   refine CallI.fn (toldR_s m hz hk) (by simp only [sx3, xR, sevalprocAttr] <;> (try simp) <;> (try rfl)) ?_
   simp only [↓sx0, xE, sevalprocAttr]
   refine BrW.of (fun ht => ?_) (fun ht => ?_)
   ·rw [if_pos ht]
    simp only [↓sx0, xE, sevalprocAttr]
    refine CallI.fn (boundsR_s m) (by simp only [sx3, xR, sevalprocAttr] <;> (try simp) <;> (try rfl)) ?_
    simp only [↓sx0, xE, sevalprocAttr]
    refine EndW.fn ?_ ?_ <;> simp only [sx4, xK, sevalprocAttr] <;> (try simp) <;> (try omega)
   ·rw [if_neg (by rw [ht]; simp)]
    simp only [↓sx0, xE, sevalprocAttr]
    refine EndW.fn ?_ ?_ <;> simp only [sx4, xK, sevalprocAttr] <;> (try simp) <;> (try omega)
  ·rw [if_neg hr] at hpl
   refine CallI.fn (hpl) (by simp only [sx3, xR, sevalprocAttr] <;> (try simp) <;> (try rfl)) ?_
   simp only [↓sx0, xE, sevalprocAttr]
   rw [show mkErr m = 2 by rw [mkErr, if_pos hk, if_neg hr]]
   refine EndW.fn ?_ ?_ <;> simp only [sx4, xK, sevalprocAttr] <;> (try simp) <;> (try omega)
 ·have hk : ¬ (1 ≤ m.mark ∧ m.mark ≤ 7) := by simpa using hk
  rw [show mkErr m = 15 by rw [mkErr, if_neg hk]]
  simp only [↓sx0, xE, sevalprocAttr]
  refine EndW.fn ?_ ?_ <;> simp only [sx4, xK, sevalprocAttr] <;> (try simp) <;> (try omega)
end Go.Proofs.YtmbemlmkfoblhaaGreatDoor
