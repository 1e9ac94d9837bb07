/-
 Chapter 8, walks: one mark over another one.
-/
import Derived.Test.YtenohgpackcjbaaVGG
namespace Go.Proofs.Ytenohgpackcjbaa
open Go Go.Vx
set_option linter.unusedSimpArgs false
set_option linter.unusedVariables false
set_option maxRecDepth 20000
def ovP (x y : Mk) : Mk × Int := ((swapF (orderP (invM y) x)).1.1, (swapF (orderP (invM y) x)).2)
theorem over_s (x y : Mk) (hx : inR x = true) (hy : inR y = true) : Ctr Try.prog 84 [mV x, mV y] (fun rr => rr = ⟨.tup [mV (ovP x y).1, (.v (.int .i64 ((ovP x y).2)))], []⟩) := by
 have encs := And.intro encs prE
 have hS := swapped_s (invM y) x hy hx
 unfold ovP
 generalize swapF (orderP (invM y) x) = w at hS ⊢
 obtain ⟨⟨u, v⟩, e⟩ := w
 simp only at hS ⊢
 refine Ctr.of (rs := [.cell 4 24, .tmp 5]) Tok true Try.func84 rfl rfl rfl rfl (by simp [ofDL]) (fun w0 kp => ?_)
 simp only [↓sx0, sxE, encs, sevalprocAttr]
 refine DrawW.plan Tok mixed (.q 0 <| .q 2 <| .e2 1 [2] (.e2 3 [] (.q 4 <| .q 5 <| .q 6 <| .e 7 [0, 2] <| .e 8 [] <| .q 9 <| .done) 7 [0, 2] (.e 3 [] <| .q 4 <| .q 5 <| .q 6 <| .e 8 [] <| .q 9 <| .done)) 7 [0, 2] (.e 1 [2] <| .e 3 [] <| .q 4 <| .q 5 <| .q 6 <| .e 8 [] <| .q 9 <| .done)) (by kernel_rfl) (by kernel_rfl) ?_
 simp only [↓sx0, sxE, encs, sevalprocAttr]
 repeat' (first | (with_reducible refine And.intro ?_ ?_) | ((with_reducible refine Vc.go ?_ fun _ => ?_); (focus (first | trivial | omega | (simp only [InK]; omega) | (simp [InK]; done) | (simp [InK]; omega))); (try simp only [↓sx0, sxE, encs, sevalprocAttr])) | (refine CallI.fn (inverse_s y) ?_ ?_; (focus ((simp only [sx3, encs, sxR, sevalprocAttr] <;> (try simp) <;> (try rfl)); done)); (try simp only [↓sx0, sxE, encs, sevalprocAttr])) | (refine CallI.fn (hS) ?_ ?_; (focus ((simp only [sx3, encs, sxR, sevalprocAttr] <;> (try simp) <;> (try rfl)); done)); (try simp only [↓sx0, sxE, encs, sevalprocAttr])))
 all_goals (
  skip
  repeat ((with_reducible refine Vc.go trivial fun _ => ?_); simp only [↓sx0, sxE, encs, sevalprocAttr])
  refine EndW.fn ?_ ?_ <;> simp only [sx4, encs, kpLL_map, sxR, sevalprocAttr] <;> (try simp) <;> (try omega) )
/-- whether both come in at the same place. -/
def plB (x y : Mk) : Bool := (decide (x.part = y.part) && decide (x.word = y.word)) && ((decide (x.mark = 2) && (decide (y.mark = 2) || decide (y.mark = 5))) || (decide (y.mark = 2) && decide (x.mark = 5)))
def ovR (x y : Mk) : Mk × Int := if plB x y = true then (x, 13) else ovP x y
theorem hang1_s (m : Mk) : Ctr Try.prog 116 [mV m] (fun rr => rr = ⟨(.v (.bool (decide (m.mark = 2) || decide (m.mark = 5)))), []⟩) := by
 refine Ctr.of (rs := [.tmp 2]) Tok true Try.func116 rfl rfl rfl rfl (by simp [ofDL]) (fun w0 kp => ?_)
 simp only [↓sx0, sxE, encs, sevalprocAttr]
 refine BrW.dec (fun h => ?_) (fun h => ?_)
 ·simp only [↓sx0, sxE, encs, sevalprocAttr]
  refine EndW.fn ?_ ?_ <;> simp only [sx4, encs, kpLL_map, sxR, sevalprocAttr] <;> (try simp [h]) <;> (try omega)
 ·simp only [↓sx0, sxE, encs, sevalprocAttr]
  refine EndW.fn ?_ ?_ <;> simp only [sx4, encs, kpLL_map, sxR, sevalprocAttr] <;> (try simp [h]) <;> (try omega)
def hgB (x y : Mk) : Bool := plB x y || (decide ((ovP x y).2 = 13) || decide ((ovP y x).2 = 13))
set_option maxHeartbeats 8000000 in
theorem hang_s (x y : Mk) (hx : inR x = true) (hy : inR y = true) : Ctr Try.prog 83 [mV x, mV y] (fun rr => rr = ⟨(.v (.bool (hgB x y))), []⟩) := by
 have encs := And.intro encs prE
 refine Ctr.of (rs := [.tmp 4]) Tok true Try.func83 rfl rfl rfl rfl (by simp [ofDL]) (fun w0 kp => ?_)
 simp only [↓sx0, sxE, encs, sevalprocAttr]
 refine CallI.fn (hang1_s x) (by simp only [sx3, encs, sxR, sevalprocAttr] <;> (try simp) <;> (try rfl)) ?_
 simp only [↓sx0, sxE, encs, sevalprocAttr]
 refine BrW.of (fun bx => ?_) (fun bx => ?_)
 ·simp only [Bool.or_eq_true, decide_eq_true_eq] at bx
  simp only [↓sx0, sxE, encs, sevalprocAttr]
  refine CallI.fn (hang1_s y) (by simp only [sx3, encs, sxR, sevalprocAttr] <;> (try simp) <;> (try rfl)) ?_
  simp only [↓sx0, sxE, encs, sevalprocAttr]
  refine BrW.of (fun by1 => ?_) (fun by1 => ?_)
  ·simp only [Bool.or_eq_true, decide_eq_true_eq] at by1
   simp only [↓sx0, sxE, encs, sevalprocAttr]
   refine BrW.dec (fun hp => ?_) (fun hp => ?_)
   ·simp only [↓sx0, sxE, encs, sevalprocAttr]
    refine BrW.dec (fun hw => ?_) (fun hw => ?_)
    ·simp only [↓sx0, sxE, encs, sevalprocAttr]
     refine BrW.dec (fun q1 => ?_) (fun q1 => ?_)
     ·have hB : plB x y = true := by simp only [plB]; simp; omega
      rw [show hgB x y = true by rw [hgB, hB]; rfl]
      simp only [↓sx0, sxE, encs, sevalprocAttr]
      repeat ((with_reducible refine BrW.yes (by omega) ?_); (try simp only [↓sx0, sxE, encs, sevalprocAttr]))
      refine EndW.fn ?_ ?_ <;> simp only [sx4, encs, kpLL_map, sxR, sevalprocAttr] <;> (try simp) <;> (try omega)
     ·simp only [↓sx0, sxE, encs, sevalprocAttr]
      refine BrW.dec (fun q2 => ?_) (fun q2 => ?_)
      ·have hB : plB x y = true := by simp only [plB]; simp; omega
       rw [show hgB x y = true by rw [hgB, hB]; rfl]
       simp only [↓sx0, sxE, encs, sevalprocAttr]
       refine EndW.fn ?_ ?_ <;> simp only [sx4, encs, kpLL_map, sxR, sevalprocAttr] <;> (try simp) <;> (try omega)
      ·have hB : plB x y = false := by simp only [plB]; simp; omega
       simp only [↓sx0, sxE, encs, sevalprocAttr]
       refine LoopW.comp [48, 49] (by simp only [sx2, encs, sxR, sevalprocAttr] <;> (try simp) <;> (try omega)) ?_
       simp only [sx2, sxR, sevalprocAttr]
       refine LoopW.up Tok (fun k : Nat => [(49, (.v (.int .i64 k)))]) (fun k => []) (fun k => []) (fun k => []) (fun k => k ≤ 2 ∧ (0 < k → (ovP x y).2 ≠ 13) ∧ (1 < k → (ovP y x).2 ≠ 13)) (fun k => 2 - k) (0) (by simp only [sx2, encs, sxR, sevalprocAttr] <;> (try simp) <;> (try omega)) ?_ ?_
       ·exact ⟨by omega, fun h => absurd h (by omega), fun h => absurd h (by omega)⟩
       rintro k ⟨hk, h1, h2⟩
       simp only [↓sx0, sxE, encs, sevalprocAttr]
       refine BrW.dec (fun hlt => ?_) (fun hlt => ?_)
       ·have hk2 : k = 0 ∨ k = 1 := by omega
        rcases hk2 with rfl | rfl
        ·simp only [↓sx0, sxE, encs, sevalprocAttr]
         refine ArrIx.go (by simp) ?_
         simp only [↓sx0, sxE, encs, sevalprocAttr]
         repeat ((with_reducible refine Vc.go trivial fun _ => ?_); simp only [↓sx0, sxE, encs, sevalprocAttr])
         refine CallI.fn (over_s x y hx hy) (by simp only [sx3, encs, sxR, sevalprocAttr] <;> (try simp) <;> (try rfl)) ?_
         simp only [↓sx0, sxE, encs, sevalprocAttr]
         refine BrW.dec (fun he => ?_) (fun he => ?_)
         ·rw [show hgB x y = true by simp [hgB, he]]
          simp only [↓sx0, sxE, encs, sevalprocAttr]
          refine EndW.fn ?_ ?_ <;> simp only [sx4, encs, kpLL_map, sxR, sevalprocAttr] <;> (try simp) <;> (try omega)
         ·simp only [↓sx0, sxE, encs, sevalprocAttr]
          repeat ((with_reducible refine Vc.go ?_ fun _ => ?_); (focus (first | omega | (simp only [InK]; omega) | (simp [InK]; done) | (simp [InK]; omega))); simp only [↓sx0, sxE, encs, sevalprocAttr])
          refine ⟨1, StLe.auto (by simp only [sx2, encs, sxR, sevalprocAttr] <;> (try simp) <;> (try omega)), ?_, ?_⟩
          ·exact ⟨by omega, fun _ => he, fun h => absurd h (by omega)⟩
          ·omega
        ·simp only [↓sx0, sxE, encs, sevalprocAttr]
         refine ArrIx.go (by simp) ?_
         simp only [↓sx0, sxE, encs, sevalprocAttr]
         repeat ((with_reducible refine Vc.go trivial fun _ => ?_); simp only [↓sx0, sxE, encs, sevalprocAttr])
         refine CallI.fn (over_s y x hy hx) (by simp only [sx3, encs, sxR, sevalprocAttr] <;> (try simp) <;> (try rfl)) ?_
         simp only [↓sx0, sxE, encs, sevalprocAttr]
         refine BrW.dec (fun he => ?_) (fun he => ?_)
         ·rw [show hgB x y = true by simp [hgB, he]]
          simp only [↓sx0, sxE, encs, sevalprocAttr]
          refine EndW.fn ?_ ?_ <;> simp only [sx4, encs, kpLL_map, sxR, sevalprocAttr] <;> (try simp) <;> (try omega)
         ·simp only [↓sx0, sxE, encs, sevalprocAttr]
          repeat ((with_reducible refine Vc.go ?_ fun _ => ?_); (focus (first | omega | (simp only [InK]; omega) | (simp [InK]; done) | (simp [InK]; omega))); simp only [↓sx0, sxE, encs, sevalprocAttr])
          refine ⟨2, StLe.auto (by simp only [sx2, encs, sxR, sevalprocAttr] <;> (try simp) <;> (try omega)), ?_, ?_⟩
          ·exact ⟨by omega, fun _ => h1 (by omega), fun _ => he⟩
          ·omega
       ·have e1 := h1 (by omega)
        have e2 := h2 (by omega)
        rw [show hgB x y = false by rw [hgB, hB]; simp [e1, e2]]
        simp only [↓sx0, sxE, encs, sevalprocAttr]
        refine EndW.fn ?_ ?_ <;> simp only [sx4, encs, kpLL_map, sxR, sevalprocAttr] <;> (try simp) <;> (try omega)
    ·have hB : plB x y = false := by simp only [plB]; simp; omega
     simp only [↓sx0, sxE, encs, sevalprocAttr]
     refine LoopW.comp [48, 49] (by simp only [sx2, encs, sxR, sevalprocAttr] <;> (try simp) <;> (try omega)) ?_
     simp only [sx2, sxR, sevalprocAttr]
     refine LoopW.up Tok (fun k : Nat => [(49, (.v (.int .i64 k)))]) (fun k => []) (fun k => []) (fun k => []) (fun k => k ≤ 2 ∧ (0 < k → (ovP x y).2 ≠ 13) ∧ (1 < k → (ovP y x).2 ≠ 13)) (fun k => 2 - k) (0) (by simp only [sx2, encs, sxR, sevalprocAttr] <;> (try simp) <;> (try omega)) ?_ ?_
     ·exact ⟨by omega, fun h => absurd h (by omega), fun h => absurd h (by omega)⟩
     rintro k ⟨hk, h1, h2⟩
     simp only [↓sx0, sxE, encs, sevalprocAttr]
     refine BrW.dec (fun hlt => ?_) (fun hlt => ?_)
     ·have hk2 : k = 0 ∨ k = 1 := by omega
      rcases hk2 with rfl | rfl
      ·simp only [↓sx0, sxE, encs, sevalprocAttr]
       refine ArrIx.go (by simp) ?_
       simp only [↓sx0, sxE, encs, sevalprocAttr]
       repeat ((with_reducible refine Vc.go trivial fun _ => ?_); simp only [↓sx0, sxE, encs, sevalprocAttr])
       refine CallI.fn (over_s x y hx hy) (by simp only [sx3, encs, sxR, sevalprocAttr] <;> (try simp) <;> (try rfl)) ?_
       simp only [↓sx0, sxE, encs, sevalprocAttr]
       refine BrW.dec (fun he => ?_) (fun he => ?_)
       ·rw [show hgB x y = true by simp [hgB, he]]
        simp only [↓sx0, sxE, encs, sevalprocAttr]
        refine EndW.fn ?_ ?_ <;> simp only [sx4, encs, kpLL_map, sxR, sevalprocAttr] <;> (try simp) <;> (try omega)
       ·simp only [↓sx0, sxE, encs, sevalprocAttr]
        repeat ((with_reducible refine Vc.go ?_ fun _ => ?_); (focus (first | omega | (simp only [InK]; omega) | (simp [InK]; done) | (simp [InK]; omega))); simp only [↓sx0, sxE, encs, sevalprocAttr])
        refine ⟨1, StLe.auto (by simp only [sx2, encs, sxR, sevalprocAttr] <;> (try simp) <;> (try omega)), ?_, ?_⟩
        ·exact ⟨by omega, fun _ => he, fun h => absurd h (by omega)⟩
        ·omega
      ·simp only [↓sx0, sxE, encs, sevalprocAttr]
       refine ArrIx.go (by simp) ?_
       simp only [↓sx0, sxE, encs, sevalprocAttr]
       repeat ((with_reducible refine Vc.go trivial fun _ => ?_); simp only [↓sx0, sxE, encs, sevalprocAttr])
       refine CallI.fn (over_s y x hy hx) (by simp only [sx3, encs, sxR, sevalprocAttr] <;> (try simp) <;> (try rfl)) ?_
       simp only [↓sx0, sxE, encs, sevalprocAttr]
       refine BrW.dec (fun he => ?_) (fun he => ?_)
       ·rw [show hgB x y = true by simp [hgB, he]]
        simp only [↓sx0, sxE, encs, sevalprocAttr]
        refine EndW.fn ?_ ?_ <;> simp only [sx4, encs, kpLL_map, sxR, sevalprocAttr] <;> (try simp) <;> (try omega)
       ·simp only [↓sx0, sxE, encs, sevalprocAttr]
        repeat ((with_reducible refine Vc.go ?_ fun _ => ?_); (focus (first | omega | (simp only [InK]; omega) | (simp [InK]; done) | (simp [InK]; omega))); simp only [↓sx0, sxE, encs, sevalprocAttr])
        refine ⟨2, StLe.auto (by simp only [sx2, encs, sxR, sevalprocAttr] <;> (try simp) <;> (try omega)), ?_, ?_⟩
        ·exact ⟨by omega, fun _ => h1 (by omega), fun _ => he⟩
        ·omega
     ·have e1 := h1 (by omega)
      have e2 := h2 (by omega)
      rw [show hgB x y = false by rw [hgB, hB]; simp [e1, e2]]
      simp only [↓sx0, sxE, encs, sevalprocAttr]
      refine EndW.fn ?_ ?_ <;> simp only [sx4, encs, kpLL_map, sxR, sevalprocAttr] <;> (try simp) <;> (try omega)
   ·have hB : plB x y = false := by simp only [plB]; simp; omega
    simp only [↓sx0, sxE, encs, sevalprocAttr]
    refine LoopW.comp [48, 49] (by simp only [sx2, encs, sxR, sevalprocAttr] <;> (try simp) <;> (try omega)) ?_
    simp only [sx2, sxR, sevalprocAttr]
    refine LoopW.up Tok (fun k : Nat => [(49, (.v (.int .i64 k)))]) (fun k => []) (fun k => []) (fun k => []) (fun k => k ≤ 2 ∧ (0 < k → (ovP x y).2 ≠ 13) ∧ (1 < k → (ovP y x).2 ≠ 13)) (fun k => 2 - k) (0) (by simp only [sx2, encs, sxR, sevalprocAttr] <;> (try simp) <;> (try omega)) ?_ ?_
    ·exact ⟨by omega, fun h => absurd h (by omega), fun h => absurd h (by omega)⟩
    rintro k ⟨hk, h1, h2⟩
    simp only [↓sx0, sxE, encs, sevalprocAttr]
    refine BrW.dec (fun hlt => ?_) (fun hlt => ?_)
    ·have hk2 : k = 0 ∨ k = 1 := by omega
     rcases hk2 with rfl | rfl
     ·simp only [↓sx0, sxE, encs, sevalprocAttr]
      refine ArrIx.go (by simp) ?_
      simp only [↓sx0, sxE, encs, sevalprocAttr]
      repeat ((with_reducible refine Vc.go trivial fun _ => ?_); simp only [↓sx0, sxE, encs, sevalprocAttr])
      refine CallI.fn (over_s x y hx hy) (by simp only [sx3, encs, sxR, sevalprocAttr] <;> (try simp) <;> (try rfl)) ?_
      simp only [↓sx0, sxE, encs, sevalprocAttr]
      refine BrW.dec (fun he => ?_) (fun he => ?_)
      ·rw [show hgB x y = true by simp [hgB, he]]
       simp only [↓sx0, sxE, encs, sevalprocAttr]
       refine EndW.fn ?_ ?_ <;> simp only [sx4, encs, kpLL_map, sxR, sevalprocAttr] <;> (try simp) <;> (try omega)
      ·simp only [↓sx0, sxE, encs, sevalprocAttr]
       repeat ((with_reducible refine Vc.go ?_ fun _ => ?_); (focus (first | omega | (simp only [InK]; omega) | (simp [InK]; done) | (simp [InK]; omega))); simp only [↓sx0, sxE, encs, sevalprocAttr])
       refine ⟨1, StLe.auto (by simp only [sx2, encs, sxR, sevalprocAttr] <;> (try simp) <;> (try omega)), ?_, ?_⟩
       ·exact ⟨by omega, fun _ => he, fun h => absurd h (by omega)⟩
       ·omega
     ·simp only [↓sx0, sxE, encs, sevalprocAttr]
      refine ArrIx.go (by simp) ?_
      simp only [↓sx0, sxE, encs, sevalprocAttr]
      repeat ((with_reducible refine Vc.go trivial fun _ => ?_); simp only [↓sx0, sxE, encs, sevalprocAttr])
      refine CallI.fn (over_s y x hy hx) (by simp only [sx3, encs, sxR, sevalprocAttr] <;> (try simp) <;> (try rfl)) ?_
      simp only [↓sx0, sxE, encs, sevalprocAttr]
      refine BrW.dec (fun he => ?_) (fun he => ?_)
      ·rw [show hgB x y = true by simp [hgB, he]]
       simp only [↓sx0, sxE, encs, sevalprocAttr]
       refine EndW.fn ?_ ?_ <;> simp only [sx4, encs, kpLL_map, sxR, sevalprocAttr] <;> (try simp) <;> (try omega)
      ·simp only [↓sx0, sxE, encs, sevalprocAttr]
       repeat ((with_reducible refine Vc.go ?_ fun _ => ?_); (focus (first | omega | (simp only [InK]; omega) | (simp [InK]; done) | (simp [InK]; omega))); simp only [↓sx0, sxE, encs, sevalprocAttr])
       refine ⟨2, StLe.auto (by simp only [sx2, encs, sxR, sevalprocAttr] <;> (try simp) <;> (try omega)), ?_, ?_⟩
       ·exact ⟨by omega, fun _ => h1 (by omega), fun _ => he⟩
       ·omega
    ·have e1 := h1 (by omega)
     have e2 := h2 (by omega)
     rw [show hgB x y = false by rw [hgB, hB]; simp [e1, e2]]
     simp only [↓sx0, sxE, encs, sevalprocAttr]
     refine EndW.fn ?_ ?_ <;> simp only [sx4, encs, kpLL_map, sxR, sevalprocAttr] <;> (try simp) <;> (try omega)
  ·simp only [Bool.or_eq_false_iff, decide_eq_false_iff_not] at by1
   have hB : plB x y = false := by simp only [plB]; simp; omega
   simp only [↓sx0, sxE, encs, sevalprocAttr]
   refine LoopW.comp [48, 49] (by simp only [sx2, encs, sxR, sevalprocAttr] <;> (try simp) <;> (try omega)) ?_
   simp only [sx2, sxR, sevalprocAttr]
   refine LoopW.up Tok (fun k : Nat => [(49, (.v (.int .i64 k)))]) (fun k => []) (fun k => []) (fun k => []) (fun k => k ≤ 2 ∧ (0 < k → (ovP x y).2 ≠ 13) ∧ (1 < k → (ovP y x).2 ≠ 13)) (fun k => 2 - k) (0) (by simp only [sx2, encs, sxR, sevalprocAttr] <;> (try simp) <;> (try omega)) ?_ ?_
   ·exact ⟨by omega, fun h => absurd h (by omega), fun h => absurd h (by omega)⟩
   rintro k ⟨hk, h1, h2⟩
   simp only [↓sx0, sxE, encs, sevalprocAttr]
   refine BrW.dec (fun hlt => ?_) (fun hlt => ?_)
   ·have hk2 : k = 0 ∨ k = 1 := by omega
    rcases hk2 with rfl | rfl
    ·simp only [↓sx0, sxE, encs, sevalprocAttr]
     refine ArrIx.go (by simp) ?_
     simp only [↓sx0, sxE, encs, sevalprocAttr]
     repeat ((with_reducible refine Vc.go trivial fun _ => ?_); simp only [↓sx0, sxE, encs, sevalprocAttr])
     refine CallI.fn (over_s x y hx hy) (by simp only [sx3, encs, sxR, sevalprocAttr] <;> (try simp) <;> (try rfl)) ?_
     simp only [↓sx0, sxE, encs, sevalprocAttr]
     refine BrW.dec (fun he => ?_) (fun he => ?_)
     ·rw [show hgB x y = true by simp [hgB, he]]
      simp only [↓sx0, sxE, encs, sevalprocAttr]
      refine EndW.fn ?_ ?_ <;> simp only [sx4, encs, kpLL_map, sxR, sevalprocAttr] <;> (try simp) <;> (try omega)
     ·simp only [↓sx0, sxE, encs, sevalprocAttr]
      repeat ((with_reducible refine Vc.go ?_ fun _ => ?_); (focus (first | omega | (simp only [InK]; omega) | (simp [InK]; done) | (simp [InK]; omega))); simp only [↓sx0, sxE, encs, sevalprocAttr])
      refine ⟨1, StLe.auto (by simp only [sx2, encs, sxR, sevalprocAttr] <;> (try simp) <;> (try omega)), ?_, ?_⟩
      ·exact ⟨by omega, fun _ => he, fun h => absurd h (by omega)⟩
      ·omega
    ·simp only [↓sx0, sxE, encs, sevalprocAttr]
     refine ArrIx.go (by simp) ?_
     simp only [↓sx0, sxE, encs, sevalprocAttr]
     repeat ((with_reducible refine Vc.go trivial fun _ => ?_); simp only [↓sx0, sxE, encs, sevalprocAttr])
     refine CallI.fn (over_s y x hy hx) (by simp only [sx3, encs, sxR, sevalprocAttr] <;> (try simp) <;> (try rfl)) ?_
     simp only [↓sx0, sxE, encs, sevalprocAttr]
     refine BrW.dec (fun he => ?_) (fun he => ?_)
     ·rw [show hgB x y = true by simp [hgB, he]]
      simp only [↓sx0, sxE, encs, sevalprocAttr]
      refine EndW.fn ?_ ?_ <;> simp only [sx4, encs, kpLL_map, sxR, sevalprocAttr] <;> (try simp) <;> (try omega)
     ·simp only [↓sx0, sxE, encs, sevalprocAttr]
      repeat ((with_reducible refine Vc.go ?_ fun _ => ?_); (focus (first | omega | (simp only [InK]; omega) | (simp [InK]; done) | (simp [InK]; omega))); simp only [↓sx0, sxE, encs, sevalprocAttr])
      refine ⟨2, StLe.auto (by simp only [sx2, encs, sxR, sevalprocAttr] <;> (try simp) <;> (try omega)), ?_, ?_⟩
      ·exact ⟨by omega, fun _ => h1 (by omega), fun _ => he⟩
      ·omega
   ·have e1 := h1 (by omega)
    have e2 := h2 (by omega)
    rw [show hgB x y = false by rw [hgB, hB]; simp [e1, e2]]
    simp only [↓sx0, sxE, encs, sevalprocAttr]
    refine EndW.fn ?_ ?_ <;> simp only [sx4, encs, kpLL_map, sxR, sevalprocAttr] <;> (try simp) <;> (try omega)
 ·simp only [Bool.or_eq_false_iff, decide_eq_false_iff_not] at bx
  have hB : plB x y = false := by simp only [plB]; simp; omega
  simp only [↓sx0, sxE, encs, sevalprocAttr]
  refine LoopW.comp [48, 49] (by simp only [sx2, encs, sxR, sevalprocAttr] <;> (try simp) <;> (try omega)) ?_
  simp only [sx2, sxR, sevalprocAttr]
  refine LoopW.up Tok (fun k : Nat => [(49, (.v (.int .i64 k)))]) (fun k => []) (fun k => []) (fun k => []) (fun k => k ≤ 2 ∧ (0 < k → (ovP x y).2 ≠ 13) ∧ (1 < k → (ovP y x).2 ≠ 13)) (fun k => 2 - k) (0) (by simp only [sx2, encs, sxR, sevalprocAttr] <;> (try simp) <;> (try omega)) ?_ ?_
  ·exact ⟨by omega, fun h => absurd h (by omega), fun h => absurd h (by omega)⟩
  rintro k ⟨hk, h1, h2⟩
  simp only [↓sx0, sxE, encs, sevalprocAttr]
  refine BrW.dec (fun hlt => ?_) (fun hlt => ?_)
  ·have hk2 : k = 0 ∨ k = 1 := by omega
   rcases hk2 with rfl | rfl
   ·simp only [↓sx0, sxE, encs, sevalprocAttr]
    refine ArrIx.go (by simp) ?_
    simp only [↓sx0, sxE, encs, sevalprocAttr]
    repeat ((with_reducible refine Vc.go trivial fun _ => ?_); simp only [↓sx0, sxE, encs, sevalprocAttr])
    refine CallI.fn (over_s x y hx hy) (by simp only [sx3, encs, sxR, sevalprocAttr] <;> (try simp) <;> (try rfl)) ?_
    simp only [↓sx0, sxE, encs, sevalprocAttr]
    refine BrW.dec (fun he => ?_) (fun he => ?_)
    ·rw [show hgB x y = true by simp [hgB, he]]
     simp only [↓sx0, sxE, encs, sevalprocAttr]
     refine EndW.fn ?_ ?_ <;> simp only [sx4, encs, kpLL_map, sxR, sevalprocAttr] <;> (try simp) <;> (try omega)
    ·simp only [↓sx0, sxE, encs, sevalprocAttr]
     repeat ((with_reducible refine Vc.go ?_ fun _ => ?_); (focus (first | omega | (simp only [InK]; omega) | (simp [InK]; done) | (simp [InK]; omega))); simp only [↓sx0, sxE, encs, sevalprocAttr])
     refine ⟨1, StLe.auto (by simp only [sx2, encs, sxR, sevalprocAttr] <;> (try simp) <;> (try omega)), ?_, ?_⟩
     ·exact ⟨by omega, fun _ => he, fun h => absurd h (by omega)⟩
     ·omega
   ·simp only [↓sx0, sxE, encs, sevalprocAttr]
    refine ArrIx.go (by simp) ?_
    simp only [↓sx0, sxE, encs, sevalprocAttr]
    repeat ((with_reducible refine Vc.go trivial fun _ => ?_); simp only [↓sx0, sxE, encs, sevalprocAttr])
    refine CallI.fn (over_s y x hy hx) (by simp only [sx3, encs, sxR, sevalprocAttr] <;> (try simp) <;> (try rfl)) ?_
    simp only [↓sx0, sxE, encs, sevalprocAttr]
    refine BrW.dec (fun he => ?_) (fun he => ?_)
    ·rw [show hgB x y = true by simp [hgB, he]]
     simp only [↓sx0, sxE, encs, sevalprocAttr]
     refine EndW.fn ?_ ?_ <;> simp only [sx4, encs, kpLL_map, sxR, sevalprocAttr] <;> (try simp) <;> (try omega)
    ·simp only [↓sx0, sxE, encs, sevalprocAttr]
     repeat ((with_reducible refine Vc.go ?_ fun _ => ?_); (focus (first | omega | (simp only [InK]; omega) | (simp [InK]; done) | (simp [InK]; omega))); simp only [↓sx0, sxE, encs, sevalprocAttr])
     refine ⟨2, StLe.auto (by simp only [sx2, encs, sxR, sevalprocAttr] <;> (try simp) <;> (try omega)), ?_, ?_⟩
     ·exact ⟨by omega, fun _ => h1 (by omega), fun _ => he⟩
     ·omega
  ·have e1 := h1 (by omega)
   have e2 := h2 (by omega)
   rw [show hgB x y = false by rw [hgB, hB]; simp [e1, e2]]
   simp only [↓sx0, sxE, encs, sevalprocAttr]
   refine EndW.fn ?_ ?_ <;> simp only [sx4, encs, kpLL_map, sxR, sevalprocAttr] <;> (try simp) <;> (try omega)
end Go.Proofs.Ytenohgpackcjbaa
/-
 Chapter 8, walks: proofs are merged.
-/
namespace Go.Proofs.Ytenohgpackcjbaa
open Go Go.Vx
set_option linter.unusedSimpArgs false
set_option linter.unusedVariables false
set_option maxRecDepth 20000
def stepE (x y : Mk) : Int := if hgB x y = true then 13 else if (ovP y x).2 = 0 then (ovP x y).2 else (ovP y x).2
theorem step_ok {x y : Mk} (hx : mkErr x = 0) (hy : mkErr y = 0) (h : stepE x y = 0) : mkErr (ovP x y).1 = 0 ∧ mkErr (ovP y x).1 = 0 := by
 unfold stepE at h
 split at h
 ·omega
 ·split at h
  ·rename_i h2
   exact ⟨(swap_ok (mkErr_inv hy) hx h).1, (swap_ok (mkErr_inv hx) hy h2).1⟩
  ·rename_i h2; exact absurd h h2
/-- a mark, carried over others. -/
def inL : Nat → List Mk → Mk → List Mk → (List Mk × Mk) ⊕ (Nat × Int)
 | _, [], y, acc => .inl (acc, y)
 | i, x :: xs, y, acc => if stepE x y = 0 then inL (i + 1) xs (ovP y x).1 (acc ++ [(ovP x y).1]) else .inr (i, stepE x y)
/-- the marks of both, the pair and the error. -/
def mgF : List Mk → Nat → List Mk → List Mk → List Mk × (Int × Int) × Int
 | [], _, _, out => (out, (0, 0), 0)
 | y :: bs, k, xs, out => match inL 0 xs y [] with
  | .inl (xs', y') => mgF bs (k + 1) xs' (out ++ [y'])
  | .inr (i, e) => ([], ((i : Int), (k : Int)), e)
theorem mgF_ok {y : Mk} {bs : List Mk} {k : Nat} {xs out xs' : List Mk} {y' : Mk} (h : inL 0 xs y [] = .inl (xs', y')) : mgF (y :: bs) k xs out = mgF bs (k + 1) xs' (out ++ [y']) := by rw [mgF, h]
theorem mgF_no {y : Mk} {bs : List Mk} {k : Nat} {xs out : List Mk} {i : Nat} {e : Int} (h : inL 0 xs y [] = .inr (i, e)) : mgF (y :: bs) k xs out = ([], ((i : Int), (k : Int)), e) := by rw [mgF, h]
def mgE (a b : List Mk) : Int := if lstErr a = 0 then lstErr b else lstErr a
def mgV (a b : List Mk) : List Mk × (Int × Int) × Int :=
 if mgE a b = 0 then (if 60 < a.length + b.length then ([], (0, 0), 8) else mgF b 0 a a) else ([], (0, 0), mgE a b)
structure MS where
 k : Nat
 xs : List Mk
 out : List Mk
structure IS where
 i : Nat
 l : List Mk
 y : Mk
theorem modM {l : List Mk} {i : Nat} (h : i < l.length) (m : Mk) : (l.map eM).modify i (fun x => modE x 0 (eM m)) = (l.set i m).map eM := by
 induction l generalizing i with
 | nil => simp at h
 | cons a l ih =>
  cases i with
  | zero => simp [modE, eM]
  | succ i => simpa using ih (i := i) (by simpa using h)
theorem inL_step {i : Nat} {l : List Mk} {y : Mk} (h : i < l.length) (he : stepE l[i] y = 0) : inL i (l.drop i) y (l.take i) = inL (i + 1) ((l.set i (ovP l[i] y).1).drop (i + 1)) (ovP y l[i]).1 ((l.set i (ovP l[i] y).1).take (i + 1)) := by
 rw [List.drop_eq_getElem_cons h, inL, if_pos he, List.drop_set_of_lt (by omega)]
 congr 1
 rw [List.take_succ_eq_append_getElem (by simpa using h), List.take_set_of_le (by omega)]
 simp
theorem inL_bad {i : Nat} {l : List Mk} {y : Mk} (h : i < l.length) (he : ¬ stepE l[i] y = 0) : inL i (l.drop i) y (l.take i) = .inr (i, stepE l[i] y) := by
 rw [List.drop_eq_getElem_cons h, inL, if_neg he]
theorem set_ok {l : List Mk} {i : Nat} {m : Mk} (h : ∀ x ∈ l, mkErr x = 0) (hm : mkErr m = 0) : ∀ x ∈ l.set i m, mkErr x = 0 := fun x hx => by
 rcases List.mem_or_eq_of_mem_set hx with h1 | rfl
 ·exact h x h1
 ·exact hm
def prI (p : Int × Int) : SV := .agg [.v (.int .i64 p.1), .v (.int .i64 p.2)]
set_option maxHeartbeats 16000000 in
theorem merged_s (a b : List Mk) (ha : AllMk a) (hb : AllMk b) (la : a.length ≤ 100000) (lb : b.length ≤ 100000) : Ctr Try.prog 48 [.sl true 7 (a.map eM), .sl true 7 (b.map eM)] (fun rr => rr = ⟨.tup [.sl true 7 ((mgV a b).1.map eM), prI (mgV a b).2.1, (.v (.int .i64 ((mgV a b).2.2)))], []⟩) := by
 have encs := And.intro encs (And.intro (show ∀ p, prI p = .agg [.v (.int .i64 p.1), .v (.int .i64 p.2)] from fun _ => rfl) (And.intro (show ∀ p, eML p = [.sl p.1 7 (p.2.map eM)] from fun _ => rfl) (And.intro (show ∀ m, mC m = [.v (.int .i64 m.mark), .v (.int .i64 m.part), .v (.int .i64 m.word), .v (.string m.old), .v (.string m.new), .v (.int .i64 m.was), .v (.int .i64 m.kind)] from fun _ => rfl) prE)))
 have hL : lstsErr [(true, a), (true, b)] = mgE a b := by simp only [lstsErr, mgE]; (repeat' split) <;> simp_all
 have hC := checkMarks_s false [(true, a), (true, b)] (by simpa using ⟨⟨ha, by omega⟩, hb, by omega⟩) (by simp)
 rw [hL] at hC
 refine Ctr.of (rs := [.tmp 4, .cell 5 84, .tmp 6]) Tok true Try.func48 rfl rfl rfl rfl (by simp [ofDL]) (fun w0 kp => ?_)
 simp only [↓sx0, sxE, encs, sevalprocAttr]
 refine CallI.fn (hC) (by simp only [sx3, encs, sxR, sevalprocAttr] <;> (try simp) <;> (try rfl)) ?_
 simp only [↓sx0, sxE, encs, sevalprocAttr]
 refine BrW.dec (fun he => ?_) (fun he => ?_)
 ·rw [show mgV a b = ([], (0, 0), mgE a b) by rw [mgV, if_neg he]]
  simp only [↓sx0, sxE, encs, sevalprocAttr]
  refine EndW.fn ?_ ?_ <;> simp only [sx4, encs, kpLL_map, sxR, sevalprocAttr] <;> (try simp) <;> (try omega)
 ·have he := Decidable.not_not.1 he
  have hea : lstErr a = 0 := by
   unfold mgE at he; split at he
   ·assumption
   ·exact absurd he (by assumption)
  have heb : lstErr b = 0 := by rw [mgE, if_pos hea] at he; exact he
  obtain ⟨a60, aok⟩ := lst_all hea
  obtain ⟨b60, bok⟩ := lst_all heb
  simp only [↓sx0, sxE, encs, sevalprocAttr]
  repeat ((with_reducible refine Vc.go ?_ fun _ => ?_); (focus (first | omega | (simp only [InK]; omega) | (simp [InK]; done) | (simp [InK]; omega))); simp only [↓sx0, sxE, encs, sevalprocAttr])
  refine BrW.dec (fun h8 => ?_) (fun h8 => ?_)
  ·rw [show mgV a b = ([], (0, 0), 8) by rw [mgV, if_pos he, if_pos (by omega)]]
   simp only [↓sx0, sxE, encs, sevalprocAttr]
   refine EndW.fn ?_ ?_ <;> simp only [sx4, encs, kpLL_map, sxR, sevalprocAttr] <;> (try simp) <;> (try omega)
  ·rw [show mgV a b = mgF b 0 a a by rw [mgV, if_pos he, if_neg (by omega)]]
   have hkp := kpM a
   simp only [↓sx0, sxE, encs, sevalprocAttr]
   refine CallI.ctr (cloneM_s true (a.map eM) hkp (by simp; omega)) (by simp only [sx3, encs, sxR, sevalprocAttr] <;> (try simp) <;> (try rfl)) ?_
   rintro _ rfl
   simp only [↓sx0, sxE, encs, sevalprocAttr]
   refine CallI.ctr (cloneM_s true (a.map eM) hkp (by simp; omega)) (by simp only [sx3, encs, sxR, sevalprocAttr] <;> (try simp) <;> (try rfl)) ?_
   rintro _ rfl
   simp only [↓sx0, sxE, encs, sevalprocAttr]
   refine LoopW.comp [5, 8, 9, 35, 36, 37] (by simp only [sx2, encs, sxR, sevalprocAttr] <;> (try simp) <;> (try omega)) ?_
   simp only [sx2, sxR, sevalprocAttr]
   refine LoopW.up Tok (fun s : MS => [(8, .row 0), (37, (.v (.int .i64 s.k)))]) (fun s => []) (fun s => [(0, s.out.map eM), (1, s.xs.map eM)]) (fun s => []) (fun s => (s.k ≤ b.length ∧ s.xs.length = a.length ∧ s.out.length ≤ a.length + s.k) ∧ (∀ m ∈ s.xs, mkErr m = 0) ∧ mgF (b.drop s.k) s.k s.xs s.out = mgF b 0 a a) (fun s => b.length - s.k) (⟨0, a, a⟩) (by simp only [sx2, encs, sxR, sevalprocAttr] <;> (try simp) <;> (try omega)) ?_ ?_
   ·exact ⟨⟨by simp, rfl, by simp⟩, aok, rfl⟩
   rintro ⟨k, xs, out⟩ ⟨⟨h1, h2, h3⟩, hok, hM⟩
   simp only at h1 h2 h3 hok hM
   simp only [↓sx0, sxE, encs, sevalprocAttr]
   refine BrW.dec (fun hlt => ?_) (fun hlt => ?_)
   ·simp only [↓sx0, sxE, encs, sevalprocAttr]
    have hkb : k < b.length := by omega
    have hd : b.drop k = b[k] :: b.drop (k + 1) := List.drop_eq_getElem_cons hkb
    have hy0 : mkErr b[k] = 0 := bok _ (List.getElem_mem hkb)
    rw [hd] at hM
    refine IxW.nat hkb ?_
    simp only [↓sx0, sxE, encs, sevalprocAttr]
    generalize b[k] = y0 at hM hy0 ⊢
    refine LoopW.comp [5, 8, 9, 10, 11, 35, 36, 37, 42, 43, 44] (by simp only [sx2, encs, sxR, sevalprocAttr] <;> (try simp) <;> (try omega)) ?_
    simp only [sx2, sxR, sevalprocAttr]
    refine LoopW.up Tok (fun s : IS => [(44, (.v (.int .i64 s.i)))]) (fun s => [(1, mC s.y)]) (fun s => [(1, s.l.map eM)]) (fun s => []) (fun s => (s.i ≤ xs.length ∧ s.l.length = xs.length) ∧ (∀ m ∈ s.l, mkErr m = 0) ∧ mkErr s.y = 0 ∧ inL s.i (s.l.drop s.i) s.y (s.l.take s.i) = inL 0 xs y0 []) (fun s => xs.length - s.i) (⟨0, xs, y0⟩) (by simp only [sx2, encs, sxR, sevalprocAttr] <;> (try simp) <;> (try omega)) ?_ ?_
    ·exact ⟨⟨by simp, rfl⟩, hok, hy0, by simp⟩
    rintro ⟨i, l, y⟩ ⟨⟨i1, i2⟩, iok, hy, hI⟩
    simp only at i1 i2 iok hy hI
    simp only [↓sx0, sxE, encs, sevalprocAttr]
    refine BrW.dec (fun hlt2 => ?_) (fun hlt2 => ?_)
    ·simp only [↓sx0, sxE, encs, sevalprocAttr]
     have hil : i < l.length := by omega
     have hx : mkErr l[i] = 0 := iok _ (List.getElem_mem hil)
     have s1 := inL_step (y := y) hil
     have s2 := inL_bad (y := y) hil
     repeat ((with_reducible refine Vc.go ?_ fun _ => ?_); (focus (first | omega | (simp only [InK]; omega) | (simp [InK]; done) | (simp [InK]; omega))); simp only [↓sx0, sxE, encs, sevalprocAttr])
     refine IxW.nat hil ?_
     simp only [↓sx0, sxE, encs, sevalprocAttr]
     generalize l[i] = x at hx s1 s2 ⊢
     refine CallI.fn (hang_s x y (mk_ok hx).2.1 (mk_ok hy).2.1) (by simp only [sx3, encs, sxR, sevalprocAttr] <;> (try simp) <;> (try rfl)) ?_
     simp only [↓sx0, sxE, encs, sevalprocAttr]
     refine BrW.of (fun hh => ?_) (fun hh => ?_)
     ·have hs : stepE x y = 13 := by rw [stepE, if_pos hh]
      have hb := mgF_no (bs := b.drop (k + 1)) (k := k) (out := out) (hI.symm.trans (s2 (by rw [hs]; omega)))
      rw [hb, hs] at hM
      rw [← hM]
      simp only [↓sx0, sxE, encs, sevalprocAttr]
      refine EndW.fn ?_ ?_ <;> simp only [sx4, encs, kpLL_map, sxR, sevalprocAttr] <;> (try simp) <;> (try omega)
     ·simp only [↓sx0, sxE, encs, sevalprocAttr]
      refine CallI.fn (over_s y x (mk_ok hy).2.1 (mk_ok hx).2.1) (by simp only [sx3, encs, sxR, sevalprocAttr] <;> (try simp) <;> (try rfl)) ?_
      simp only [↓sx0, sxE, encs, sevalprocAttr]
      refine BrW.dec (fun e1 => ?_) (fun e1 => ?_)
      ·have hs : stepE x y = (ovP y x).2 := by rw [stepE, if_neg (by rw [hh]; simp), if_neg e1]
       have hb := mgF_no (bs := b.drop (k + 1)) (k := k) (out := out) (hI.symm.trans (s2 (by rw [hs]; exact e1)))
       rw [hb, hs] at hM
       rw [← hM]
       simp only [↓sx0, sxE, encs, sevalprocAttr]
       refine EndW.fn ?_ ?_ <;> simp only [sx4, encs, kpLL_map, sxR, sevalprocAttr] <;> (try simp) <;> (try omega)
      ·have e1 := Decidable.not_not.1 e1
       have hs : stepE x y = (ovP x y).2 := by rw [stepE, if_neg (by rw [hh]; simp), if_pos e1]
       simp only [↓sx0, sxE, encs, sevalprocAttr]
       refine CallI.fn (over_s x y (mk_ok hx).2.1 (mk_ok hy).2.1) (by simp only [sx3, encs, sxR, sevalprocAttr] <;> (try simp) <;> (try rfl)) ?_
       simp only [↓sx0, sxE, encs, sevalprocAttr]
       repeat ((with_reducible refine Vc.go ?_ fun _ => ?_); (focus (first | omega | (simp only [InK]; omega) | (simp [InK]; done) | (simp [InK]; omega))); simp only [↓sx0, sxE, encs, sevalprocAttr])
       have hmm := modM hil (ovP x y).1
       simp only [eM] at hmm
       refine BrW.dec (fun e2 => ?_) (fun e2 => ?_)
       ·have hb := mgF_no (bs := b.drop (k + 1)) (k := k) (out := out) (hI.symm.trans (s2 (by rw [hs]; exact e2)))
        rw [hb, hs] at hM
        rw [← hM]
        simp only [↓sx0, sxE, encs, sevalprocAttr]
        refine EndW.fn ?_ ?_ <;> simp only [sx4, encs, kpLL_map, sxR, sevalprocAttr] <;> (try simp) <;> (try omega)
       ·have e2 := Decidable.not_not.1 e2
        have h0 : stepE x y = 0 := by rw [hs, e2]
        obtain ⟨k1, k2⟩ := step_ok hx hy h0
        have s3 := s1 h0
        simp only [↓sx0, sxE, encs, sevalprocAttr]
        repeat ((with_reducible refine Vc.go ?_ fun _ => ?_); (focus (first | omega | (simp only [InK]; omega) | (simp [InK]; done) | (simp [InK]; omega))); simp only [↓sx0, sxE, encs, sevalprocAttr])
        refine ⟨⟨i + 1, l.set i (ovP x y).1, (ovP y x).1⟩, StLe.auto (by simp only [sx2, encs, sxR, sevalprocAttr] <;> (try simp [hmm, eM, encs]) <;> (try omega)), ?_, ?_⟩
        ·exact ⟨⟨by simp only; omega, by simp; omega⟩, set_ok iok k1, k2, by rw [← s3]; exact hI⟩
        ·simp only; omega
    ·have hie : i = l.length := by omega
     subst hie
     rw [List.drop_length, List.take_length, inL] at hI
     rw [mgF_ok hI.symm] at hM
     simp only [↓sx0, sxE, encs, sevalprocAttr]
     repeat ((with_reducible refine Vc.go ?_ fun _ => ?_); (focus (first | omega | (simp only [InK]; omega) | (simp [InK]; done) | (simp [InK]; omega))); simp only [↓sx0, sxE, encs, sevalprocAttr])
     refine ⟨⟨k + 1, l, out ++ [y]⟩, StLe.auto (by simp only [sx2, encs, sxR, sevalprocAttr] <;> (try simp [eM, encs]) <;> (try omega)), ?_, ?_⟩
     ·exact ⟨⟨by simp only; omega, by simp only; omega, by simp; omega⟩, iok, hM⟩
     ·simp only; omega
   ·have hke : k = b.length := by omega
    subst hke
    rw [List.drop_length, mgF] at hM
    rw [← hM]
    simp only [↓sx0, sxE, encs, sevalprocAttr]
    refine EndW.fn ?_ ?_ <;> simp only [sx4, encs, kpLL_map, sxR, sevalprocAttr] <;> (try simp) <;> (try omega)
end Go.Proofs.Ytenohgpackcjbaa
/-
 Chapter 8, walks: proofs are merged (reference), the law.
-/
namespace Go.Proofs.Ytenohgpackcjbaa
open Go Go.Vx
set_option linter.unusedSimpArgs false
set_option linter.unusedVariables false
set_option maxRecDepth 20000
theorem plB_symm (x y : Mk) : plB y x = plB x y := by
 rw [Bool.eq_iff_iff]
 simp only [plB, Bool.and_eq_true, Bool.or_eq_true, decide_eq_true_eq]
 omega
theorem mgF_len : ∀ (bs : List Mk) (k : Nat) (xs out : List Mk), (mgF bs k xs out).1.length ≤ out.length + bs.length
 | [], k, xs, out => by simp [mgF]
 | y :: bs, k, xs, out => by
  unfold mgF
  split
  ·rename_i xs' y' _
   have := mgF_len bs (k + 1) xs' (out ++ [y'])
   simp only [List.length_append, List.length_cons, List.length_nil] at this ⊢
   omega
  ·simp
theorem mgV_len (a b : List Mk) : (mgV a b).1.length ≤ a.length + b.length := by
 unfold mgV
 split
 ·split
  ·simp
  ·exact mgF_len b 0 a a
 ·simp
end Go.Proofs.Ytenohgpackcjbaa
