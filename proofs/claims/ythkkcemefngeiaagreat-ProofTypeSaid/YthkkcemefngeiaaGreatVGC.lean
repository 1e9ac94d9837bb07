/-
 Chapter 8, walks: two marks in the other order, the first one breaks.
-/
import Derived.Test.YthkkcemefngeiaaGreatVGB
namespace Go.Proofs.YthkkcemefngeiaaGreat
open Go Go.Vx
set_option linter.unusedSimpArgs false
set_option linter.unusedVariables false
set_option maxRecDepth 20000
def befP (a b : Mk) : Option (Mk × Mk) :=
 if b.mark = 6 then (if b.part = a.part - 1 then none else some ({ a with part := a.part + shM b }, b)) else some ({ a with part := a.part + shM b }, b)
def brokenP (a b : Mk) : Option (Mk × Mk) :=
 if b.part < a.part then befP a b else if a.part + 1 < b.part then some (a, { b with part := b.part - 1 }) else if ptsB b = true then none
 else if b.part = a.part then (if owB b = true then some ({ a with word := a.word + lenM b }, b) else some (a, b)) else if owB b = true then some (a, { b with part := b.part - 1, word := b.word + a.word }) else none
def joinedP (a b : Mk) : Option (Mk × Mk) :=
 if b.part < a.part then befP a b else if a.part < b.part then some (a, { b with part := b.part + 1 }) else if ptsB b = true then none
 else if owB b = true then (if b.word + ahM b ≤ a.word then some ({ a with word := a.word + lenM b }, b) else if a.word ≤ b.word then some (a, { b with part := b.part + 1, word := b.word - a.word }) else none) else some (a, b)
def breaksP (a b : Mk) : Option (Mk × Mk) :=
 if a.part < b.part then some (a, b) else if b.part < a.part then some ({ a with part := a.part + 1 }, b)
 else if owB a = true then (if b.word ≤ a.word then some ({ a with part := a.part + 1, word := a.word - b.word }, b) else if a.word + ahM a + lenM a ≤ b.word then some (a, { b with word := b.word - lenM a }) else none) else some (a, b)
def joinsP (a b : Mk) : Option (Mk × Mk) :=
 if a.part < b.part then some (a, b) else if b.part + 1 < a.part then some ({ a with part := a.part - 1 }, b)
 else if a.part = b.part then (if owB a = true then some (a, { b with word := b.word - lenM a }) else some (a, b)) else if owB a = true then some ({ a with part := a.part - 1, word := a.word + b.word }, b) else none
set_option maxHeartbeats 16000000 in
theorem swappedB_s (a b : Mk) (ha : inR a = true) (hb : inR b = true) (h1 : a.mark = 5) : Ctr Tryz.prog 35 [mV a, mV b] (fun rr => rr = ⟨.tup [prSV (swapF (brokenP a b)).1, (.v (.int .i64 ((swapF (brokenP a b)).2)))], []⟩) := by
 have encs := And.intro encs prE
 obtain ⟨⟨a1, a2⟩, a3, a4⟩ := inR_b ha
 obtain ⟨⟨b1, b2⟩, b3, b4⟩ := inR_b hb
 have la := lenM_b a
 have lb := lenM_b b
 have sb := shM_b b
 have ah := ahM_b a
 have bh := ahM_b b
 refine Ctr.of (rs := [.cell 4 54, .tmp 5]) Tok true Tryz.func35 rfl rfl rfl rfl (by simp [ofDL]) (fun w0 kp => ?_)
 simp only [↓sx0, sxE, encs, sevalprocAttr]
 refine CallI.inlG (rs := [.tmp 2]) Tok (fun h => by first | cases h; done | rfl) Tryz.func50 rfl rfl rfl rfl (by simp) (fun ρ σ μ fr lp => ?_) (by refine ⟨_, ?_, rfl⟩; rfl)
 simp only [↓sx0, sxE, encs, sevalprocAttr]
 refine BrW.yes h1 ?_
 simp only [↓sx0, sxE, encs, sevalprocAttr]
 refine CallI.inlG (rs := [.tmp 2]) Tok (fun h => by first | cases h; done | rfl) Tryz.func67 rfl rfl rfl rfl (by simp) (fun ρ σ μ fr lp => ?_) (by refine ⟨_, ?_, rfl⟩; rfl)
 simp only [↓sx0, sxE, encs, sevalprocAttr]
 refine DrawW.plan Tok mixed (.q 0 <| .q 1 <| .q 2 <| .q 3 <| .q 4 <| .q 5 <| .q 6 <| .q 7 <| .e2 8 [1, 3, 5, 7] (.e 9 [1, 3, 5, 7] <| .e 10 [5, 7] <| .e 11 [] <| .done) 9 [1, 3, 5, 7] (.e 8 [1, 3, 5, 7] <| .e 10 [5, 7] <| .e 11 [] <| .done)) (by kernel_rfl) (by kernel_rfl) ?_
 simp only [↓sx0, sxE, encs, sevalprocAttr]

 refine And.intro ?_ ?_
 all_goals (
  skip
  refine BrW.dec (fun p5 => ?_) (fun p5 => ?_)
  ·simp only [↓sx0, sxE, encs, sevalprocAttr]
   refine CallI.inlG (rs := [.tmp 2]) Tok (fun h => by first | cases h; done | rfl) Tryz.func86 rfl rfl rfl rfl (by simp) (fun ρ σ μ fr lp => ?_) (by refine ⟨_, ?_, rfl⟩; rfl)
   simp only [↓sx0, sxE, encs, sevalprocAttr]
   refine DrawW.plan Tok mixed (.q 0 <| .q 1 <| .q 2 <| .q 3 <| .q 4 <| .q 5 <| .q 6 <| .q 7 <| .q 8 <| .q 9 <| .q 10 <| .q 11 <| .q 12 <| .q 13 <| .q 14 <| .q 15 <| .q 16 <| .q 17 <| .q 18 <| .q 19 <| .done) (by kernel_rfl) (by kernel_rfl) ?_
   simp only [↓sx0, sxE, encs, sevalprocAttr]
   refine BrW.dec (fun p2 => ?_) (fun p2 => ?_)
   ·simp only [↓sx0, sxE, encs, sevalprocAttr]
    repeat ((with_reducible refine Vc.go ?_ fun _ => ?_); (focus (first | omega | (simp only [InK]; omega) | (simp [InK]; done) | (simp [InK]; omega))); simp only [↓sx0, sxE, encs, sevalprocAttr])
    refine BrW.dec (fun p1 => ?_) (fun p1 => ?_)
    ·simp only [↓sx0, sxE, encs, sevalprocAttr]
     have hq : brokenP a b = none := by rw [brokenP, if_pos (by omega), befP, if_pos (by omega), if_pos (by omega)]
     rw [hq, show swapF none = ((mk0, mk0), 13) from rfl]
     simp only [↓sx0, sxE, encs, sevalprocAttr]
     refine EndW.fn ?_ ?_ <;> simp only [sx4, encs, kpLL_map, sxR, sevalprocAttr] <;> (try simp) <;> (try omega)
    ·simp only [↓sx0, sxE, encs, sevalprocAttr]
     refine DrawW.plan Tok mixed (.q 0 <| .q 1 <| .q 2 <| .q 3 <| .q 4 <| .q 5 <| .q 6 <| .q 7 <| .q 8 <| .e 9 [1, 4] <| .q 10 <| .q 11 <| .q 12 <| .e 13 [] <| .done) (by kernel_rfl) (by kernel_rfl) ?_
     simp only [↓sx0, sxE, encs, sevalprocAttr]
     refine CallI.fn (shift_s b) (by simp only [sx3, encs, sxR, sevalprocAttr] <;> (try simp) <;> (try rfl)) ?_
     simp only [↓sx0, sxE, encs, sevalprocAttr]
     repeat ((with_reducible refine Vc.go ?_ fun _ => ?_); (focus (first | omega | (simp only [InK]; omega) | (simp [InK]; done) | (simp [InK]; omega))); simp only [↓sx0, sxE, encs, sevalprocAttr])
     have hq : brokenP a b = some ({ a with part := a.part + shM b }, b) := by rw [brokenP, if_pos (by omega), befP, if_pos (by omega), if_neg (by omega)]
     rw [hq]
     refine CallI.fn (inRange_s ({ a with part := a.part + shM b })) (by simp only [sx3, encs, sxR, sevalprocAttr] <;> (try simp) <;> (try rfl)) ?_
     simp only [↓sx0, sxE, encs, sevalprocAttr]
     refine BrW.of (fun r1 => ?_) (fun r1 => ?_)
     ·simp only [↓sx0, sxE, encs, sevalprocAttr]
      refine CallI.fn (inRange_s (b)) (by simp only [sx3, encs, sxR, sevalprocAttr] <;> (try simp) <;> (try rfl)) ?_
      simp only [↓sx0, sxE, encs, sevalprocAttr]
      refine BrW.of (fun r2 => ?_) (fun r2 => ?_)
      ·simp only [↓sx0, sxE, encs, sevalprocAttr]
       refine CallI.fn (containsM_s true 52 p0B [b, { a with part := a.part + shM b }] (by simp) (fun x _ => swapped1_s x)) (by simp only [sx3, encs, sxR, sevalprocAttr] <;> (try simp) <;> (try rfl)) ?_
       simp only [↓sx0, sxE, encs, sevalprocAttr]
       refine BrW.of (fun r3 => ?_) (fun r3 => ?_)
       ·simp only [↓sx0, sxE, encs, sevalprocAttr]
        have r3 : p0B (b) = true ∨ p0B ({ a with part := a.part + shM b }) = true := by simpa using r3
        rw [show swapF (some ({ a with part := a.part + shM b }, b)) = ((mk0, mk0), 3) by simp only [swapF]; rw [if_pos ⟨r1, r2⟩, if_pos r3]]
        refine EndW.fn ?_ ?_ <;> simp only [sx4, encs, kpLL_map, sxR, sevalprocAttr] <;> (try simp) <;> (try omega)
       ·simp only [↓sx0, sxE, encs, sevalprocAttr]
        have r3 : ¬ (p0B (b) = true ∨ p0B ({ a with part := a.part + shM b }) = true) := by simpa using r3
        rw [show swapF (some ({ a with part := a.part + shM b }, b)) = ((b, { a with part := a.part + shM b }), 0) by simp only [swapF]; rw [if_pos ⟨r1, r2⟩, if_neg r3]]
        refine EndW.fn ?_ ?_ <;> simp only [sx4, encs, kpLL_map, sxR, sevalprocAttr] <;> (try simp) <;> (try omega)
      ·simp only [↓sx0, sxE, encs, sevalprocAttr]
       rw [show swapF (some ({ a with part := a.part + shM b }, b)) = ((mk0, mk0), 2) by simp only [swapF]; rw [if_neg (by rw [r2]; simp)]]
       refine EndW.fn ?_ ?_ <;> simp only [sx4, encs, kpLL_map, sxR, sevalprocAttr] <;> (try simp) <;> (try omega)
     ·simp only [↓sx0, sxE, encs, sevalprocAttr]
      rw [show swapF (some ({ a with part := a.part + shM b }, b)) = ((mk0, mk0), 2) by simp only [swapF]; rw [if_neg (by rw [r1]; simp)]]
      refine EndW.fn ?_ ?_ <;> simp only [sx4, encs, kpLL_map, sxR, sevalprocAttr] <;> (try simp) <;> (try omega)
   ·simp only [↓sx0, sxE, encs, sevalprocAttr]
    refine DrawW.plan Tok mixed (.q 0 <| .q 1 <| .q 2 <| .q 3 <| .q 4 <| .q 5 <| .q 6 <| .q 7 <| .q 8 <| .e 9 [1, 4] <| .q 10 <| .q 11 <| .q 12 <| .e 13 [] <| .done) (by kernel_rfl) (by kernel_rfl) ?_
    simp only [↓sx0, sxE, encs, sevalprocAttr]
    refine CallI.fn (shift_s b) (by simp only [sx3, encs, sxR, sevalprocAttr] <;> (try simp) <;> (try rfl)) ?_
    simp only [↓sx0, sxE, encs, sevalprocAttr]
    repeat ((with_reducible refine Vc.go ?_ fun _ => ?_); (focus (first | omega | (simp only [InK]; omega) | (simp [InK]; done) | (simp [InK]; omega))); simp only [↓sx0, sxE, encs, sevalprocAttr])
    have hq : brokenP a b = some ({ a with part := a.part + shM b }, b) := by rw [brokenP, if_pos (by omega), befP, if_neg (by omega)]
    rw [hq]
    refine CallI.fn (inRange_s ({ a with part := a.part + shM b })) (by simp only [sx3, encs, sxR, sevalprocAttr] <;> (try simp) <;> (try rfl)) ?_
    simp only [↓sx0, sxE, encs, sevalprocAttr]
    refine BrW.of (fun r1 => ?_) (fun r1 => ?_)
    ·simp only [↓sx0, sxE, encs, sevalprocAttr]
     refine CallI.fn (inRange_s (b)) (by simp only [sx3, encs, sxR, sevalprocAttr] <;> (try simp) <;> (try rfl)) ?_
     simp only [↓sx0, sxE, encs, sevalprocAttr]
     refine BrW.of (fun r2 => ?_) (fun r2 => ?_)
     ·simp only [↓sx0, sxE, encs, sevalprocAttr]
      refine CallI.fn (containsM_s true 52 p0B [b, { a with part := a.part + shM b }] (by simp) (fun x _ => swapped1_s x)) (by simp only [sx3, encs, sxR, sevalprocAttr] <;> (try simp) <;> (try rfl)) ?_
      simp only [↓sx0, sxE, encs, sevalprocAttr]
      refine BrW.of (fun r3 => ?_) (fun r3 => ?_)
      ·simp only [↓sx0, sxE, encs, sevalprocAttr]
       have r3 : p0B (b) = true ∨ p0B ({ a with part := a.part + shM b }) = true := by simpa using r3
       rw [show swapF (some ({ a with part := a.part + shM b }, b)) = ((mk0, mk0), 3) by simp only [swapF]; rw [if_pos ⟨r1, r2⟩, if_pos r3]]
       refine EndW.fn ?_ ?_ <;> simp only [sx4, encs, kpLL_map, sxR, sevalprocAttr] <;> (try simp) <;> (try omega)
      ·simp only [↓sx0, sxE, encs, sevalprocAttr]
       have r3 : ¬ (p0B (b) = true ∨ p0B ({ a with part := a.part + shM b }) = true) := by simpa using r3
       rw [show swapF (some ({ a with part := a.part + shM b }, b)) = ((b, { a with part := a.part + shM b }), 0) by simp only [swapF]; rw [if_pos ⟨r1, r2⟩, if_neg r3]]
       refine EndW.fn ?_ ?_ <;> simp only [sx4, encs, kpLL_map, sxR, sevalprocAttr] <;> (try simp) <;> (try omega)
     ·simp only [↓sx0, sxE, encs, sevalprocAttr]
      rw [show swapF (some ({ a with part := a.part + shM b }, b)) = ((mk0, mk0), 2) by simp only [swapF]; rw [if_neg (by rw [r2]; simp)]]
      refine EndW.fn ?_ ?_ <;> simp only [sx4, encs, kpLL_map, sxR, sevalprocAttr] <;> (try simp) <;> (try omega)
    ·simp only [↓sx0, sxE, encs, sevalprocAttr]
     rw [show swapF (some ({ a with part := a.part + shM b }, b)) = ((mk0, mk0), 2) by simp only [swapF]; rw [if_neg (by rw [r1]; simp)]]
     refine EndW.fn ?_ ?_ <;> simp only [sx4, encs, kpLL_map, sxR, sevalprocAttr] <;> (try simp) <;> (try omega)
  ·simp only [↓sx0, sxE, encs, sevalprocAttr]
   repeat ((with_reducible refine Vc.go ?_ fun _ => ?_); (focus (first | omega | (simp only [InK]; omega) | (simp [InK]; done) | (simp [InK]; omega))); simp only [↓sx0, sxE, encs, sevalprocAttr])
   refine BrW.dec (fun p4 => ?_) (fun p4 => ?_)
   ·simp only [↓sx0, sxE, encs, sevalprocAttr]
    repeat ((with_reducible refine Vc.go ?_ fun _ => ?_); (focus (first | omega | (simp only [InK]; omega) | (simp [InK]; done) | (simp [InK]; omega))); simp only [↓sx0, sxE, encs, sevalprocAttr])
    have hq : brokenP a b = some (a, { b with part := b.part - 1 }) := by rw [brokenP, if_neg (by omega), if_pos (by omega)]
    rw [hq]
    refine CallI.fn (inRange_s (a)) (by simp only [sx3, encs, sxR, sevalprocAttr] <;> (try simp) <;> (try rfl)) ?_
    simp only [↓sx0, sxE, encs, sevalprocAttr]
    refine BrW.of (fun r1 => ?_) (fun r1 => ?_)
    ·simp only [↓sx0, sxE, encs, sevalprocAttr]
     refine CallI.fn (inRange_s ({ b with part := b.part - 1 })) (by simp only [sx3, encs, sxR, sevalprocAttr] <;> (try simp) <;> (try rfl)) ?_
     simp only [↓sx0, sxE, encs, sevalprocAttr]
     refine BrW.of (fun r2 => ?_) (fun r2 => ?_)
     ·simp only [↓sx0, sxE, encs, sevalprocAttr]
      refine CallI.fn (containsM_s true 52 p0B [{ b with part := b.part - 1 }, a] (by simp) (fun x _ => swapped1_s x)) (by simp only [sx3, encs, sxR, sevalprocAttr] <;> (try simp) <;> (try rfl)) ?_
      simp only [↓sx0, sxE, encs, sevalprocAttr]
      refine BrW.of (fun r3 => ?_) (fun r3 => ?_)
      ·simp only [↓sx0, sxE, encs, sevalprocAttr]
       have r3 : p0B ({ b with part := b.part - 1 }) = true ∨ p0B (a) = true := by simpa using r3
       rw [show swapF (some (a, { b with part := b.part - 1 })) = ((mk0, mk0), 3) by simp only [swapF]; rw [if_pos ⟨r1, r2⟩, if_pos r3]]
       refine EndW.fn ?_ ?_ <;> simp only [sx4, encs, kpLL_map, sxR, sevalprocAttr] <;> (try simp) <;> (try omega)
      ·simp only [↓sx0, sxE, encs, sevalprocAttr]
       have r3 : ¬ (p0B ({ b with part := b.part - 1 }) = true ∨ p0B (a) = true) := by simpa using r3
       rw [show swapF (some (a, { b with part := b.part - 1 })) = (({ b with part := b.part - 1 }, a), 0) by simp only [swapF]; rw [if_pos ⟨r1, r2⟩, if_neg r3]]
       refine EndW.fn ?_ ?_ <;> simp only [sx4, encs, kpLL_map, sxR, sevalprocAttr] <;> (try simp) <;> (try omega)
     ·simp only [↓sx0, sxE, encs, sevalprocAttr]
      rw [show swapF (some (a, { b with part := b.part - 1 })) = ((mk0, mk0), 2) by simp only [swapF]; rw [if_neg (by rw [r2]; simp)]]
      refine EndW.fn ?_ ?_ <;> simp only [sx4, encs, kpLL_map, sxR, sevalprocAttr] <;> (try simp) <;> (try omega)
    ·simp only [↓sx0, sxE, encs, sevalprocAttr]
     rw [show swapF (some (a, { b with part := b.part - 1 })) = ((mk0, mk0), 2) by simp only [swapF]; rw [if_neg (by rw [r1]; simp)]]
     refine EndW.fn ?_ ?_ <;> simp only [sx4, encs, kpLL_map, sxR, sevalprocAttr] <;> (try simp) <;> (try omega)
   ·simp only [↓sx0, sxE, encs, sevalprocAttr]
    refine CallI.fn (parts_s b) (by simp only [sx3, encs, sxR, sevalprocAttr] <;> (try simp) <;> (try rfl)) ?_
    simp only [↓sx0, sxE, encs, sevalprocAttr]
    refine BrW.of (fun o1 => ?_) (fun o1 => ?_)
    ·simp only [↓sx0, sxE, encs, sevalprocAttr]
     have hq : brokenP a b = none := by rw [brokenP, if_neg (by omega), if_neg (by omega), if_pos o1]
     rw [hq, show swapF none = ((mk0, mk0), 13) from rfl]
     simp only [↓sx0, sxE, encs, sevalprocAttr]
     refine EndW.fn ?_ ?_ <;> simp only [sx4, encs, kpLL_map, sxR, sevalprocAttr] <;> (try simp) <;> (try omega)
    ·simp only [↓sx0, sxE, encs, sevalprocAttr]
     refine BrW.dec (fun p3 => ?_) (fun p3 => ?_)
     ·simp only [↓sx0, sxE, encs, sevalprocAttr]
      refine CallI.fn (ofWords_s b) (by simp only [sx3, encs, sxR, sevalprocAttr] <;> (try simp) <;> (try rfl)) ?_
      simp only [↓sx0, sxE, encs, sevalprocAttr]
      refine BrW.of (fun o2 => ?_) (fun o2 => ?_)
      ·simp only [↓sx0, sxE, encs, sevalprocAttr]
       refine DrawW.plan Tok mixed (.q 0 <| .q 1 <| .q 2 <| .q 3 <| .q 4 <| .q 5 <| .e 6 [1, 4] <| .q 7 <| .q 8 <| .q 9 <| .e 10 [] <| .done) (by kernel_rfl) (by kernel_rfl) ?_
       simp only [↓sx0, sxE, encs, sevalprocAttr]
       refine CallI.fn (lengthens_s b) (by simp only [sx3, encs, sxR, sevalprocAttr] <;> (try simp) <;> (try rfl)) ?_
       simp only [↓sx0, sxE, encs, sevalprocAttr]
       repeat ((with_reducible refine Vc.go ?_ fun _ => ?_); (focus (first | omega | (simp only [InK]; omega) | (simp [InK]; done) | (simp [InK]; omega))); simp only [↓sx0, sxE, encs, sevalprocAttr])
       have hq : brokenP a b = some ({ a with word := a.word + lenM b }, b) := by rw [brokenP, if_neg (by omega), if_neg (by omega), if_neg (by rw [o1]; simp), if_pos (by omega), if_pos o2]
       rw [hq]
       refine CallI.fn (inRange_s ({ a with word := a.word + lenM b })) (by simp only [sx3, encs, sxR, sevalprocAttr] <;> (try simp) <;> (try rfl)) ?_
       simp only [↓sx0, sxE, encs, sevalprocAttr]
       refine BrW.of (fun r1 => ?_) (fun r1 => ?_)
       ·simp only [↓sx0, sxE, encs, sevalprocAttr]
        refine CallI.fn (inRange_s (b)) (by simp only [sx3, encs, sxR, sevalprocAttr] <;> (try simp) <;> (try rfl)) ?_
        simp only [↓sx0, sxE, encs, sevalprocAttr]
        refine BrW.of (fun r2 => ?_) (fun r2 => ?_)
        ·simp only [↓sx0, sxE, encs, sevalprocAttr]
         refine CallI.fn (containsM_s true 52 p0B [b, { a with word := a.word + lenM b }] (by simp) (fun x _ => swapped1_s x)) (by simp only [sx3, encs, sxR, sevalprocAttr] <;> (try simp) <;> (try rfl)) ?_
         simp only [↓sx0, sxE, encs, sevalprocAttr]
         refine BrW.of (fun r3 => ?_) (fun r3 => ?_)
         ·simp only [↓sx0, sxE, encs, sevalprocAttr]
          have r3 : p0B (b) = true ∨ p0B ({ a with word := a.word + lenM b }) = true := by simpa using r3
          rw [show swapF (some ({ a with word := a.word + lenM b }, b)) = ((mk0, mk0), 3) by simp only [swapF]; rw [if_pos ⟨r1, r2⟩, if_pos r3]]
          refine EndW.fn ?_ ?_ <;> simp only [sx4, encs, kpLL_map, sxR, sevalprocAttr] <;> (try simp) <;> (try omega)
         ·simp only [↓sx0, sxE, encs, sevalprocAttr]
          have r3 : ¬ (p0B (b) = true ∨ p0B ({ a with word := a.word + lenM b }) = true) := by simpa using r3
          rw [show swapF (some ({ a with word := a.word + lenM b }, b)) = ((b, { a with word := a.word + lenM b }), 0) by simp only [swapF]; rw [if_pos ⟨r1, r2⟩, if_neg r3]]
          refine EndW.fn ?_ ?_ <;> simp only [sx4, encs, kpLL_map, sxR, sevalprocAttr] <;> (try simp) <;> (try omega)
        ·simp only [↓sx0, sxE, encs, sevalprocAttr]
         rw [show swapF (some ({ a with word := a.word + lenM b }, b)) = ((mk0, mk0), 2) by simp only [swapF]; rw [if_neg (by rw [r2]; simp)]]
         refine EndW.fn ?_ ?_ <;> simp only [sx4, encs, kpLL_map, sxR, sevalprocAttr] <;> (try simp) <;> (try omega)
       ·simp only [↓sx0, sxE, encs, sevalprocAttr]
        rw [show swapF (some ({ a with word := a.word + lenM b }, b)) = ((mk0, mk0), 2) by simp only [swapF]; rw [if_neg (by rw [r1]; simp)]]
        refine EndW.fn ?_ ?_ <;> simp only [sx4, encs, kpLL_map, sxR, sevalprocAttr] <;> (try simp) <;> (try omega)
      ·simp only [↓sx0, sxE, encs, sevalprocAttr]
       refine BrW.yes (by omega) ?_
       simp only [↓sx0, sxE, encs, sevalprocAttr]
       have hq : brokenP a b = some (a, b) := by rw [brokenP, if_neg (by omega), if_neg (by omega), if_neg (by rw [o1]; simp), if_pos (by omega), if_neg (by rw [o2]; simp)]
       rw [hq]
       refine CallI.fn (inRange_s (a)) (by simp only [sx3, encs, sxR, sevalprocAttr] <;> (try simp) <;> (try rfl)) ?_
       simp only [↓sx0, sxE, encs, sevalprocAttr]
       refine BrW.of (fun r1 => ?_) (fun r1 => ?_)
       ·simp only [↓sx0, sxE, encs, sevalprocAttr]
        refine CallI.fn (inRange_s (b)) (by simp only [sx3, encs, sxR, sevalprocAttr] <;> (try simp) <;> (try rfl)) ?_
        simp only [↓sx0, sxE, encs, sevalprocAttr]
        refine BrW.of (fun r2 => ?_) (fun r2 => ?_)
        ·simp only [↓sx0, sxE, encs, sevalprocAttr]
         refine CallI.fn (containsM_s true 52 p0B [b, a] (by simp) (fun x _ => swapped1_s x)) (by simp only [sx3, encs, sxR, sevalprocAttr] <;> (try simp) <;> (try rfl)) ?_
         simp only [↓sx0, sxE, encs, sevalprocAttr]
         refine BrW.of (fun r3 => ?_) (fun r3 => ?_)
         ·simp only [↓sx0, sxE, encs, sevalprocAttr]
          have r3 : p0B (b) = true ∨ p0B (a) = true := by simpa using r3
          rw [show swapF (some (a, b)) = ((mk0, mk0), 3) by simp only [swapF]; rw [if_pos ⟨r1, r2⟩, if_pos r3]]
          refine EndW.fn ?_ ?_ <;> simp only [sx4, encs, kpLL_map, sxR, sevalprocAttr] <;> (try simp) <;> (try omega)
         ·simp only [↓sx0, sxE, encs, sevalprocAttr]
          have r3 : ¬ (p0B (b) = true ∨ p0B (a) = true) := by simpa using r3
          rw [show swapF (some (a, b)) = ((b, a), 0) by simp only [swapF]; rw [if_pos ⟨r1, r2⟩, if_neg r3]]
          refine EndW.fn ?_ ?_ <;> simp only [sx4, encs, kpLL_map, sxR, sevalprocAttr] <;> (try simp) <;> (try omega)
        ·simp only [↓sx0, sxE, encs, sevalprocAttr]
         rw [show swapF (some (a, b)) = ((mk0, mk0), 2) by simp only [swapF]; rw [if_neg (by rw [r2]; simp)]]
         refine EndW.fn ?_ ?_ <;> simp only [sx4, encs, kpLL_map, sxR, sevalprocAttr] <;> (try simp) <;> (try omega)
       ·simp only [↓sx0, sxE, encs, sevalprocAttr]
        rw [show swapF (some (a, b)) = ((mk0, mk0), 2) by simp only [swapF]; rw [if_neg (by rw [r1]; simp)]]
        refine EndW.fn ?_ ?_ <;> simp only [sx4, encs, kpLL_map, sxR, sevalprocAttr] <;> (try simp) <;> (try omega)
     ·simp only [↓sx0, sxE, encs, sevalprocAttr]
      refine BrW.no (by omega) ?_
      simp only [↓sx0, sxE, encs, sevalprocAttr]
      refine CallI.fn (ofWords_s b) (by simp only [sx3, encs, sxR, sevalprocAttr] <;> (try simp) <;> (try rfl)) ?_
      simp only [↓sx0, sxE, encs, sevalprocAttr]
      refine BrW.of (fun o2 => ?_) (fun o2 => ?_)
      ·simp only [↓sx0, sxE, encs, sevalprocAttr]
       repeat ((with_reducible refine Vc.go ?_ fun _ => ?_); (focus (first | omega | (simp only [InK]; omega) | (simp [InK]; done) | (simp [InK]; omega))); simp only [↓sx0, sxE, encs, sevalprocAttr])
       refine DrawW.plan Tok mixed (.q 0 <| .q 1 <| .q 2 <| .q 3 <| .q 4 <| .q 5 <| .q 6 <| .q 7 <| .q 8 <| .q 9 <| .e 10 [] <| .done) (by kernel_rfl) (by kernel_rfl) ?_
       simp only [↓sx0, sxE, encs, sevalprocAttr]
       repeat ((with_reducible refine Vc.go ?_ fun _ => ?_); (focus (first | omega | (simp only [InK]; omega) | (simp [InK]; done) | (simp [InK]; omega))); simp only [↓sx0, sxE, encs, sevalprocAttr])
       have hq : brokenP a b = some (a, { b with part := b.part - 1, word := b.word + a.word }) := by rw [brokenP, if_neg (by omega), if_neg (by omega), if_neg (by rw [o1]; simp), if_neg (by omega), if_pos o2]
       rw [hq]
       refine CallI.fn (inRange_s (a)) (by simp only [sx3, encs, sxR, sevalprocAttr] <;> (try simp) <;> (try rfl)) ?_
       simp only [↓sx0, sxE, encs, sevalprocAttr]
       refine BrW.of (fun r1 => ?_) (fun r1 => ?_)
       ·simp only [↓sx0, sxE, encs, sevalprocAttr]
        refine CallI.fn (inRange_s ({ b with part := b.part - 1, word := b.word + a.word })) (by simp only [sx3, encs, sxR, sevalprocAttr] <;> (try simp) <;> (try rfl)) ?_
        simp only [↓sx0, sxE, encs, sevalprocAttr]
        refine BrW.of (fun r2 => ?_) (fun r2 => ?_)
        ·simp only [↓sx0, sxE, encs, sevalprocAttr]
         refine CallI.fn (containsM_s true 52 p0B [{ b with part := b.part - 1, word := b.word + a.word }, a] (by simp) (fun x _ => swapped1_s x)) (by simp only [sx3, encs, sxR, sevalprocAttr] <;> (try simp) <;> (try rfl)) ?_
         simp only [↓sx0, sxE, encs, sevalprocAttr]
         refine BrW.of (fun r3 => ?_) (fun r3 => ?_)
         ·simp only [↓sx0, sxE, encs, sevalprocAttr]
          have r3 : p0B ({ b with part := b.part - 1, word := b.word + a.word }) = true ∨ p0B (a) = true := by simpa using r3
          rw [show swapF (some (a, { b with part := b.part - 1, word := b.word + a.word })) = ((mk0, mk0), 3) by simp only [swapF]; rw [if_pos ⟨r1, r2⟩, if_pos r3]]
          refine EndW.fn ?_ ?_ <;> simp only [sx4, encs, kpLL_map, sxR, sevalprocAttr] <;> (try simp) <;> (try omega)
         ·simp only [↓sx0, sxE, encs, sevalprocAttr]
          have r3 : ¬ (p0B ({ b with part := b.part - 1, word := b.word + a.word }) = true ∨ p0B (a) = true) := by simpa using r3
          rw [show swapF (some (a, { b with part := b.part - 1, word := b.word + a.word })) = (({ b with part := b.part - 1, word := b.word + a.word }, a), 0) by simp only [swapF]; rw [if_pos ⟨r1, r2⟩, if_neg r3]]
          refine EndW.fn ?_ ?_ <;> simp only [sx4, encs, kpLL_map, sxR, sevalprocAttr] <;> (try simp) <;> (try omega)
        ·simp only [↓sx0, sxE, encs, sevalprocAttr]
         rw [show swapF (some (a, { b with part := b.part - 1, word := b.word + a.word })) = ((mk0, mk0), 2) by simp only [swapF]; rw [if_neg (by rw [r2]; simp)]]
         refine EndW.fn ?_ ?_ <;> simp only [sx4, encs, kpLL_map, sxR, sevalprocAttr] <;> (try simp) <;> (try omega)
       ·simp only [↓sx0, sxE, encs, sevalprocAttr]
        rw [show swapF (some (a, { b with part := b.part - 1, word := b.word + a.word })) = ((mk0, mk0), 2) by simp only [swapF]; rw [if_neg (by rw [r1]; simp)]]
        refine EndW.fn ?_ ?_ <;> simp only [sx4, encs, kpLL_map, sxR, sevalprocAttr] <;> (try simp) <;> (try omega)
      ·simp only [↓sx0, sxE, encs, sevalprocAttr]
       have hq : brokenP a b = none := by rw [brokenP, if_neg (by omega), if_neg (by omega), if_neg (by rw [o1]; simp), if_neg (by omega), if_neg (by rw [o2]; simp)]
       rw [hq, show swapF none = ((mk0, mk0), 13) from rfl]
       simp only [↓sx0, sxE, encs, sevalprocAttr]
       refine EndW.fn ?_ ?_ <;> simp only [sx4, encs, kpLL_map, sxR, sevalprocAttr] <;> (try simp) <;> (try omega) )
end Go.Proofs.YthkkcemefngeiaaGreat
/-
 Chapter 8, walks: two marks in the other order, the first one joins.
-/
namespace Go.Proofs.YthkkcemefngeiaaGreat
open Go Go.Vx
set_option linter.unusedSimpArgs false
set_option linter.unusedVariables false
set_option maxRecDepth 20000
set_option maxHeartbeats 16000000 in
theorem swappedJ_s (a b : Mk) (ha : inR a = true) (hb : inR b = true) (h1 : a.mark = 6) : Ctr Tryz.prog 35 [mV a, mV b] (fun rr => rr = ⟨.tup [prSV (swapF (joinedP a b)).1, (.v (.int .i64 ((swapF (joinedP a b)).2)))], []⟩) := by
 have encs := And.intro encs prE
 obtain ⟨⟨a1, a2⟩, a3, a4⟩ := inR_b ha
 obtain ⟨⟨b1, b2⟩, b3, b4⟩ := inR_b hb
 have la := lenM_b a
 have lb := lenM_b b
 have sb := shM_b b
 have ah := ahM_b a
 have bh := ahM_b b
 refine Ctr.of (rs := [.cell 4 54, .tmp 5]) Tok true Tryz.func35 rfl rfl rfl rfl (by simp [ofDL]) (fun w0 kp => ?_)
 simp only [↓sx0, sxE, encs, sevalprocAttr]
 refine CallI.inlG (rs := [.tmp 2]) Tok (fun h => by first | cases h; done | rfl) Tryz.func50 rfl rfl rfl rfl (by simp) (fun ρ σ μ fr lp => ?_) (by refine ⟨_, ?_, rfl⟩; rfl)
 simp only [↓sx0, sxE, encs, sevalprocAttr]
 refine BrW.no (by omega) ?_
 simp only [↓sx0, sxE, encs, sevalprocAttr]
 refine BrW.yes h1 ?_
 simp only [↓sx0, sxE, encs, sevalprocAttr]
 refine CallI.inlG (rs := [.tmp 2]) Tok (fun h => by first | cases h; done | rfl) Tryz.func68 rfl rfl rfl rfl (by simp) (fun ρ σ μ fr lp => ?_) (by refine ⟨_, ?_, rfl⟩; rfl)
 simp only [↓sx0, sxE, encs, sevalprocAttr]
 refine DrawW.plan Tok mixed (.q 0 <| .q 1 <| .q 2 <| .q 3 <| .q 4 <| .q 5 <| .q 6 <| .q 7 <| .e2 8 [1, 3, 5, 7] (.e 9 [1, 3, 5, 7] <| .e 10 [5, 7] <| .e 11 [] <| .done) 9 [1, 3, 5, 7] (.e 8 [1, 3, 5, 7] <| .e 10 [5, 7] <| .e 11 [] <| .done)) (by kernel_rfl) (by kernel_rfl) ?_
 simp only [↓sx0, sxE, encs, sevalprocAttr]

 refine And.intro ?_ ?_
 all_goals (
  skip
  refine BrW.dec (fun p6 => ?_) (fun p6 => ?_)
  ·simp only [↓sx0, sxE, encs, sevalprocAttr]
   refine CallI.inlG (rs := [.tmp 2]) Tok (fun h => by first | cases h; done | rfl) Tryz.func86 rfl rfl rfl rfl (by simp) (fun ρ σ μ fr lp => ?_) (by refine ⟨_, ?_, rfl⟩; rfl)
   simp only [↓sx0, sxE, encs, sevalprocAttr]
   refine DrawW.plan Tok mixed (.q 0 <| .q 1 <| .q 2 <| .q 3 <| .q 4 <| .q 5 <| .q 6 <| .q 7 <| .q 8 <| .q 9 <| .q 10 <| .q 11 <| .q 12 <| .q 13 <| .q 14 <| .q 15 <| .q 16 <| .q 17 <| .q 18 <| .q 19 <| .done) (by kernel_rfl) (by kernel_rfl) ?_
   simp only [↓sx0, sxE, encs, sevalprocAttr]
   refine BrW.dec (fun p2 => ?_) (fun p2 => ?_)
   ·simp only [↓sx0, sxE, encs, sevalprocAttr]
    repeat ((with_reducible refine Vc.go ?_ fun _ => ?_); (focus (first | omega | (simp only [InK]; omega) | (simp [InK]; done) | (simp [InK]; omega))); simp only [↓sx0, sxE, encs, sevalprocAttr])
    refine BrW.dec (fun p1 => ?_) (fun p1 => ?_)
    ·simp only [↓sx0, sxE, encs, sevalprocAttr]
     have hq : joinedP a b = none := by rw [joinedP, if_pos (by omega), befP, if_pos (by omega), if_pos (by omega)]
     rw [hq, show swapF none = ((mk0, mk0), 13) from rfl]
     simp only [↓sx0, sxE, encs, sevalprocAttr]
     refine EndW.fn ?_ ?_ <;> simp only [sx4, encs, kpLL_map, sxR, sevalprocAttr] <;> (try simp) <;> (try omega)
    ·simp only [↓sx0, sxE, encs, sevalprocAttr]
     refine DrawW.plan Tok mixed (.q 0 <| .q 1 <| .q 2 <| .q 3 <| .q 4 <| .q 5 <| .q 6 <| .q 7 <| .q 8 <| .e 9 [1, 4] <| .q 10 <| .q 11 <| .q 12 <| .e 13 [] <| .done) (by kernel_rfl) (by kernel_rfl) ?_
     simp only [↓sx0, sxE, encs, sevalprocAttr]
     refine CallI.fn (shift_s b) (by simp only [sx3, encs, sxR, sevalprocAttr] <;> (try simp) <;> (try rfl)) ?_
     simp only [↓sx0, sxE, encs, sevalprocAttr]
     repeat ((with_reducible refine Vc.go ?_ fun _ => ?_); (focus (first | omega | (simp only [InK]; omega) | (simp [InK]; done) | (simp [InK]; omega))); simp only [↓sx0, sxE, encs, sevalprocAttr])
     have hq : joinedP a b = some ({ a with part := a.part + shM b }, b) := by rw [joinedP, if_pos (by omega), befP, if_pos (by omega), if_neg (by omega)]
     rw [hq]
     refine CallI.fn (inRange_s ({ a with part := a.part + shM b })) (by simp only [sx3, encs, sxR, sevalprocAttr] <;> (try simp) <;> (try rfl)) ?_
     simp only [↓sx0, sxE, encs, sevalprocAttr]
     refine BrW.of (fun r1 => ?_) (fun r1 => ?_)
     ·simp only [↓sx0, sxE, encs, sevalprocAttr]
      refine CallI.fn (inRange_s (b)) (by simp only [sx3, encs, sxR, sevalprocAttr] <;> (try simp) <;> (try rfl)) ?_
      simp only [↓sx0, sxE, encs, sevalprocAttr]
      refine BrW.of (fun r2 => ?_) (fun r2 => ?_)
      ·simp only [↓sx0, sxE, encs, sevalprocAttr]
       refine CallI.fn (containsM_s true 52 p0B [b, { a with part := a.part + shM b }] (by simp) (fun x _ => swapped1_s x)) (by simp only [sx3, encs, sxR, sevalprocAttr] <;> (try simp) <;> (try rfl)) ?_
       simp only [↓sx0, sxE, encs, sevalprocAttr]
       refine BrW.of (fun r3 => ?_) (fun r3 => ?_)
       ·simp only [↓sx0, sxE, encs, sevalprocAttr]
        have r3 : p0B (b) = true ∨ p0B ({ a with part := a.part + shM b }) = true := by simpa using r3
        rw [show swapF (some ({ a with part := a.part + shM b }, b)) = ((mk0, mk0), 3) by simp only [swapF]; rw [if_pos ⟨r1, r2⟩, if_pos r3]]
        refine EndW.fn ?_ ?_ <;> simp only [sx4, encs, kpLL_map, sxR, sevalprocAttr] <;> (try simp) <;> (try omega)
       ·simp only [↓sx0, sxE, encs, sevalprocAttr]
        have r3 : ¬ (p0B (b) = true ∨ p0B ({ a with part := a.part + shM b }) = true) := by simpa using r3
        rw [show swapF (some ({ a with part := a.part + shM b }, b)) = ((b, { a with part := a.part + shM b }), 0) by simp only [swapF]; rw [if_pos ⟨r1, r2⟩, if_neg r3]]
        refine EndW.fn ?_ ?_ <;> simp only [sx4, encs, kpLL_map, sxR, sevalprocAttr] <;> (try simp) <;> (try omega)
      ·simp only [↓sx0, sxE, encs, sevalprocAttr]
       rw [show swapF (some ({ a with part := a.part + shM b }, b)) = ((mk0, mk0), 2) by simp only [swapF]; rw [if_neg (by rw [r2]; simp)]]
       refine EndW.fn ?_ ?_ <;> simp only [sx4, encs, kpLL_map, sxR, sevalprocAttr] <;> (try simp) <;> (try omega)
     ·simp only [↓sx0, sxE, encs, sevalprocAttr]
      rw [show swapF (some ({ a with part := a.part + shM b }, b)) = ((mk0, mk0), 2) by simp only [swapF]; rw [if_neg (by rw [r1]; simp)]]
      refine EndW.fn ?_ ?_ <;> simp only [sx4, encs, kpLL_map, sxR, sevalprocAttr] <;> (try simp) <;> (try omega)
   ·simp only [↓sx0, sxE, encs, sevalprocAttr]
    refine DrawW.plan Tok mixed (.q 0 <| .q 1 <| .q 2 <| .q 3 <| .q 4 <| .q 5 <| .q 6 <| .q 7 <| .q 8 <| .e 9 [1, 4] <| .q 10 <| .q 11 <| .q 12 <| .e 13 [] <| .done) (by kernel_rfl) (by kernel_rfl) ?_
    simp only [↓sx0, sxE, encs, sevalprocAttr]
    refine CallI.fn (shift_s b) (by simp only [sx3, encs, sxR, sevalprocAttr] <;> (try simp) <;> (try rfl)) ?_
    simp only [↓sx0, sxE, encs, sevalprocAttr]
    repeat ((with_reducible refine Vc.go ?_ fun _ => ?_); (focus (first | omega | (simp only [InK]; omega) | (simp [InK]; done) | (simp [InK]; omega))); simp only [↓sx0, sxE, encs, sevalprocAttr])
    have hq : joinedP a b = some ({ a with part := a.part + shM b }, b) := by rw [joinedP, if_pos (by omega), befP, if_neg (by omega)]
    rw [hq]
    refine CallI.fn (inRange_s ({ a with part := a.part + shM b })) (by simp only [sx3, encs, sxR, sevalprocAttr] <;> (try simp) <;> (try rfl)) ?_
    simp only [↓sx0, sxE, encs, sevalprocAttr]
    refine BrW.of (fun r1 => ?_) (fun r1 => ?_)
    ·simp only [↓sx0, sxE, encs, sevalprocAttr]
     refine CallI.fn (inRange_s (b)) (by simp only [sx3, encs, sxR, sevalprocAttr] <;> (try simp) <;> (try rfl)) ?_
     simp only [↓sx0, sxE, encs, sevalprocAttr]
     refine BrW.of (fun r2 => ?_) (fun r2 => ?_)
     ·simp only [↓sx0, sxE, encs, sevalprocAttr]
      refine CallI.fn (containsM_s true 52 p0B [b, { a with part := a.part + shM b }] (by simp) (fun x _ => swapped1_s x)) (by simp only [sx3, encs, sxR, sevalprocAttr] <;> (try simp) <;> (try rfl)) ?_
      simp only [↓sx0, sxE, encs, sevalprocAttr]
      refine BrW.of (fun r3 => ?_) (fun r3 => ?_)
      ·simp only [↓sx0, sxE, encs, sevalprocAttr]
       have r3 : p0B (b) = true ∨ p0B ({ a with part := a.part + shM b }) = true := by simpa using r3
       rw [show swapF (some ({ a with part := a.part + shM b }, b)) = ((mk0, mk0), 3) by simp only [swapF]; rw [if_pos ⟨r1, r2⟩, if_pos r3]]
       refine EndW.fn ?_ ?_ <;> simp only [sx4, encs, kpLL_map, sxR, sevalprocAttr] <;> (try simp) <;> (try omega)
      ·simp only [↓sx0, sxE, encs, sevalprocAttr]
       have r3 : ¬ (p0B (b) = true ∨ p0B ({ a with part := a.part + shM b }) = true) := by simpa using r3
       rw [show swapF (some ({ a with part := a.part + shM b }, b)) = ((b, { a with part := a.part + shM b }), 0) by simp only [swapF]; rw [if_pos ⟨r1, r2⟩, if_neg r3]]
       refine EndW.fn ?_ ?_ <;> simp only [sx4, encs, kpLL_map, sxR, sevalprocAttr] <;> (try simp) <;> (try omega)
     ·simp only [↓sx0, sxE, encs, sevalprocAttr]
      rw [show swapF (some ({ a with part := a.part + shM b }, b)) = ((mk0, mk0), 2) by simp only [swapF]; rw [if_neg (by rw [r2]; simp)]]
      refine EndW.fn ?_ ?_ <;> simp only [sx4, encs, kpLL_map, sxR, sevalprocAttr] <;> (try simp) <;> (try omega)
    ·simp only [↓sx0, sxE, encs, sevalprocAttr]
     rw [show swapF (some ({ a with part := a.part + shM b }, b)) = ((mk0, mk0), 2) by simp only [swapF]; rw [if_neg (by rw [r1]; simp)]]
     refine EndW.fn ?_ ?_ <;> simp only [sx4, encs, kpLL_map, sxR, sevalprocAttr] <;> (try simp) <;> (try omega)
  ·simp only [↓sx0, sxE, encs, sevalprocAttr]
   refine BrW.dec (fun p5 => ?_) (fun p5 => ?_)
   ·simp only [↓sx0, sxE, encs, sevalprocAttr]
    repeat ((with_reducible refine Vc.go ?_ fun _ => ?_); (focus (first | omega | (simp only [InK]; omega) | (simp [InK]; done) | (simp [InK]; omega))); simp only [↓sx0, sxE, encs, sevalprocAttr])
    have hq : joinedP a b = some (a, { b with part := b.part + 1 }) := by rw [joinedP, if_neg (by omega), if_pos (by omega)]
    rw [hq]
    refine CallI.fn (inRange_s (a)) (by simp only [sx3, encs, sxR, sevalprocAttr] <;> (try simp) <;> (try rfl)) ?_
    simp only [↓sx0, sxE, encs, sevalprocAttr]
    refine BrW.of (fun r1 => ?_) (fun r1 => ?_)
    ·simp only [↓sx0, sxE, encs, sevalprocAttr]
     refine CallI.fn (inRange_s ({ b with part := b.part + 1 })) (by simp only [sx3, encs, sxR, sevalprocAttr] <;> (try simp) <;> (try rfl)) ?_
     simp only [↓sx0, sxE, encs, sevalprocAttr]
     refine BrW.of (fun r2 => ?_) (fun r2 => ?_)
     ·simp only [↓sx0, sxE, encs, sevalprocAttr]
      refine CallI.fn (containsM_s true 52 p0B [{ b with part := b.part + 1 }, a] (by simp) (fun x _ => swapped1_s x)) (by simp only [sx3, encs, sxR, sevalprocAttr] <;> (try simp) <;> (try rfl)) ?_
      simp only [↓sx0, sxE, encs, sevalprocAttr]
      refine BrW.of (fun r3 => ?_) (fun r3 => ?_)
      ·simp only [↓sx0, sxE, encs, sevalprocAttr]
       have r3 : p0B ({ b with part := b.part + 1 }) = true ∨ p0B (a) = true := by simpa using r3
       rw [show swapF (some (a, { b with part := b.part + 1 })) = ((mk0, mk0), 3) by simp only [swapF]; rw [if_pos ⟨r1, r2⟩, if_pos r3]]
       refine EndW.fn ?_ ?_ <;> simp only [sx4, encs, kpLL_map, sxR, sevalprocAttr] <;> (try simp) <;> (try omega)
      ·simp only [↓sx0, sxE, encs, sevalprocAttr]
       have r3 : ¬ (p0B ({ b with part := b.part + 1 }) = true ∨ p0B (a) = true) := by simpa using r3
       rw [show swapF (some (a, { b with part := b.part + 1 })) = (({ b with part := b.part + 1 }, a), 0) by simp only [swapF]; rw [if_pos ⟨r1, r2⟩, if_neg r3]]
       refine EndW.fn ?_ ?_ <;> simp only [sx4, encs, kpLL_map, sxR, sevalprocAttr] <;> (try simp) <;> (try omega)
     ·simp only [↓sx0, sxE, encs, sevalprocAttr]
      rw [show swapF (some (a, { b with part := b.part + 1 })) = ((mk0, mk0), 2) by simp only [swapF]; rw [if_neg (by rw [r2]; simp)]]
      refine EndW.fn ?_ ?_ <;> simp only [sx4, encs, kpLL_map, sxR, sevalprocAttr] <;> (try simp) <;> (try omega)
    ·simp only [↓sx0, sxE, encs, sevalprocAttr]
     rw [show swapF (some (a, { b with part := b.part + 1 })) = ((mk0, mk0), 2) by simp only [swapF]; rw [if_neg (by rw [r1]; simp)]]
     refine EndW.fn ?_ ?_ <;> simp only [sx4, encs, kpLL_map, sxR, sevalprocAttr] <;> (try simp) <;> (try omega)
   ·simp only [↓sx0, sxE, encs, sevalprocAttr]
    refine CallI.fn (parts_s b) (by simp only [sx3, encs, sxR, sevalprocAttr] <;> (try simp) <;> (try rfl)) ?_
    simp only [↓sx0, sxE, encs, sevalprocAttr]
    refine BrW.of (fun o1 => ?_) (fun o1 => ?_)
    ·simp only [↓sx0, sxE, encs, sevalprocAttr]
     have hq : joinedP a b = none := by rw [joinedP, if_neg (by omega), if_neg (by omega), if_pos o1]
     rw [hq, show swapF none = ((mk0, mk0), 13) from rfl]
     simp only [↓sx0, sxE, encs, sevalprocAttr]
     refine EndW.fn ?_ ?_ <;> simp only [sx4, encs, kpLL_map, sxR, sevalprocAttr] <;> (try simp) <;> (try omega)
    ·simp only [↓sx0, sxE, encs, sevalprocAttr]
     refine CallI.fn (ofWords_s b) (by simp only [sx3, encs, sxR, sevalprocAttr] <;> (try simp) <;> (try rfl)) ?_
     simp only [↓sx0, sxE, encs, sevalprocAttr]
     refine BrW.of (fun o2 => ?_) (fun o2 => ?_)
     ·simp only [↓sx0, sxE, encs, sevalprocAttr]
      refine DrawW.plan Tok mixed (.q 0 <| .q 3 <| .q 4 <| .e 1 [4] <| .q 2 <| .q 5 <| .q 6 <| .done) (by kernel_rfl) (by kernel_rfl) ?_
      simp only [↓sx0, sxE, encs, sevalprocAttr]
      refine CallI.fn (ahead_s b ⟨b3, by omega⟩) (by simp only [sx3, encs, sxR, sevalprocAttr] <;> (try simp) <;> (try rfl)) ?_
      simp only [↓sx0, sxE, encs, sevalprocAttr]
      refine BrW.dec (fun p4 => ?_) (fun p4 => ?_)
      ·simp only [↓sx0, sxE, encs, sevalprocAttr]
       refine DrawW.plan Tok mixed (.q 0 <| .q 1 <| .q 2 <| .q 3 <| .q 4 <| .q 5 <| .e 6 [1, 4] <| .q 7 <| .q 8 <| .q 9 <| .e 10 [] <| .done) (by kernel_rfl) (by kernel_rfl) ?_
       simp only [↓sx0, sxE, encs, sevalprocAttr]
       refine CallI.fn (lengthens_s b) (by simp only [sx3, encs, sxR, sevalprocAttr] <;> (try simp) <;> (try rfl)) ?_
       simp only [↓sx0, sxE, encs, sevalprocAttr]
       repeat ((with_reducible refine Vc.go ?_ fun _ => ?_); (focus (first | omega | (simp only [InK]; omega) | (simp [InK]; done) | (simp [InK]; omega))); simp only [↓sx0, sxE, encs, sevalprocAttr])
       have hq : joinedP a b = some ({ a with word := a.word + lenM b }, b) := by rw [joinedP, if_neg (by omega), if_neg (by omega), if_neg (by rw [o1]; simp), if_pos o2, if_pos (by omega)]
       rw [hq]
       refine CallI.fn (inRange_s ({ a with word := a.word + lenM b })) (by simp only [sx3, encs, sxR, sevalprocAttr] <;> (try simp) <;> (try rfl)) ?_
       simp only [↓sx0, sxE, encs, sevalprocAttr]
       refine BrW.of (fun r1 => ?_) (fun r1 => ?_)
       ·simp only [↓sx0, sxE, encs, sevalprocAttr]
        refine CallI.fn (inRange_s (b)) (by simp only [sx3, encs, sxR, sevalprocAttr] <;> (try simp) <;> (try rfl)) ?_
        simp only [↓sx0, sxE, encs, sevalprocAttr]
        refine BrW.of (fun r2 => ?_) (fun r2 => ?_)
        ·simp only [↓sx0, sxE, encs, sevalprocAttr]
         refine CallI.fn (containsM_s true 52 p0B [b, { a with word := a.word + lenM b }] (by simp) (fun x _ => swapped1_s x)) (by simp only [sx3, encs, sxR, sevalprocAttr] <;> (try simp) <;> (try rfl)) ?_
         simp only [↓sx0, sxE, encs, sevalprocAttr]
         refine BrW.of (fun r3 => ?_) (fun r3 => ?_)
         ·simp only [↓sx0, sxE, encs, sevalprocAttr]
          have r3 : p0B (b) = true ∨ p0B ({ a with word := a.word + lenM b }) = true := by simpa using r3
          rw [show swapF (some ({ a with word := a.word + lenM b }, b)) = ((mk0, mk0), 3) by simp only [swapF]; rw [if_pos ⟨r1, r2⟩, if_pos r3]]
          refine EndW.fn ?_ ?_ <;> simp only [sx4, encs, kpLL_map, sxR, sevalprocAttr] <;> (try simp) <;> (try omega)
         ·simp only [↓sx0, sxE, encs, sevalprocAttr]
          have r3 : ¬ (p0B (b) = true ∨ p0B ({ a with word := a.word + lenM b }) = true) := by simpa using r3
          rw [show swapF (some ({ a with word := a.word + lenM b }, b)) = ((b, { a with word := a.word + lenM b }), 0) by simp only [swapF]; rw [if_pos ⟨r1, r2⟩, if_neg r3]]
          refine EndW.fn ?_ ?_ <;> simp only [sx4, encs, kpLL_map, sxR, sevalprocAttr] <;> (try simp) <;> (try omega)
        ·simp only [↓sx0, sxE, encs, sevalprocAttr]
         rw [show swapF (some ({ a with word := a.word + lenM b }, b)) = ((mk0, mk0), 2) by simp only [swapF]; rw [if_neg (by rw [r2]; simp)]]
         refine EndW.fn ?_ ?_ <;> simp only [sx4, encs, kpLL_map, sxR, sevalprocAttr] <;> (try simp) <;> (try omega)
       ·simp only [↓sx0, sxE, encs, sevalprocAttr]
        rw [show swapF (some ({ a with word := a.word + lenM b }, b)) = ((mk0, mk0), 2) by simp only [swapF]; rw [if_neg (by rw [r1]; simp)]]
        refine EndW.fn ?_ ?_ <;> simp only [sx4, encs, kpLL_map, sxR, sevalprocAttr] <;> (try simp) <;> (try omega)
      ·simp only [↓sx0, sxE, encs, sevalprocAttr]
       refine DrawW.plan Tok mixed (.q 0 <| .q 3 <| .q 4 <| .e 1 [4] <| .q 2 <| .q 5 <| .q 6 <| .done) (by kernel_rfl) (by kernel_rfl) ?_
       simp only [↓sx0, sxE, encs, sevalprocAttr]
       refine CallI.fn (ahead_s b ⟨b3, by omega⟩) (by simp only [sx3, encs, sxR, sevalprocAttr] <;> (try simp) <;> (try rfl)) ?_
       simp only [↓sx0, sxE, encs, sevalprocAttr]
       refine BrW.dec (fun p3 => ?_) (fun p3 => ?_)
       ·simp only [↓sx0, sxE, encs, sevalprocAttr]
        repeat ((with_reducible refine Vc.go ?_ fun _ => ?_); (focus (first | omega | (simp only [InK]; omega) | (simp [InK]; done) | (simp [InK]; omega))); simp only [↓sx0, sxE, encs, sevalprocAttr])
        refine DrawW.plan Tok mixed (.q 0 <| .q 1 <| .q 2 <| .q 3 <| .q 4 <| .q 5 <| .q 6 <| .q 7 <| .q 8 <| .q 9 <| .e 10 [] <| .done) (by kernel_rfl) (by kernel_rfl) ?_
        simp only [↓sx0, sxE, encs, sevalprocAttr]
        repeat ((with_reducible refine Vc.go ?_ fun _ => ?_); (focus (first | omega | (simp only [InK]; omega) | (simp [InK]; done) | (simp [InK]; omega))); simp only [↓sx0, sxE, encs, sevalprocAttr])
        have hq : joinedP a b = some (a, { b with part := b.part + 1, word := b.word - a.word }) := by rw [joinedP, if_neg (by omega), if_neg (by omega), if_neg (by rw [o1]; simp), if_pos o2, if_neg (by omega), if_pos (by omega)]
        rw [hq]
        refine CallI.fn (inRange_s (a)) (by simp only [sx3, encs, sxR, sevalprocAttr] <;> (try simp) <;> (try rfl)) ?_
        simp only [↓sx0, sxE, encs, sevalprocAttr]
        refine BrW.of (fun r1 => ?_) (fun r1 => ?_)
        ·simp only [↓sx0, sxE, encs, sevalprocAttr]
         refine CallI.fn (inRange_s ({ b with part := b.part + 1, word := b.word - a.word })) (by simp only [sx3, encs, sxR, sevalprocAttr] <;> (try simp) <;> (try rfl)) ?_
         simp only [↓sx0, sxE, encs, sevalprocAttr]
         refine BrW.of (fun r2 => ?_) (fun r2 => ?_)
         ·simp only [↓sx0, sxE, encs, sevalprocAttr]
          refine CallI.fn (containsM_s true 52 p0B [{ b with part := b.part + 1, word := b.word - a.word }, a] (by simp) (fun x _ => swapped1_s x)) (by simp only [sx3, encs, sxR, sevalprocAttr] <;> (try simp) <;> (try rfl)) ?_
          simp only [↓sx0, sxE, encs, sevalprocAttr]
          refine BrW.of (fun r3 => ?_) (fun r3 => ?_)
          ·simp only [↓sx0, sxE, encs, sevalprocAttr]
           have r3 : p0B ({ b with part := b.part + 1, word := b.word - a.word }) = true ∨ p0B (a) = true := by simpa using r3
           rw [show swapF (some (a, { b with part := b.part + 1, word := b.word - a.word })) = ((mk0, mk0), 3) by simp only [swapF]; rw [if_pos ⟨r1, r2⟩, if_pos r3]]
           refine EndW.fn ?_ ?_ <;> simp only [sx4, encs, kpLL_map, sxR, sevalprocAttr] <;> (try simp) <;> (try omega)
          ·simp only [↓sx0, sxE, encs, sevalprocAttr]
           have r3 : ¬ (p0B ({ b with part := b.part + 1, word := b.word - a.word }) = true ∨ p0B (a) = true) := by simpa using r3
           rw [show swapF (some (a, { b with part := b.part + 1, word := b.word - a.word })) = (({ b with part := b.part + 1, word := b.word - a.word }, a), 0) by simp only [swapF]; rw [if_pos ⟨r1, r2⟩, if_neg r3]]
           refine EndW.fn ?_ ?_ <;> simp only [sx4, encs, kpLL_map, sxR, sevalprocAttr] <;> (try simp) <;> (try omega)
         ·simp only [↓sx0, sxE, encs, sevalprocAttr]
          rw [show swapF (some (a, { b with part := b.part + 1, word := b.word - a.word })) = ((mk0, mk0), 2) by simp only [swapF]; rw [if_neg (by rw [r2]; simp)]]
          refine EndW.fn ?_ ?_ <;> simp only [sx4, encs, kpLL_map, sxR, sevalprocAttr] <;> (try simp) <;> (try omega)
        ·simp only [↓sx0, sxE, encs, sevalprocAttr]
         rw [show swapF (some (a, { b with part := b.part + 1, word := b.word - a.word })) = ((mk0, mk0), 2) by simp only [swapF]; rw [if_neg (by rw [r1]; simp)]]
         refine EndW.fn ?_ ?_ <;> simp only [sx4, encs, kpLL_map, sxR, sevalprocAttr] <;> (try simp) <;> (try omega)
       ·simp only [↓sx0, sxE, encs, sevalprocAttr]
        have hq : joinedP a b = none := by rw [joinedP, if_neg (by omega), if_neg (by omega), if_neg (by rw [o1]; simp), if_pos o2, if_neg (by omega), if_neg (by omega)]
        rw [hq, show swapF none = ((mk0, mk0), 13) from rfl]
        simp only [↓sx0, sxE, encs, sevalprocAttr]
        refine EndW.fn ?_ ?_ <;> simp only [sx4, encs, kpLL_map, sxR, sevalprocAttr] <;> (try simp) <;> (try omega)
     ·simp only [↓sx0, sxE, encs, sevalprocAttr]
      have hq : joinedP a b = some (a, b) := by rw [joinedP, if_neg (by omega), if_neg (by omega), if_neg (by rw [o1]; simp), if_neg (by rw [o2]; simp)]
      rw [hq]
      refine CallI.fn (inRange_s (a)) (by simp only [sx3, encs, sxR, sevalprocAttr] <;> (try simp) <;> (try rfl)) ?_
      simp only [↓sx0, sxE, encs, sevalprocAttr]
      refine BrW.of (fun r1 => ?_) (fun r1 => ?_)
      ·simp only [↓sx0, sxE, encs, sevalprocAttr]
       refine CallI.fn (inRange_s (b)) (by simp only [sx3, encs, sxR, sevalprocAttr] <;> (try simp) <;> (try rfl)) ?_
       simp only [↓sx0, sxE, encs, sevalprocAttr]
       refine BrW.of (fun r2 => ?_) (fun r2 => ?_)
       ·simp only [↓sx0, sxE, encs, sevalprocAttr]
        refine CallI.fn (containsM_s true 52 p0B [b, a] (by simp) (fun x _ => swapped1_s x)) (by simp only [sx3, encs, sxR, sevalprocAttr] <;> (try simp) <;> (try rfl)) ?_
        simp only [↓sx0, sxE, encs, sevalprocAttr]
        refine BrW.of (fun r3 => ?_) (fun r3 => ?_)
        ·simp only [↓sx0, sxE, encs, sevalprocAttr]
         have r3 : p0B (b) = true ∨ p0B (a) = true := by simpa using r3
         rw [show swapF (some (a, b)) = ((mk0, mk0), 3) by simp only [swapF]; rw [if_pos ⟨r1, r2⟩, if_pos r3]]
         refine EndW.fn ?_ ?_ <;> simp only [sx4, encs, kpLL_map, sxR, sevalprocAttr] <;> (try simp) <;> (try omega)
        ·simp only [↓sx0, sxE, encs, sevalprocAttr]
         have r3 : ¬ (p0B (b) = true ∨ p0B (a) = true) := by simpa using r3
         rw [show swapF (some (a, b)) = ((b, a), 0) by simp only [swapF]; rw [if_pos ⟨r1, r2⟩, if_neg r3]]
         refine EndW.fn ?_ ?_ <;> simp only [sx4, encs, kpLL_map, sxR, sevalprocAttr] <;> (try simp) <;> (try omega)
       ·simp only [↓sx0, sxE, encs, sevalprocAttr]
        rw [show swapF (some (a, b)) = ((mk0, mk0), 2) by simp only [swapF]; rw [if_neg (by rw [r2]; simp)]]
        refine EndW.fn ?_ ?_ <;> simp only [sx4, encs, kpLL_map, sxR, sevalprocAttr] <;> (try simp) <;> (try omega)
      ·simp only [↓sx0, sxE, encs, sevalprocAttr]
       rw [show swapF (some (a, b)) = ((mk0, mk0), 2) by simp only [swapF]; rw [if_neg (by rw [r1]; simp)]]
       refine EndW.fn ?_ ?_ <;> simp only [sx4, encs, kpLL_map, sxR, sevalprocAttr] <;> (try simp) <;> (try omega) )
end Go.Proofs.YthkkcemefngeiaaGreat
/-
 Chapter 8, walks: two marks in the other order, the second one breaks.
-/
namespace Go.Proofs.YthkkcemefngeiaaGreat
open Go Go.Vx
set_option linter.unusedSimpArgs false
set_option linter.unusedVariables false
set_option maxRecDepth 20000
set_option maxHeartbeats 16000000 in
theorem swappedK_s (a b : Mk) (ha : inR a = true) (hb : inR b = true) (h1 : a.mark ≠ 5) (h2 : a.mark ≠ 6) (h3 : b.mark = 5) : Ctr Tryz.prog 35 [mV a, mV b] (fun rr => rr = ⟨.tup [prSV (swapF (breaksP a b)).1, (.v (.int .i64 ((swapF (breaksP a b)).2)))], []⟩) := by
 have encs := And.intro encs prE
 obtain ⟨⟨a1, a2⟩, a3, a4⟩ := inR_b ha
 obtain ⟨⟨b1, b2⟩, b3, b4⟩ := inR_b hb
 have la := lenM_b a
 have lb := lenM_b b
 have sb := shM_b b
 have ah := ahM_b a
 have bh := ahM_b b
 refine Ctr.of (rs := [.cell 4 54, .tmp 5]) Tok true Tryz.func35 rfl rfl rfl rfl (by simp [ofDL]) (fun w0 kp => ?_)
 simp only [↓sx0, sxE, encs, sevalprocAttr]
 refine CallI.inlG (rs := [.tmp 2]) Tok (fun h => by first | cases h; done | rfl) Tryz.func50 rfl rfl rfl rfl (by simp) (fun ρ σ μ fr lp => ?_) (by refine ⟨_, ?_, rfl⟩; rfl)
 simp only [↓sx0, sxE, encs, sevalprocAttr]
 refine BrW.no h1 ?_
 simp only [↓sx0, sxE, encs, sevalprocAttr]
 refine BrW.no h2 ?_
 simp only [↓sx0, sxE, encs, sevalprocAttr]
 refine BrW.yes h3 ?_
 simp only [↓sx0, sxE, encs, sevalprocAttr]
 refine CallI.inlG (rs := [.tmp 2]) Tok (fun h => by first | cases h; done | rfl) Tryz.func69 rfl rfl rfl rfl (by simp) (fun ρ σ μ fr lp => ?_) (by refine ⟨_, ?_, rfl⟩; rfl)
 simp only [↓sx0, sxE, encs, sevalprocAttr]
 refine DrawW.plan Tok mixed (.q 0 <| .q 1 <| .q 2 <| .q 3 <| .q 4 <| .q 5 <| .q 6 <| .q 7 <| .e2 8 [1, 3, 5, 7] (.e 9 [1, 3, 5, 7] <| .e 10 [5, 7] <| .e 11 [] <| .done) 9 [1, 3, 5, 7] (.e 8 [1, 3, 5, 7] <| .e 10 [5, 7] <| .e 11 [] <| .done)) (by kernel_rfl) (by kernel_rfl) ?_
 simp only [↓sx0, sxE, encs, sevalprocAttr]

 refine And.intro ?_ ?_
 all_goals (
  skip
  refine BrW.dec (fun p4 => ?_) (fun p4 => ?_)
  ·simp only [↓sx0, sxE, encs, sevalprocAttr]
   have hq : breaksP a b = some (a, b) := by rw [breaksP, if_pos (by omega)]
   rw [hq]
   refine CallI.fn (inRange_s (a)) (by simp only [sx3, encs, sxR, sevalprocAttr] <;> (try simp) <;> (try rfl)) ?_
   simp only [↓sx0, sxE, encs, sevalprocAttr]
   refine BrW.of (fun r1 => ?_) (fun r1 => ?_)
   ·simp only [↓sx0, sxE, encs, sevalprocAttr]
    refine CallI.fn (inRange_s (b)) (by simp only [sx3, encs, sxR, sevalprocAttr] <;> (try simp) <;> (try rfl)) ?_
    simp only [↓sx0, sxE, encs, sevalprocAttr]
    refine BrW.of (fun r2 => ?_) (fun r2 => ?_)
    ·simp only [↓sx0, sxE, encs, sevalprocAttr]
     refine CallI.fn (containsM_s true 52 p0B [b, a] (by simp) (fun x _ => swapped1_s x)) (by simp only [sx3, encs, sxR, sevalprocAttr] <;> (try simp) <;> (try rfl)) ?_
     simp only [↓sx0, sxE, encs, sevalprocAttr]
     refine BrW.of (fun r3 => ?_) (fun r3 => ?_)
     ·simp only [↓sx0, sxE, encs, sevalprocAttr]
      have r3 : p0B (b) = true ∨ p0B (a) = true := by simpa using r3
      rw [show swapF (some (a, b)) = ((mk0, mk0), 3) by simp only [swapF]; rw [if_pos ⟨r1, r2⟩, if_pos r3]]
      refine EndW.fn ?_ ?_ <;> simp only [sx4, encs, kpLL_map, sxR, sevalprocAttr] <;> (try simp) <;> (try omega)
     ·simp only [↓sx0, sxE, encs, sevalprocAttr]
      have r3 : ¬ (p0B (b) = true ∨ p0B (a) = true) := by simpa using r3
      rw [show swapF (some (a, b)) = ((b, a), 0) by simp only [swapF]; rw [if_pos ⟨r1, r2⟩, if_neg r3]]
      refine EndW.fn ?_ ?_ <;> simp only [sx4, encs, kpLL_map, sxR, sevalprocAttr] <;> (try simp) <;> (try omega)
    ·simp only [↓sx0, sxE, encs, sevalprocAttr]
     rw [show swapF (some (a, b)) = ((mk0, mk0), 2) by simp only [swapF]; rw [if_neg (by rw [r2]; simp)]]
     refine EndW.fn ?_ ?_ <;> simp only [sx4, encs, kpLL_map, sxR, sevalprocAttr] <;> (try simp) <;> (try omega)
   ·simp only [↓sx0, sxE, encs, sevalprocAttr]
    rw [show swapF (some (a, b)) = ((mk0, mk0), 2) by simp only [swapF]; rw [if_neg (by rw [r1]; simp)]]
    refine EndW.fn ?_ ?_ <;> simp only [sx4, encs, kpLL_map, sxR, sevalprocAttr] <;> (try simp) <;> (try omega)
  ·simp only [↓sx0, sxE, encs, sevalprocAttr]
   refine BrW.dec (fun p3 => ?_) (fun p3 => ?_)
   ·simp only [↓sx0, sxE, encs, sevalprocAttr]
    repeat ((with_reducible refine Vc.go ?_ fun _ => ?_); (focus (first | omega | (simp only [InK]; omega) | (simp [InK]; done) | (simp [InK]; omega))); simp only [↓sx0, sxE, encs, sevalprocAttr])
    have hq : breaksP a b = some ({ a with part := a.part + 1 }, b) := by rw [breaksP, if_neg (by omega), if_pos (by omega)]
    rw [hq]
    refine CallI.fn (inRange_s ({ a with part := a.part + 1 })) (by simp only [sx3, encs, sxR, sevalprocAttr] <;> (try simp) <;> (try rfl)) ?_
    simp only [↓sx0, sxE, encs, sevalprocAttr]
    refine BrW.of (fun r1 => ?_) (fun r1 => ?_)
    ·simp only [↓sx0, sxE, encs, sevalprocAttr]
     refine CallI.fn (inRange_s (b)) (by simp only [sx3, encs, sxR, sevalprocAttr] <;> (try simp) <;> (try rfl)) ?_
     simp only [↓sx0, sxE, encs, sevalprocAttr]
     refine BrW.of (fun r2 => ?_) (fun r2 => ?_)
     ·simp only [↓sx0, sxE, encs, sevalprocAttr]
      refine CallI.fn (containsM_s true 52 p0B [b, { a with part := a.part + 1 }] (by simp) (fun x _ => swapped1_s x)) (by simp only [sx3, encs, sxR, sevalprocAttr] <;> (try simp) <;> (try rfl)) ?_
      simp only [↓sx0, sxE, encs, sevalprocAttr]
      refine BrW.of (fun r3 => ?_) (fun r3 => ?_)
      ·simp only [↓sx0, sxE, encs, sevalprocAttr]
       have r3 : p0B (b) = true ∨ p0B ({ a with part := a.part + 1 }) = true := by simpa using r3
       rw [show swapF (some ({ a with part := a.part + 1 }, b)) = ((mk0, mk0), 3) by simp only [swapF]; rw [if_pos ⟨r1, r2⟩, if_pos r3]]
       refine EndW.fn ?_ ?_ <;> simp only [sx4, encs, kpLL_map, sxR, sevalprocAttr] <;> (try simp) <;> (try omega)
      ·simp only [↓sx0, sxE, encs, sevalprocAttr]
       have r3 : ¬ (p0B (b) = true ∨ p0B ({ a with part := a.part + 1 }) = true) := by simpa using r3
       rw [show swapF (some ({ a with part := a.part + 1 }, b)) = ((b, { a with part := a.part + 1 }), 0) by simp only [swapF]; rw [if_pos ⟨r1, r2⟩, if_neg r3]]
       refine EndW.fn ?_ ?_ <;> simp only [sx4, encs, kpLL_map, sxR, sevalprocAttr] <;> (try simp) <;> (try omega)
     ·simp only [↓sx0, sxE, encs, sevalprocAttr]
      rw [show swapF (some ({ a with part := a.part + 1 }, b)) = ((mk0, mk0), 2) by simp only [swapF]; rw [if_neg (by rw [r2]; simp)]]
      refine EndW.fn ?_ ?_ <;> simp only [sx4, encs, kpLL_map, sxR, sevalprocAttr] <;> (try simp) <;> (try omega)
    ·simp only [↓sx0, sxE, encs, sevalprocAttr]
     rw [show swapF (some ({ a with part := a.part + 1 }, b)) = ((mk0, mk0), 2) by simp only [swapF]; rw [if_neg (by rw [r1]; simp)]]
     refine EndW.fn ?_ ?_ <;> simp only [sx4, encs, kpLL_map, sxR, sevalprocAttr] <;> (try simp) <;> (try omega)
   ·simp only [↓sx0, sxE, encs, sevalprocAttr]
    refine CallI.fn (ofWords_s a) (by simp only [sx3, encs, sxR, sevalprocAttr] <;> (try simp) <;> (try rfl)) ?_
    simp only [↓sx0, sxE, encs, sevalprocAttr]
    refine BrW.of (fun o1 => ?_) (fun o1 => ?_)
    ·simp only [↓sx0, sxE, encs, sevalprocAttr]
     refine BrW.dec (fun p2 => ?_) (fun p2 => ?_)
     ·simp only [↓sx0, sxE, encs, sevalprocAttr]
      repeat ((with_reducible refine Vc.go ?_ fun _ => ?_); (focus (first | omega | (simp only [InK]; omega) | (simp [InK]; done) | (simp [InK]; omega))); simp only [↓sx0, sxE, encs, sevalprocAttr])
      refine DrawW.plan Tok mixed (.q 0 <| .q 1 <| .q 2 <| .q 3 <| .q 4 <| .q 5 <| .q 6 <| .q 7 <| .q 8 <| .q 9 <| .e 10 [] <| .done) (by kernel_rfl) (by kernel_rfl) ?_
      simp only [↓sx0, sxE, encs, sevalprocAttr]
      repeat ((with_reducible refine Vc.go ?_ fun _ => ?_); (focus (first | omega | (simp only [InK]; omega) | (simp [InK]; done) | (simp [InK]; omega))); simp only [↓sx0, sxE, encs, sevalprocAttr])
      have hq : breaksP a b = some ({ a with part := a.part + 1, word := a.word - b.word }, b) := by rw [breaksP, if_neg (by omega), if_neg (by omega), if_pos o1, if_pos (by omega)]
      rw [hq]
      refine CallI.fn (inRange_s ({ a with part := a.part + 1, word := a.word - b.word })) (by simp only [sx3, encs, sxR, sevalprocAttr] <;> (try simp) <;> (try rfl)) ?_
      simp only [↓sx0, sxE, encs, sevalprocAttr]
      refine BrW.of (fun r1 => ?_) (fun r1 => ?_)
      ·simp only [↓sx0, sxE, encs, sevalprocAttr]
       refine CallI.fn (inRange_s (b)) (by simp only [sx3, encs, sxR, sevalprocAttr] <;> (try simp) <;> (try rfl)) ?_
       simp only [↓sx0, sxE, encs, sevalprocAttr]
       refine BrW.of (fun r2 => ?_) (fun r2 => ?_)
       ·simp only [↓sx0, sxE, encs, sevalprocAttr]
        refine CallI.fn (containsM_s true 52 p0B [b, { a with part := a.part + 1, word := a.word - b.word }] (by simp) (fun x _ => swapped1_s x)) (by simp only [sx3, encs, sxR, sevalprocAttr] <;> (try simp) <;> (try rfl)) ?_
        simp only [↓sx0, sxE, encs, sevalprocAttr]
        refine BrW.of (fun r3 => ?_) (fun r3 => ?_)
        ·simp only [↓sx0, sxE, encs, sevalprocAttr]
         have r3 : p0B (b) = true ∨ p0B ({ a with part := a.part + 1, word := a.word - b.word }) = true := by simpa using r3
         rw [show swapF (some ({ a with part := a.part + 1, word := a.word - b.word }, b)) = ((mk0, mk0), 3) by simp only [swapF]; rw [if_pos ⟨r1, r2⟩, if_pos r3]]
         refine EndW.fn ?_ ?_ <;> simp only [sx4, encs, kpLL_map, sxR, sevalprocAttr] <;> (try simp) <;> (try omega)
        ·simp only [↓sx0, sxE, encs, sevalprocAttr]
         have r3 : ¬ (p0B (b) = true ∨ p0B ({ a with part := a.part + 1, word := a.word - b.word }) = true) := by simpa using r3
         rw [show swapF (some ({ a with part := a.part + 1, word := a.word - b.word }, b)) = ((b, { a with part := a.part + 1, word := a.word - b.word }), 0) by simp only [swapF]; rw [if_pos ⟨r1, r2⟩, if_neg r3]]
         refine EndW.fn ?_ ?_ <;> simp only [sx4, encs, kpLL_map, sxR, sevalprocAttr] <;> (try simp) <;> (try omega)
       ·simp only [↓sx0, sxE, encs, sevalprocAttr]
        rw [show swapF (some ({ a with part := a.part + 1, word := a.word - b.word }, b)) = ((mk0, mk0), 2) by simp only [swapF]; rw [if_neg (by rw [r2]; simp)]]
        refine EndW.fn ?_ ?_ <;> simp only [sx4, encs, kpLL_map, sxR, sevalprocAttr] <;> (try simp) <;> (try omega)
      ·simp only [↓sx0, sxE, encs, sevalprocAttr]
       rw [show swapF (some ({ a with part := a.part + 1, word := a.word - b.word }, b)) = ((mk0, mk0), 2) by simp only [swapF]; rw [if_neg (by rw [r1]; simp)]]
       refine EndW.fn ?_ ?_ <;> simp only [sx4, encs, kpLL_map, sxR, sevalprocAttr] <;> (try simp) <;> (try omega)
     ·simp only [↓sx0, sxE, encs, sevalprocAttr]
      refine DrawW.plan Tok mixed (.q 0 <| .q 1 <| .q 2 <| .e 3 [1] <| .q 4 <| .q 5 <| .q 6 <| .done) (by kernel_rfl) (by kernel_rfl) ?_
      simp only [↓sx0, sxE, encs, sevalprocAttr]
      refine CallI.fn (behind_s a ⟨a3, by omega⟩) (by simp only [sx3, encs, sxR, sevalprocAttr] <;> (try simp) <;> (try rfl)) ?_
      simp only [↓sx0, sxE, encs, sevalprocAttr]
      refine BrW.dec (fun p1 => ?_) (fun p1 => ?_)
      ·simp only [↓sx0, sxE, encs, sevalprocAttr]
       refine DrawW.plan Tok mixed (.q 0 <| .q 1 <| .q 2 <| .q 3 <| .q 4 <| .q 5 <| .e 6 [1, 4] <| .q 7 <| .q 8 <| .q 9 <| .e 10 [] <| .done) (by kernel_rfl) (by kernel_rfl) ?_
       simp only [↓sx0, sxE, encs, sevalprocAttr]
       refine CallI.fn (lengthens_s a) (by simp only [sx3, encs, sxR, sevalprocAttr] <;> (try simp) <;> (try rfl)) ?_
       simp only [↓sx0, sxE, encs, sevalprocAttr]
       repeat ((with_reducible refine Vc.go ?_ fun _ => ?_); (focus (first | omega | (simp only [InK]; omega) | (simp [InK]; done) | (simp [InK]; omega))); simp only [↓sx0, sxE, encs, sevalprocAttr])
       have hq : breaksP a b = some (a, { b with word := b.word - lenM a }) := by rw [breaksP, if_neg (by omega), if_neg (by omega), if_pos o1, if_neg (by omega), if_pos (by omega)]
       rw [hq]
       refine CallI.fn (inRange_s (a)) (by simp only [sx3, encs, sxR, sevalprocAttr] <;> (try simp) <;> (try rfl)) ?_
       simp only [↓sx0, sxE, encs, sevalprocAttr]
       refine BrW.of (fun r1 => ?_) (fun r1 => ?_)
       ·simp only [↓sx0, sxE, encs, sevalprocAttr]
        refine CallI.fn (inRange_s ({ b with word := b.word - lenM a })) (by simp only [sx3, encs, sxR, sevalprocAttr] <;> (try simp) <;> (try rfl)) ?_
        simp only [↓sx0, sxE, encs, sevalprocAttr]
        refine BrW.of (fun r2 => ?_) (fun r2 => ?_)
        ·simp only [↓sx0, sxE, encs, sevalprocAttr]
         refine CallI.fn (containsM_s true 52 p0B [{ b with word := b.word - lenM a }, a] (by simp) (fun x _ => swapped1_s x)) (by simp only [sx3, encs, sxR, sevalprocAttr] <;> (try simp) <;> (try rfl)) ?_
         simp only [↓sx0, sxE, encs, sevalprocAttr]
         refine BrW.of (fun r3 => ?_) (fun r3 => ?_)
         ·simp only [↓sx0, sxE, encs, sevalprocAttr]
          have r3 : p0B ({ b with word := b.word - lenM a }) = true ∨ p0B (a) = true := by simpa using r3
          rw [show swapF (some (a, { b with word := b.word - lenM a })) = ((mk0, mk0), 3) by simp only [swapF]; rw [if_pos ⟨r1, r2⟩, if_pos r3]]
          refine EndW.fn ?_ ?_ <;> simp only [sx4, encs, kpLL_map, sxR, sevalprocAttr] <;> (try simp) <;> (try omega)
         ·simp only [↓sx0, sxE, encs, sevalprocAttr]
          have r3 : ¬ (p0B ({ b with word := b.word - lenM a }) = true ∨ p0B (a) = true) := by simpa using r3
          rw [show swapF (some (a, { b with word := b.word - lenM a })) = (({ b with word := b.word - lenM a }, a), 0) by simp only [swapF]; rw [if_pos ⟨r1, r2⟩, if_neg r3]]
          refine EndW.fn ?_ ?_ <;> simp only [sx4, encs, kpLL_map, sxR, sevalprocAttr] <;> (try simp) <;> (try omega)
        ·simp only [↓sx0, sxE, encs, sevalprocAttr]
         rw [show swapF (some (a, { b with word := b.word - lenM a })) = ((mk0, mk0), 2) by simp only [swapF]; rw [if_neg (by rw [r2]; simp)]]
         refine EndW.fn ?_ ?_ <;> simp only [sx4, encs, kpLL_map, sxR, sevalprocAttr] <;> (try simp) <;> (try omega)
       ·simp only [↓sx0, sxE, encs, sevalprocAttr]
        rw [show swapF (some (a, { b with word := b.word - lenM a })) = ((mk0, mk0), 2) by simp only [swapF]; rw [if_neg (by rw [r1]; simp)]]
        refine EndW.fn ?_ ?_ <;> simp only [sx4, encs, kpLL_map, sxR, sevalprocAttr] <;> (try simp) <;> (try omega)
      ·simp only [↓sx0, sxE, encs, sevalprocAttr]
       have hq : breaksP a b = none := by rw [breaksP, if_neg (by omega), if_neg (by omega), if_pos o1, if_neg (by omega), if_neg (by omega)]
       rw [hq, show swapF none = ((mk0, mk0), 13) from rfl]
       simp only [↓sx0, sxE, encs, sevalprocAttr]
       refine EndW.fn ?_ ?_ <;> simp only [sx4, encs, kpLL_map, sxR, sevalprocAttr] <;> (try simp) <;> (try omega)
    ·simp only [↓sx0, sxE, encs, sevalprocAttr]
     have hq : breaksP a b = some (a, b) := by rw [breaksP, if_neg (by omega), if_neg (by omega), if_neg (by rw [o1]; simp)]
     rw [hq]
     refine CallI.fn (inRange_s (a)) (by simp only [sx3, encs, sxR, sevalprocAttr] <;> (try simp) <;> (try rfl)) ?_
     simp only [↓sx0, sxE, encs, sevalprocAttr]
     refine BrW.of (fun r1 => ?_) (fun r1 => ?_)
     ·simp only [↓sx0, sxE, encs, sevalprocAttr]
      refine CallI.fn (inRange_s (b)) (by simp only [sx3, encs, sxR, sevalprocAttr] <;> (try simp) <;> (try rfl)) ?_
      simp only [↓sx0, sxE, encs, sevalprocAttr]
      refine BrW.of (fun r2 => ?_) (fun r2 => ?_)
      ·simp only [↓sx0, sxE, encs, sevalprocAttr]
       refine CallI.fn (containsM_s true 52 p0B [b, a] (by simp) (fun x _ => swapped1_s x)) (by simp only [sx3, encs, sxR, sevalprocAttr] <;> (try simp) <;> (try rfl)) ?_
       simp only [↓sx0, sxE, encs, sevalprocAttr]
       refine BrW.of (fun r3 => ?_) (fun r3 => ?_)
       ·simp only [↓sx0, sxE, encs, sevalprocAttr]
        have r3 : p0B (b) = true ∨ p0B (a) = true := by simpa using r3
        rw [show swapF (some (a, b)) = ((mk0, mk0), 3) by simp only [swapF]; rw [if_pos ⟨r1, r2⟩, if_pos r3]]
        refine EndW.fn ?_ ?_ <;> simp only [sx4, encs, kpLL_map, sxR, sevalprocAttr] <;> (try simp) <;> (try omega)
       ·simp only [↓sx0, sxE, encs, sevalprocAttr]
        have r3 : ¬ (p0B (b) = true ∨ p0B (a) = true) := by simpa using r3
        rw [show swapF (some (a, b)) = ((b, a), 0) by simp only [swapF]; rw [if_pos ⟨r1, r2⟩, if_neg r3]]
        refine EndW.fn ?_ ?_ <;> simp only [sx4, encs, kpLL_map, sxR, sevalprocAttr] <;> (try simp) <;> (try omega)
      ·simp only [↓sx0, sxE, encs, sevalprocAttr]
       rw [show swapF (some (a, b)) = ((mk0, mk0), 2) by simp only [swapF]; rw [if_neg (by rw [r2]; simp)]]
       refine EndW.fn ?_ ?_ <;> simp only [sx4, encs, kpLL_map, sxR, sevalprocAttr] <;> (try simp) <;> (try omega)
     ·simp only [↓sx0, sxE, encs, sevalprocAttr]
      rw [show swapF (some (a, b)) = ((mk0, mk0), 2) by simp only [swapF]; rw [if_neg (by rw [r1]; simp)]]
      refine EndW.fn ?_ ?_ <;> simp only [sx4, encs, kpLL_map, sxR, sevalprocAttr] <;> (try simp) <;> (try omega) )
end Go.Proofs.YthkkcemefngeiaaGreat
/-
 Chapter 8, walks: two marks in the other order, the second one joins.
-/
namespace Go.Proofs.YthkkcemefngeiaaGreat
open Go Go.Vx
set_option linter.unusedSimpArgs false
set_option linter.unusedVariables false
set_option maxRecDepth 20000
set_option maxHeartbeats 16000000 in
theorem swappedL_s (a b : Mk) (ha : inR a = true) (hb : inR b = true) (h1 : a.mark ≠ 5) (h2 : a.mark ≠ 6) (h3 : b.mark = 6) : Ctr Tryz.prog 35 [mV a, mV b] (fun rr => rr = ⟨.tup [prSV (swapF (joinsP a b)).1, (.v (.int .i64 ((swapF (joinsP a b)).2)))], []⟩) := by
 have encs := And.intro encs prE
 obtain ⟨⟨a1, a2⟩, a3, a4⟩ := inR_b ha
 obtain ⟨⟨b1, b2⟩, b3, b4⟩ := inR_b hb
 have la := lenM_b a
 have lb := lenM_b b
 have sb := shM_b b
 have ah := ahM_b a
 have bh := ahM_b b
 refine Ctr.of (rs := [.cell 4 54, .tmp 5]) Tok true Tryz.func35 rfl rfl rfl rfl (by simp [ofDL]) (fun w0 kp => ?_)
 simp only [↓sx0, sxE, encs, sevalprocAttr]
 refine CallI.inlG (rs := [.tmp 2]) Tok (fun h => by first | cases h; done | rfl) Tryz.func50 rfl rfl rfl rfl (by simp) (fun ρ σ μ fr lp => ?_) (by refine ⟨_, ?_, rfl⟩; rfl)
 simp only [↓sx0, sxE, encs, sevalprocAttr]
 refine BrW.no h1 ?_
 simp only [↓sx0, sxE, encs, sevalprocAttr]
 refine BrW.no h2 ?_
 simp only [↓sx0, sxE, encs, sevalprocAttr]
 refine BrW.no (by omega) ?_
 simp only [↓sx0, sxE, encs, sevalprocAttr]
 refine BrW.yes h3 ?_
 simp only [↓sx0, sxE, encs, sevalprocAttr]
 refine CallI.inlG (rs := [.tmp 2]) Tok (fun h => by first | cases h; done | rfl) Tryz.func70 rfl rfl rfl rfl (by simp) (fun ρ σ μ fr lp => ?_) (by refine ⟨_, ?_, rfl⟩; rfl)
 simp only [↓sx0, sxE, encs, sevalprocAttr]
 refine DrawW.plan Tok mixed (.q 0 <| .q 1 <| .q 2 <| .q 3 <| .q 4 <| .q 5 <| .q 6 <| .q 7 <| .e2 8 [1, 3, 5, 7] (.e 9 [1, 3, 5, 7] <| .e 10 [5, 7] <| .e 11 [] <| .done) 9 [1, 3, 5, 7] (.e 8 [1, 3, 5, 7] <| .e 10 [5, 7] <| .e 11 [] <| .done)) (by kernel_rfl) (by kernel_rfl) ?_
 simp only [↓sx0, sxE, encs, sevalprocAttr]

 refine And.intro ?_ ?_
 all_goals (
  skip
  refine BrW.dec (fun p3 => ?_) (fun p3 => ?_)
  ·simp only [↓sx0, sxE, encs, sevalprocAttr]
   have hq : joinsP a b = some (a, b) := by rw [joinsP, if_pos (by omega)]
   rw [hq]
   refine CallI.fn (inRange_s (a)) (by simp only [sx3, encs, sxR, sevalprocAttr] <;> (try simp) <;> (try rfl)) ?_
   simp only [↓sx0, sxE, encs, sevalprocAttr]
   refine BrW.of (fun r1 => ?_) (fun r1 => ?_)
   ·simp only [↓sx0, sxE, encs, sevalprocAttr]
    refine CallI.fn (inRange_s (b)) (by simp only [sx3, encs, sxR, sevalprocAttr] <;> (try simp) <;> (try rfl)) ?_
    simp only [↓sx0, sxE, encs, sevalprocAttr]
    refine BrW.of (fun r2 => ?_) (fun r2 => ?_)
    ·simp only [↓sx0, sxE, encs, sevalprocAttr]
     refine CallI.fn (containsM_s true 52 p0B [b, a] (by simp) (fun x _ => swapped1_s x)) (by simp only [sx3, encs, sxR, sevalprocAttr] <;> (try simp) <;> (try rfl)) ?_
     simp only [↓sx0, sxE, encs, sevalprocAttr]
     refine BrW.of (fun r3 => ?_) (fun r3 => ?_)
     ·simp only [↓sx0, sxE, encs, sevalprocAttr]
      have r3 : p0B (b) = true ∨ p0B (a) = true := by simpa using r3
      rw [show swapF (some (a, b)) = ((mk0, mk0), 3) by simp only [swapF]; rw [if_pos ⟨r1, r2⟩, if_pos r3]]
      refine EndW.fn ?_ ?_ <;> simp only [sx4, encs, kpLL_map, sxR, sevalprocAttr] <;> (try simp) <;> (try omega)
     ·simp only [↓sx0, sxE, encs, sevalprocAttr]
      have r3 : ¬ (p0B (b) = true ∨ p0B (a) = true) := by simpa using r3
      rw [show swapF (some (a, b)) = ((b, a), 0) by simp only [swapF]; rw [if_pos ⟨r1, r2⟩, if_neg r3]]
      refine EndW.fn ?_ ?_ <;> simp only [sx4, encs, kpLL_map, sxR, sevalprocAttr] <;> (try simp) <;> (try omega)
    ·simp only [↓sx0, sxE, encs, sevalprocAttr]
     rw [show swapF (some (a, b)) = ((mk0, mk0), 2) by simp only [swapF]; rw [if_neg (by rw [r2]; simp)]]
     refine EndW.fn ?_ ?_ <;> simp only [sx4, encs, kpLL_map, sxR, sevalprocAttr] <;> (try simp) <;> (try omega)
   ·simp only [↓sx0, sxE, encs, sevalprocAttr]
    rw [show swapF (some (a, b)) = ((mk0, mk0), 2) by simp only [swapF]; rw [if_neg (by rw [r1]; simp)]]
    refine EndW.fn ?_ ?_ <;> simp only [sx4, encs, kpLL_map, sxR, sevalprocAttr] <;> (try simp) <;> (try omega)
  ·simp only [↓sx0, sxE, encs, sevalprocAttr]
   repeat ((with_reducible refine Vc.go ?_ fun _ => ?_); (focus (first | omega | (simp only [InK]; omega) | (simp [InK]; done) | (simp [InK]; omega))); simp only [↓sx0, sxE, encs, sevalprocAttr])
   refine BrW.dec (fun p2 => ?_) (fun p2 => ?_)
   ·simp only [↓sx0, sxE, encs, sevalprocAttr]
    repeat ((with_reducible refine Vc.go ?_ fun _ => ?_); (focus (first | omega | (simp only [InK]; omega) | (simp [InK]; done) | (simp [InK]; omega))); simp only [↓sx0, sxE, encs, sevalprocAttr])
    have hq : joinsP a b = some ({ a with part := a.part - 1 }, b) := by rw [joinsP, if_neg (by omega), if_pos (by omega)]
    rw [hq]
    refine CallI.fn (inRange_s ({ a with part := a.part - 1 })) (by simp only [sx3, encs, sxR, sevalprocAttr] <;> (try simp) <;> (try rfl)) ?_
    simp only [↓sx0, sxE, encs, sevalprocAttr]
    refine BrW.of (fun r1 => ?_) (fun r1 => ?_)
    ·simp only [↓sx0, sxE, encs, sevalprocAttr]
     refine CallI.fn (inRange_s (b)) (by simp only [sx3, encs, sxR, sevalprocAttr] <;> (try simp) <;> (try rfl)) ?_
     simp only [↓sx0, sxE, encs, sevalprocAttr]
     refine BrW.of (fun r2 => ?_) (fun r2 => ?_)
     ·simp only [↓sx0, sxE, encs, sevalprocAttr]
      refine CallI.fn (containsM_s true 52 p0B [b, { a with part := a.part - 1 }] (by simp) (fun x _ => swapped1_s x)) (by simp only [sx3, encs, sxR, sevalprocAttr] <;> (try simp) <;> (try rfl)) ?_
      simp only [↓sx0, sxE, encs, sevalprocAttr]
      refine BrW.of (fun r3 => ?_) (fun r3 => ?_)
      ·simp only [↓sx0, sxE, encs, sevalprocAttr]
       have r3 : p0B (b) = true ∨ p0B ({ a with part := a.part - 1 }) = true := by simpa using r3
       rw [show swapF (some ({ a with part := a.part - 1 }, b)) = ((mk0, mk0), 3) by simp only [swapF]; rw [if_pos ⟨r1, r2⟩, if_pos r3]]
       refine EndW.fn ?_ ?_ <;> simp only [sx4, encs, kpLL_map, sxR, sevalprocAttr] <;> (try simp) <;> (try omega)
      ·simp only [↓sx0, sxE, encs, sevalprocAttr]
       have r3 : ¬ (p0B (b) = true ∨ p0B ({ a with part := a.part - 1 }) = true) := by simpa using r3
       rw [show swapF (some ({ a with part := a.part - 1 }, b)) = ((b, { a with part := a.part - 1 }), 0) by simp only [swapF]; rw [if_pos ⟨r1, r2⟩, if_neg r3]]
       refine EndW.fn ?_ ?_ <;> simp only [sx4, encs, kpLL_map, sxR, sevalprocAttr] <;> (try simp) <;> (try omega)
     ·simp only [↓sx0, sxE, encs, sevalprocAttr]
      rw [show swapF (some ({ a with part := a.part - 1 }, b)) = ((mk0, mk0), 2) by simp only [swapF]; rw [if_neg (by rw [r2]; simp)]]
      refine EndW.fn ?_ ?_ <;> simp only [sx4, encs, kpLL_map, sxR, sevalprocAttr] <;> (try simp) <;> (try omega)
    ·simp only [↓sx0, sxE, encs, sevalprocAttr]
     rw [show swapF (some ({ a with part := a.part - 1 }, b)) = ((mk0, mk0), 2) by simp only [swapF]; rw [if_neg (by rw [r1]; simp)]]
     refine EndW.fn ?_ ?_ <;> simp only [sx4, encs, kpLL_map, sxR, sevalprocAttr] <;> (try simp) <;> (try omega)
   ·simp only [↓sx0, sxE, encs, sevalprocAttr]
    refine BrW.dec (fun p1 => ?_) (fun p1 => ?_)
    ·simp only [↓sx0, sxE, encs, sevalprocAttr]
     refine CallI.fn (ofWords_s a) (by simp only [sx3, encs, sxR, sevalprocAttr] <;> (try simp) <;> (try rfl)) ?_
     simp only [↓sx0, sxE, encs, sevalprocAttr]
     refine BrW.of (fun o1 => ?_) (fun o1 => ?_)
     ·simp only [↓sx0, sxE, encs, sevalprocAttr]
      refine DrawW.plan Tok mixed (.q 0 <| .q 1 <| .q 2 <| .q 3 <| .q 4 <| .q 5 <| .e 6 [1, 4] <| .q 7 <| .q 8 <| .q 9 <| .e 10 [] <| .done) (by kernel_rfl) (by kernel_rfl) ?_
      simp only [↓sx0, sxE, encs, sevalprocAttr]
      refine CallI.fn (lengthens_s a) (by simp only [sx3, encs, sxR, sevalprocAttr] <;> (try simp) <;> (try rfl)) ?_
      simp only [↓sx0, sxE, encs, sevalprocAttr]
      repeat ((with_reducible refine Vc.go ?_ fun _ => ?_); (focus (first | omega | (simp only [InK]; omega) | (simp [InK]; done) | (simp [InK]; omega))); simp only [↓sx0, sxE, encs, sevalprocAttr])
      have hq : joinsP a b = some (a, { b with word := b.word - lenM a }) := by rw [joinsP, if_neg (by omega), if_neg (by omega), if_pos (by omega), if_pos o1]
      rw [hq]
      refine CallI.fn (inRange_s (a)) (by simp only [sx3, encs, sxR, sevalprocAttr] <;> (try simp) <;> (try rfl)) ?_
      simp only [↓sx0, sxE, encs, sevalprocAttr]
      refine BrW.of (fun r1 => ?_) (fun r1 => ?_)
      ·simp only [↓sx0, sxE, encs, sevalprocAttr]
       refine CallI.fn (inRange_s ({ b with word := b.word - lenM a })) (by simp only [sx3, encs, sxR, sevalprocAttr] <;> (try simp) <;> (try rfl)) ?_
       simp only [↓sx0, sxE, encs, sevalprocAttr]
       refine BrW.of (fun r2 => ?_) (fun r2 => ?_)
       ·simp only [↓sx0, sxE, encs, sevalprocAttr]
        refine CallI.fn (containsM_s true 52 p0B [{ b with word := b.word - lenM a }, a] (by simp) (fun x _ => swapped1_s x)) (by simp only [sx3, encs, sxR, sevalprocAttr] <;> (try simp) <;> (try rfl)) ?_
        simp only [↓sx0, sxE, encs, sevalprocAttr]
        refine BrW.of (fun r3 => ?_) (fun r3 => ?_)
        ·simp only [↓sx0, sxE, encs, sevalprocAttr]
         have r3 : p0B ({ b with word := b.word - lenM a }) = true ∨ p0B (a) = true := by simpa using r3
         rw [show swapF (some (a, { b with word := b.word - lenM a })) = ((mk0, mk0), 3) by simp only [swapF]; rw [if_pos ⟨r1, r2⟩, if_pos r3]]
         refine EndW.fn ?_ ?_ <;> simp only [sx4, encs, kpLL_map, sxR, sevalprocAttr] <;> (try simp) <;> (try omega)
        ·simp only [↓sx0, sxE, encs, sevalprocAttr]
         have r3 : ¬ (p0B ({ b with word := b.word - lenM a }) = true ∨ p0B (a) = true) := by simpa using r3
         rw [show swapF (some (a, { b with word := b.word - lenM a })) = (({ b with word := b.word - lenM a }, a), 0) by simp only [swapF]; rw [if_pos ⟨r1, r2⟩, if_neg r3]]
         refine EndW.fn ?_ ?_ <;> simp only [sx4, encs, kpLL_map, sxR, sevalprocAttr] <;> (try simp) <;> (try omega)
       ·simp only [↓sx0, sxE, encs, sevalprocAttr]
        rw [show swapF (some (a, { b with word := b.word - lenM a })) = ((mk0, mk0), 2) by simp only [swapF]; rw [if_neg (by rw [r2]; simp)]]
        refine EndW.fn ?_ ?_ <;> simp only [sx4, encs, kpLL_map, sxR, sevalprocAttr] <;> (try simp) <;> (try omega)
      ·simp only [↓sx0, sxE, encs, sevalprocAttr]
       rw [show swapF (some (a, { b with word := b.word - lenM a })) = ((mk0, mk0), 2) by simp only [swapF]; rw [if_neg (by rw [r1]; simp)]]
       refine EndW.fn ?_ ?_ <;> simp only [sx4, encs, kpLL_map, sxR, sevalprocAttr] <;> (try simp) <;> (try omega)
     ·simp only [↓sx0, sxE, encs, sevalprocAttr]
      refine BrW.yes (by omega) ?_
      simp only [↓sx0, sxE, encs, sevalprocAttr]
      have hq : joinsP a b = some (a, b) := by rw [joinsP, if_neg (by omega), if_neg (by omega), if_pos (by omega), if_neg (by rw [o1]; simp)]
      rw [hq]
      refine CallI.fn (inRange_s (a)) (by simp only [sx3, encs, sxR, sevalprocAttr] <;> (try simp) <;> (try rfl)) ?_
      simp only [↓sx0, sxE, encs, sevalprocAttr]
      refine BrW.of (fun r1 => ?_) (fun r1 => ?_)
      ·simp only [↓sx0, sxE, encs, sevalprocAttr]
       refine CallI.fn (inRange_s (b)) (by simp only [sx3, encs, sxR, sevalprocAttr] <;> (try simp) <;> (try rfl)) ?_
       simp only [↓sx0, sxE, encs, sevalprocAttr]
       refine BrW.of (fun r2 => ?_) (fun r2 => ?_)
       ·simp only [↓sx0, sxE, encs, sevalprocAttr]
        refine CallI.fn (containsM_s true 52 p0B [b, a] (by simp) (fun x _ => swapped1_s x)) (by simp only [sx3, encs, sxR, sevalprocAttr] <;> (try simp) <;> (try rfl)) ?_
        simp only [↓sx0, sxE, encs, sevalprocAttr]
        refine BrW.of (fun r3 => ?_) (fun r3 => ?_)
        ·simp only [↓sx0, sxE, encs, sevalprocAttr]
         have r3 : p0B (b) = true ∨ p0B (a) = true := by simpa using r3
         rw [show swapF (some (a, b)) = ((mk0, mk0), 3) by simp only [swapF]; rw [if_pos ⟨r1, r2⟩, if_pos r3]]
         refine EndW.fn ?_ ?_ <;> simp only [sx4, encs, kpLL_map, sxR, sevalprocAttr] <;> (try simp) <;> (try omega)
        ·simp only [↓sx0, sxE, encs, sevalprocAttr]
         have r3 : ¬ (p0B (b) = true ∨ p0B (a) = true) := by simpa using r3
         rw [show swapF (some (a, b)) = ((b, a), 0) by simp only [swapF]; rw [if_pos ⟨r1, r2⟩, if_neg r3]]
         refine EndW.fn ?_ ?_ <;> simp only [sx4, encs, kpLL_map, sxR, sevalprocAttr] <;> (try simp) <;> (try omega)
       ·simp only [↓sx0, sxE, encs, sevalprocAttr]
        rw [show swapF (some (a, b)) = ((mk0, mk0), 2) by simp only [swapF]; rw [if_neg (by rw [r2]; simp)]]
        refine EndW.fn ?_ ?_ <;> simp only [sx4, encs, kpLL_map, sxR, sevalprocAttr] <;> (try simp) <;> (try omega)
      ·simp only [↓sx0, sxE, encs, sevalprocAttr]
       rw [show swapF (some (a, b)) = ((mk0, mk0), 2) by simp only [swapF]; rw [if_neg (by rw [r1]; simp)]]
       refine EndW.fn ?_ ?_ <;> simp only [sx4, encs, kpLL_map, sxR, sevalprocAttr] <;> (try simp) <;> (try omega)
    ·simp only [↓sx0, sxE, encs, sevalprocAttr]
     refine BrW.no (by omega) ?_
     simp only [↓sx0, sxE, encs, sevalprocAttr]
     refine CallI.fn (ofWords_s a) (by simp only [sx3, encs, sxR, sevalprocAttr] <;> (try simp) <;> (try rfl)) ?_
     simp only [↓sx0, sxE, encs, sevalprocAttr]
     refine BrW.of (fun o1 => ?_) (fun o1 => ?_)
     ·simp only [↓sx0, sxE, encs, sevalprocAttr]
      repeat ((with_reducible refine Vc.go ?_ fun _ => ?_); (focus (first | omega | (simp only [InK]; omega) | (simp [InK]; done) | (simp [InK]; omega))); simp only [↓sx0, sxE, encs, sevalprocAttr])
      refine DrawW.plan Tok mixed (.q 0 <| .q 1 <| .q 2 <| .q 3 <| .q 4 <| .q 5 <| .q 6 <| .q 7 <| .q 8 <| .q 9 <| .e 10 [] <| .done) (by kernel_rfl) (by kernel_rfl) ?_
      simp only [↓sx0, sxE, encs, sevalprocAttr]
      repeat ((with_reducible refine Vc.go ?_ fun _ => ?_); (focus (first | omega | (simp only [InK]; omega) | (simp [InK]; done) | (simp [InK]; omega))); simp only [↓sx0, sxE, encs, sevalprocAttr])
      have hq : joinsP a b = some ({ a with part := a.part - 1, word := a.word + b.word }, b) := by rw [joinsP, if_neg (by omega), if_neg (by omega), if_neg (by omega), if_pos o1]
      rw [hq]
      refine CallI.fn (inRange_s ({ a with part := a.part - 1, word := a.word + b.word })) (by simp only [sx3, encs, sxR, sevalprocAttr] <;> (try simp) <;> (try rfl)) ?_
      simp only [↓sx0, sxE, encs, sevalprocAttr]
      refine BrW.of (fun r1 => ?_) (fun r1 => ?_)
      ·simp only [↓sx0, sxE, encs, sevalprocAttr]
       refine CallI.fn (inRange_s (b)) (by simp only [sx3, encs, sxR, sevalprocAttr] <;> (try simp) <;> (try rfl)) ?_
       simp only [↓sx0, sxE, encs, sevalprocAttr]
       refine BrW.of (fun r2 => ?_) (fun r2 => ?_)
       ·simp only [↓sx0, sxE, encs, sevalprocAttr]
        refine CallI.fn (containsM_s true 52 p0B [b, { a with part := a.part - 1, word := a.word + b.word }] (by simp) (fun x _ => swapped1_s x)) (by simp only [sx3, encs, sxR, sevalprocAttr] <;> (try simp) <;> (try rfl)) ?_
        simp only [↓sx0, sxE, encs, sevalprocAttr]
        refine BrW.of (fun r3 => ?_) (fun r3 => ?_)
        ·simp only [↓sx0, sxE, encs, sevalprocAttr]
         have r3 : p0B (b) = true ∨ p0B ({ a with part := a.part - 1, word := a.word + b.word }) = true := by simpa using r3
         rw [show swapF (some ({ a with part := a.part - 1, word := a.word + b.word }, b)) = ((mk0, mk0), 3) by simp only [swapF]; rw [if_pos ⟨r1, r2⟩, if_pos r3]]
         refine EndW.fn ?_ ?_ <;> simp only [sx4, encs, kpLL_map, sxR, sevalprocAttr] <;> (try simp) <;> (try omega)
        ·simp only [↓sx0, sxE, encs, sevalprocAttr]
         have r3 : ¬ (p0B (b) = true ∨ p0B ({ a with part := a.part - 1, word := a.word + b.word }) = true) := by simpa using r3
         rw [show swapF (some ({ a with part := a.part - 1, word := a.word + b.word }, b)) = ((b, { a with part := a.part - 1, word := a.word + b.word }), 0) by simp only [swapF]; rw [if_pos ⟨r1, r2⟩, if_neg r3]]
         refine EndW.fn ?_ ?_ <;> simp only [sx4, encs, kpLL_map, sxR, sevalprocAttr] <;> (try simp) <;> (try omega)
       ·simp only [↓sx0, sxE, encs, sevalprocAttr]
        rw [show swapF (some ({ a with part := a.part - 1, word := a.word + b.word }, b)) = ((mk0, mk0), 2) by simp only [swapF]; rw [if_neg (by rw [r2]; simp)]]
        refine EndW.fn ?_ ?_ <;> simp only [sx4, encs, kpLL_map, sxR, sevalprocAttr] <;> (try simp) <;> (try omega)
      ·simp only [↓sx0, sxE, encs, sevalprocAttr]
       rw [show swapF (some ({ a with part := a.part - 1, word := a.word + b.word }, b)) = ((mk0, mk0), 2) by simp only [swapF]; rw [if_neg (by rw [r1]; simp)]]
       refine EndW.fn ?_ ?_ <;> simp only [sx4, encs, kpLL_map, sxR, sevalprocAttr] <;> (try simp) <;> (try omega)
     ·simp only [↓sx0, sxE, encs, sevalprocAttr]
      have hq : joinsP a b = none := by rw [joinsP, if_neg (by omega), if_neg (by omega), if_neg (by omega), if_neg (by rw [o1]; simp)]
      rw [hq, show swapF none = ((mk0, mk0), 13) from rfl]
      simp only [↓sx0, sxE, encs, sevalprocAttr]
      refine EndW.fn ?_ ?_ <;> simp only [sx4, encs, kpLL_map, sxR, sevalprocAttr] <;> (try simp) <;> (try omega) )
end Go.Proofs.YthkkcemefngeiaaGreat
