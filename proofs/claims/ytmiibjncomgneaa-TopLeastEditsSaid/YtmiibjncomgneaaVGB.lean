/-
 Chapter 8, walks: marks are right.
-/
import Derived.Test.YtmiibjncomgneaaVGA
namespace Go.Proofs.Ytmiibjncomgneaa
open Go Go.Vx
set_option linter.unusedSimpArgs false
set_option linter.unusedVariables false
set_option maxRecDepth 20000
def inR (m : Mk) : Bool := decide (0 ≤ m.part ∧ m.part ≤ 59) && decide (0 ≤ m.word ∧ m.word ≤ 100)
theorem inRange_s (m : Mk) : Ctr Try.prog 47 [mV m] (fun rr => rr = ⟨(.v (.bool (inR m))), []⟩) := by
 refine Ctr.of (rs := [.tmp 2]) Tok true Try.func47 rfl rfl rfl rfl (by simp [ofDL]) (fun w0 kp => ?_)
 simp only [↓sx0, sxE, encs, sevalprocAttr]
 refine CallI.fn (within_s m.part 0 59) (by simp only [sx3, encs, sxR, sevalprocAttr] <;> (try simp) <;> (try rfl)) ?_
 simp only [↓sx0, sxE, encs, sevalprocAttr]
 refine BrW.of (fun h => ?_) (fun h => ?_)
 ·simp only [↓sx0, sxE, encs, sevalprocAttr]
  refine CallI.fn (within_s m.word 0 100) (by simp only [sx3, encs, sxR, sevalprocAttr] <;> (try simp) <;> (try rfl)) ?_
  simp only [↓sx0, sxE, encs, sevalprocAttr]
  have : inR m = decide (0 ≤ m.word ∧ m.word ≤ 100) := by rw [inR, h, Bool.true_and]
  refine EndW.fn ?_ ?_ <;> simp only [sx4, encs, kpLL_map, sxR, sevalprocAttr] <;> (try simp [this]) <;> (try omega)
 ·simp only [↓sx0, sxE, encs, sevalprocAttr]
  have : inR m = false := by rw [inR, h, Bool.false_and]
  refine EndW.fn ?_ ?_ <;> simp only [sx4, encs, kpLL_map, sxR, sevalprocAttr] <;> (try simp [this]) <;> (try omega)
def ptsB (m : Mk) : Bool := decide (m.mark = 5) || decide (m.mark = 6)
theorem parts_s (m : Mk) : Ctr Try.prog 50 [mV m] (fun rr => rr = ⟨(.v (.bool (ptsB m))), []⟩) := by
 refine Ctr.of (rs := [.tmp 2]) Tok true Try.func50 rfl rfl rfl rfl (by simp [ofDL]) (fun w0 kp => ?_)
 simp only [↓sx0, sxE, encs, sevalprocAttr]
 refine BrW.dec (fun h => ?_) (fun h => ?_)
 ·simp only [↓sx0, sxE, encs, sevalprocAttr]
  have : ptsB m = true := by simp [ptsB, h]
  refine EndW.fn ?_ ?_ <;> simp only [sx4, encs, kpLL_map, sxR, sevalprocAttr] <;> (try simp [this]) <;> (try omega)
 ·simp only [↓sx0, sxE, encs, sevalprocAttr]
  have : ptsB m = decide (m.mark = 6) := by simp [ptsB, h]
  refine EndW.fn ?_ ?_ <;> simp only [sx4, encs, kpLL_map, sxR, sevalprocAttr] <;> (try simp [this]) <;> (try omega)
theorem toldBy_s (m : Mk) : Ctr Try.prog 48 [mV m] (fun rr => rr = ⟨.agg [(.v (.string (m.old))), (.v (.string (m.new))), (.v (.int .i64 m.was)), (.v (.int .i64 m.kind))], []⟩) := by
 refine Ctr.of (rs := [.cell 2 85]) Tok true Try.func48 rfl rfl rfl rfl (by simp [ofDL]) (fun w0 kp => ?_)
 simp only [↓sx0, sxE, encs, sevalprocAttr]
 refine EndW.fn ?_ ?_ <;> simp only [sx4, encs, kpLL_map, sxR, sevalprocAttr] <;> (try simp) <;> (try omega)
def em : ByteArray := ⟨#[]⟩
def wantB (mark : Int) (o n : ByteArray) (w k : Int) : Bool :=
 if mark = 1 then isWd o && decide (n = em ∧ w = 0 ∧ k = 0)
 else if mark = 2 then isWd n && decide (o = em ∧ w = 0 ∧ k = 0)
 else if mark = 3 then (isWd o && isWd n && decide (o ≠ n)) && decide (w = 0 ∧ k = 0)
 else if mark = 5 ∨ mark = 6 then decide (1 ≤ k ∧ k ≤ 3) && decide (o = em ∧ n = em ∧ w = 0)
 else if mark = 7 then (decide (1 ≤ w ∧ w ≤ 3) && decide (1 ≤ k ∧ k ≤ 3) && decide (w ≠ k)) && decide (o = em ∧ n = em)
 else decide (o = em ∧ n = em ∧ w = 0 ∧ k = 0)
set_option maxHeartbeats 4000000 in
theorem fits_s (mark : Int) (o n : ByteArray) (w k : Int) (ho : o.size ≤ 1000000000) (hn : n.size ≤ 1000000000) : Ctr Try.prog 49 [.agg [(.v (.string (o))), (.v (.string (n))), (.v (.int .i64 w)), (.v (.int .i64 k))], (.v (.int .i64 mark))] (fun rr => rr = ⟨(.v (.bool (wantB mark o n w k))), []⟩) := by
 refine Ctr.of (rs := [.tmp 4]) Tok true Try.func49 rfl rfl rfl rfl (by simp [ofDL]) (fun w0 kp => ?_)
 simp only [↓sx0, sxE, encs, sevalprocAttr]
 refine BrW.dec (fun h1 => ?_) (fun h1 => ?_)
 ·have hw : wantB mark o n w k = (isWd o && decide (n = em ∧ w = 0 ∧ k = 0)) := by rw [wantB, if_pos h1]
  rw [hw]
  simp only [↓sx0, sxE, encs, sevalprocAttr]
  refine DrawW.plan Tok mixed (.q 0 <| .q 1 <| .q 2 <| .q 3 <| .q 5 <| .e 4 [1] <| .e 6 [] <| .q 7 <| .done) (by kernel_rfl) (by kernel_rfl) ?_
  simp only [↓sx0, sxE, encs, sevalprocAttr]
  refine CallI.fn (isWord_s o ho) (by simp only [sx3, encs, sxR, sevalprocAttr] <;> (try simp) <;> (try rfl)) ?_
  simp only [↓sx0, sxE, encs, sevalprocAttr]
  refine BrW.of (fun hb => ?_) (fun hb => ?_)
  ·simp only [↓sx0, sxE, encs, sevalprocAttr]
   rw [show (isWd o && decide (n = em ∧ w = 0 ∧ k = 0)) = decide ([Sc.s o, Sc.s n, Sc.i w, Sc.i k] = [Sc.s o, Sc.s ⟨#[]⟩, Sc.i 0, Sc.i 0]) by rw [hb, Bool.eq_iff_iff]; simp [em]; exact decide_eq_true_iff]
   refine EndW.fn ?_ ?_ <;> simp only [sx4, encs, kpLL_map, sxR, sevalprocAttr] <;> (try simp) <;> (try omega)
  ·simp only [↓sx0, sxE, encs, sevalprocAttr]
   rw [hb]
   refine EndW.fn ?_ ?_ <;> simp only [sx4, encs, kpLL_map, sxR, sevalprocAttr] <;> (try simp) <;> (try omega)
 ·simp only [↓sx0, sxE, encs, sevalprocAttr]
  refine BrW.dec (fun h2 => ?_) (fun h2 => ?_)
  ·have hw : wantB mark o n w k = (isWd n && decide (o = em ∧ w = 0 ∧ k = 0)) := by rw [wantB, if_neg h1, if_pos h2]
   rw [hw]
   simp only [↓sx0, sxE, encs, sevalprocAttr]
   refine DrawW.plan Tok mixed (.q 0 <| .q 1 <| .q 2 <| .q 3 <| .q 5 <| .e 4 [1] <| .e 6 [] <| .q 7 <| .done) (by kernel_rfl) (by kernel_rfl) ?_
   simp only [↓sx0, sxE, encs, sevalprocAttr]
   refine CallI.fn (isWord_s n hn) (by simp only [sx3, encs, sxR, sevalprocAttr] <;> (try simp) <;> (try rfl)) ?_
   simp only [↓sx0, sxE, encs, sevalprocAttr]
   refine BrW.of (fun hb => ?_) (fun hb => ?_)
   ·simp only [↓sx0, sxE, encs, sevalprocAttr]
    rw [show (isWd n && decide (o = em ∧ w = 0 ∧ k = 0)) = decide ([Sc.s o, Sc.s n, Sc.i w, Sc.i k] = [Sc.s ⟨#[]⟩, Sc.s n, Sc.i 0, Sc.i 0]) by rw [hb, Bool.eq_iff_iff]; simp [em]; exact decide_eq_true_iff]
    refine EndW.fn ?_ ?_ <;> simp only [sx4, encs, kpLL_map, sxR, sevalprocAttr] <;> (try simp) <;> (try omega)
   ·simp only [↓sx0, sxE, encs, sevalprocAttr]
    rw [hb]
    refine EndW.fn ?_ ?_ <;> simp only [sx4, encs, kpLL_map, sxR, sevalprocAttr] <;> (try simp) <;> (try omega)
  ·simp only [↓sx0, sxE, encs, sevalprocAttr]
   refine BrW.dec (fun h3 => ?_) (fun h3 => ?_)
   ·have hw : wantB mark o n w k = ((isWd o && isWd n && decide (o ≠ n)) && decide (w = 0 ∧ k = 0)) := by rw [wantB, if_neg h1, if_neg h2, if_pos h3]
    rw [hw]
    simp only [↓sx0, sxE, encs, sevalprocAttr]
    refine DrawW.plan Tok mixed (.q 0 <| .q 1 <| .q 2 <| .q 3 <| .q 4 <| .q 5 <| .q 19 <| .e 6 [1, 3] <| .q 7 <| .q 8 <| .q 9 <| .e 10 [1, 3] <| .q 11 <| .q 12 <| .q 13 <| .q 14 <| .q 15 <| .q 16 <| .q 17 <| .q 18 <| .e 20 [3, 14, 16] <| .q 21 <| .e 22 [14, 16] <| .q 23 <| .done) (by kernel_rfl) (by kernel_rfl) ?_
    simp only [↓sx0, sxE, encs, sevalprocAttr]
    refine CallI.fn (isWord_s o ho) (by simp only [sx3, encs, sxR, sevalprocAttr] <;> (try simp) <;> (try rfl)) ?_
    simp only [↓sx0, sxE, encs, sevalprocAttr]
    refine BrW.of (fun hb => ?_) (fun hb => ?_)
    ·simp only [↓sx0, sxE, encs, sevalprocAttr]
     repeat ((with_reducible refine BrW.tt hb ?_); simp only [↓sx0, sxE, encs, sevalprocAttr])
     refine CallI.fn (isWord_s n hn) (by simp only [sx3, encs, sxR, sevalprocAttr] <;> (try simp) <;> (try rfl)) ?_
     simp only [↓sx0, sxE, encs, sevalprocAttr]
     refine BrW.of (fun hc => ?_) (fun hc => ?_)
     ·simp only [↓sx0, sxE, encs, sevalprocAttr]
      repeat ((with_reducible refine BrW.tt hc ?_); simp only [↓sx0, sxE, encs, sevalprocAttr])
      refine BrW.dec (fun hd => ?_) (fun hd => ?_)
      ·simp only [↓sx0, sxE, encs, sevalprocAttr]
       rw [show ((isWd o && isWd n && decide (o ≠ n)) && decide (w = 0 ∧ k = 0)) = decide ([Sc.s o, Sc.s n, Sc.i w, Sc.i k] = [Sc.s o, Sc.s n, Sc.i 0, Sc.i 0]) by rw [hb, hc, decide_eq_true hd]; simp]
       refine EndW.fn ?_ ?_ <;> simp only [sx4, encs, kpLL_map, sxR, sevalprocAttr] <;> (try simp) <;> (try omega)
      ·simp only [↓sx0, sxE, encs, sevalprocAttr]
       rw [hb, hc, decide_eq_false hd]
       refine EndW.fn ?_ ?_ <;> simp only [sx4, encs, kpLL_map, sxR, sevalprocAttr] <;> (try simp) <;> (try omega)
     ·simp only [↓sx0, sxE, encs, sevalprocAttr]
      repeat ((with_reducible refine BrW.ff hc ?_); simp only [↓sx0, sxE, encs, sevalprocAttr])
      rw [hb, hc]
      refine EndW.fn ?_ ?_ <;> simp only [sx4, encs, kpLL_map, sxR, sevalprocAttr] <;> (try simp) <;> (try omega)
    ·simp only [↓sx0, sxE, encs, sevalprocAttr]
     repeat ((with_reducible refine BrW.ff hb ?_); simp only [↓sx0, sxE, encs, sevalprocAttr])
     rw [hb]
     refine EndW.fn ?_ ?_ <;> simp only [sx4, encs, kpLL_map, sxR, sevalprocAttr] <;> (try simp) <;> (try omega)
   ·simp only [↓sx0, sxE, encs, sevalprocAttr]
    have bj : mark = 5 ∨ mark = 6 → wantB mark o n w k = (decide (1 ≤ k ∧ k ≤ 3) && decide (o = em ∧ n = em ∧ w = 0)) := fun h => by rw [wantB, if_neg h1, if_neg h2, if_neg h3, if_pos h]
    refine BrW.dec (fun h5 => ?_) (fun h5 => ?_)
    ·rw [bj (.inl h5)]
     simp only [↓sx0, sxE, encs, sevalprocAttr]
     refine BrW.yes h5 ?_
     simp only [↓sx0, sxE, encs, sevalprocAttr]
     refine DrawW.plan Tok mixed (.q 0 <| .q 1 <| .q 2 <| .q 3 <| .q 5 <| .e 4 [1] <| .e 6 [] <| .q 7 <| .done) (by kernel_rfl) (by kernel_rfl) ?_
     simp only [↓sx0, sxE, encs, sevalprocAttr]
     refine CallI.fn (isKind_s k) (by simp only [sx3, encs, sxR, sevalprocAttr] <;> (try simp) <;> (try rfl)) ?_
     simp only [↓sx0, sxE, encs, sevalprocAttr]
     refine BrW.of (fun hb => ?_) (fun hb => ?_)
     ·simp only [↓sx0, sxE, encs, sevalprocAttr]
      rw [show (decide (1 ≤ k ∧ k ≤ 3) && decide (o = em ∧ n = em ∧ w = 0)) = decide ([Sc.s o, Sc.s n, Sc.i w, Sc.i k] = [Sc.s ⟨#[]⟩, Sc.s ⟨#[]⟩, Sc.i 0, Sc.i k]) by rw [hb, Bool.eq_iff_iff]; simp [em]; exact decide_eq_true_iff]
      refine EndW.fn ?_ ?_ <;> simp only [sx4, encs, kpLL_map, sxR, sevalprocAttr] <;> (try simp) <;> (try omega)
     ·simp only [↓sx0, sxE, encs, sevalprocAttr]
      rw [hb]
      refine EndW.fn ?_ ?_ <;> simp only [sx4, encs, kpLL_map, sxR, sevalprocAttr] <;> (try simp) <;> (try omega)
    ·simp only [↓sx0, sxE, encs, sevalprocAttr]
     refine BrW.dec (fun h6 => ?_) (fun h6 => ?_)
     ·rw [bj (.inr h6)]
      simp only [↓sx0, sxE, encs, sevalprocAttr]
      refine DrawW.plan Tok mixed (.q 0 <| .q 1 <| .q 2 <| .q 3 <| .q 5 <| .e 4 [1] <| .e 6 [] <| .q 7 <| .done) (by kernel_rfl) (by kernel_rfl) ?_
      simp only [↓sx0, sxE, encs, sevalprocAttr]
      refine CallI.fn (isKind_s k) (by simp only [sx3, encs, sxR, sevalprocAttr] <;> (try simp) <;> (try rfl)) ?_
      simp only [↓sx0, sxE, encs, sevalprocAttr]
      refine BrW.of (fun hb => ?_) (fun hb => ?_)
      ·simp only [↓sx0, sxE, encs, sevalprocAttr]
       rw [show (decide (1 ≤ k ∧ k ≤ 3) && decide (o = em ∧ n = em ∧ w = 0)) = decide ([Sc.s o, Sc.s n, Sc.i w, Sc.i k] = [Sc.s ⟨#[]⟩, Sc.s ⟨#[]⟩, Sc.i 0, Sc.i k]) by rw [hb, Bool.eq_iff_iff]; simp [em]; exact decide_eq_true_iff]
       refine EndW.fn ?_ ?_ <;> simp only [sx4, encs, kpLL_map, sxR, sevalprocAttr] <;> (try simp) <;> (try omega)
      ·simp only [↓sx0, sxE, encs, sevalprocAttr]
       rw [hb]
       refine EndW.fn ?_ ?_ <;> simp only [sx4, encs, kpLL_map, sxR, sevalprocAttr] <;> (try simp) <;> (try omega)
     ·simp only [↓sx0, sxE, encs, sevalprocAttr]
      have h56 : ¬ (mark = 5 ∨ mark = 6) := fun h => h.elim h5 h6
      refine BrW.dec (fun h7 => ?_) (fun h7 => ?_)
      ·have hw : wantB mark o n w k = ((decide (1 ≤ w ∧ w ≤ 3) && decide (1 ≤ k ∧ k ≤ 3) && decide (w ≠ k)) && decide (o = em ∧ n = em)) := by rw [wantB, if_neg h1, if_neg h2, if_neg h3, if_neg h56, if_pos h7]
       rw [hw]
       simp only [↓sx0, sxE, encs, sevalprocAttr]
       refine DrawW.plan Tok mixed (.q 0 <| .q 1 <| .q 2 <| .q 3 <| .q 4 <| .q 5 <| .q 19 <| .e 6 [1, 3] <| .q 7 <| .q 8 <| .q 9 <| .e 10 [1, 3] <| .q 11 <| .q 12 <| .q 13 <| .q 14 <| .q 15 <| .q 16 <| .q 17 <| .q 18 <| .e 20 [3, 14, 16] <| .q 21 <| .e 22 [14, 16] <| .q 23 <| .done) (by kernel_rfl) (by kernel_rfl) ?_
       simp only [↓sx0, sxE, encs, sevalprocAttr]
       refine CallI.fn (isKind_s w) (by simp only [sx3, encs, sxR, sevalprocAttr] <;> (try simp) <;> (try rfl)) ?_
       simp only [↓sx0, sxE, encs, sevalprocAttr]
       refine BrW.of (fun hb => ?_) (fun hb => ?_)
       ·simp only [↓sx0, sxE, encs, sevalprocAttr]
        repeat ((with_reducible refine BrW.tt hb ?_); simp only [↓sx0, sxE, encs, sevalprocAttr])
        refine CallI.fn (isKind_s k) (by simp only [sx3, encs, sxR, sevalprocAttr] <;> (try simp) <;> (try rfl)) ?_
        simp only [↓sx0, sxE, encs, sevalprocAttr]
        refine BrW.of (fun hc => ?_) (fun hc => ?_)
        ·simp only [↓sx0, sxE, encs, sevalprocAttr]
         repeat ((with_reducible refine BrW.tt hc ?_); simp only [↓sx0, sxE, encs, sevalprocAttr])
         refine BrW.dec (fun hd => ?_) (fun hd => ?_)
         ·simp only [↓sx0, sxE, encs, sevalprocAttr]
          rw [show ((decide (1 ≤ w ∧ w ≤ 3) && decide (1 ≤ k ∧ k ≤ 3) && decide (w ≠ k)) && decide (o = em ∧ n = em)) = decide ([Sc.s o, Sc.s n, Sc.i w, Sc.i k] = [Sc.s ⟨#[]⟩, Sc.s ⟨#[]⟩, Sc.i w, Sc.i k]) by rw [hb, hc, decide_eq_true hd, Bool.eq_iff_iff]; simp [em]; exact decide_eq_true_iff]
          refine EndW.fn ?_ ?_ <;> simp only [sx4, encs, kpLL_map, sxR, sevalprocAttr] <;> (try simp) <;> (try omega)
         ·simp only [↓sx0, sxE, encs, sevalprocAttr]
          rw [hb, hc, decide_eq_false hd]
          refine EndW.fn ?_ ?_ <;> simp only [sx4, encs, kpLL_map, sxR, sevalprocAttr] <;> (try simp) <;> (try omega)
        ·simp only [↓sx0, sxE, encs, sevalprocAttr]
         repeat ((with_reducible refine BrW.ff hc ?_); simp only [↓sx0, sxE, encs, sevalprocAttr])
         rw [hb, hc]
         refine EndW.fn ?_ ?_ <;> simp only [sx4, encs, kpLL_map, sxR, sevalprocAttr] <;> (try simp) <;> (try omega)
       ·simp only [↓sx0, sxE, encs, sevalprocAttr]
        repeat ((with_reducible refine BrW.ff hb ?_); simp only [↓sx0, sxE, encs, sevalprocAttr])
        rw [hb]
        refine EndW.fn ?_ ?_ <;> simp only [sx4, encs, kpLL_map, sxR, sevalprocAttr] <;> (try simp) <;> (try omega)
      ·have hw : wantB mark o n w k = decide ([Sc.s o, Sc.s n, Sc.i w, Sc.i k] = [Sc.s ⟨#[]⟩, Sc.s ⟨#[]⟩, Sc.i 0, Sc.i 0]) := by
        rw [wantB, if_neg h1, if_neg h2, if_neg h3, if_neg h56, if_neg h7, Bool.eq_iff_iff]; simp [em]; exact decide_eq_true_iff
       rw [hw]
       simp only [↓sx0, sxE, encs, sevalprocAttr]
       refine EndW.fn ?_ ?_ <;> simp only [sx4, encs, kpLL_map, sxR, sevalprocAttr] <;> (try simp) <;> (try omega)
/-- the error of a mark. -/
def mkErr (m : Mk) : Int :=
 if 1 ≤ m.mark ∧ m.mark ≤ 7 then (if inR m = true then (if wantB m.mark m.old m.new m.was m.kind = true ∧ ¬ (ptsB m = true ∧ m.word = 0) ∧ ¬ (m.mark = 7 ∧ m.word ≠ 0) then 0 else 3) else 2) else 15
def MkSz (m : Mk) : Prop := m.old.size ≤ 1000000000 ∧ m.new.size ≤ 1000000000
set_option maxHeartbeats 4000000 in
theorem checkMark_s (m : Mk) (hz : MkSz m) : Ctr Try.prog 36 [mV m] (fun rr => rr = ⟨(.v (.int .i64 (mkErr m))), []⟩) := by
 refine Ctr.of (rs := [.tmp 2]) Tok true Try.func36 rfl rfl rfl rfl (by simp [ofDL]) (fun w0 kp => ?_)
 simp only [↓sx0, sxE, encs, sevalprocAttr]
 refine CallI.fn (within_s m.mark 1 7) (by simp only [sx3, encs, sxR, sevalprocAttr] <;> (try simp) <;> (try rfl)) ?_
 simp only [↓sx0, sxE, encs, sevalprocAttr]
 refine BrW.of (fun hk => ?_) (fun hk => ?_)
 ·have hk : 1 ≤ m.mark ∧ m.mark ≤ 7 := by simpa using hk
  simp only [↓sx0, sxE, encs, sevalprocAttr]
  refine CallI.fn (inRange_s m) (by simp only [sx3, encs, sxR, sevalprocAttr] <;> (try simp) <;> (try rfl)) ?_
  simp only [↓sx0, sxE, encs, sevalprocAttr]
  refine BrW.of (fun hr => ?_) (fun hr => ?_)
  ·have he : mkErr m = if wantB m.mark m.old m.new m.was m.kind = true ∧ ¬ (ptsB m = true ∧ m.word = 0) ∧ ¬ (m.mark = 7 ∧ m.word ≠ 0) then 0 else 3 := by rw [mkErr, if_pos hk, if_pos hr]
   rw [he]
   simp only [↓sx0, sxE, encs, sevalprocAttr]
   refine DrawW.plan Tok mixed (.q 0 <| .q 2 <| .q 3 <| .e 1 [3] <| .e 4 [] <| .q 5 <| .q 6 <| .q 7 <| .e 8 [] <| .q 9 <| .q 10 <| .q 11 <| .q 12 <| .q 13 <| .q 14 <| .q 15 <| .q 16 <| .q 17 <| .q 18 <| .q 19 <| .q 20 <| .q 21 <| .q 22 <| .q 23 <| .q 24 <| .q 25 <| .done) (by kernel_rfl) (by kernel_rfl) ?_
   simp only [↓sx0, sxE, encs, sevalprocAttr]
   refine CallI.fn (toldBy_s m) (by simp only [sx3, encs, sxR, sevalprocAttr] <;> (try simp) <;> (try rfl)) ?_
   simp only [↓sx0, sxE, encs, sevalprocAttr]
   refine CallI.fn (fits_s m.mark m.old m.new m.was m.kind hz.1 hz.2) (by simp only [sx3, encs, sxR, sevalprocAttr] <;> (try simp) <;> (try rfl)) ?_
   simp only [↓sx0, sxE, encs, sevalprocAttr]
   refine BrW.of (fun hf => ?_) (fun hf => ?_)
   ·simp only [↓sx0, sxE, encs, sevalprocAttr]
    repeat ((with_reducible refine BrW.tt hf ?_); simp only [↓sx0, sxE, encs, sevalprocAttr])
    refine CallI.fn (parts_s m) (by simp only [sx3, encs, sxR, sevalprocAttr] <;> (try simp) <;> (try rfl)) ?_
    simp only [↓sx0, sxE, encs, sevalprocAttr]
    refine BrW.of (fun hp => ?_) (fun hp => ?_)
    ·simp only [↓sx0, sxE, encs, sevalprocAttr]
     have h7 : ¬ m.mark = 7 := fun h => by rw [ptsB, h] at hp; simp at hp
     repeat ((with_reducible refine BrW.tt hp ?_); simp only [↓sx0, sxE, encs, sevalprocAttr])
     refine BrW.dec (fun hw0 => ?_) (fun hw0 => ?_)
     ·simp only [↓sx0, sxE, encs, sevalprocAttr]
      repeat ((with_reducible refine BrW.yes hw0 ?_); simp only [↓sx0, sxE, encs, sevalprocAttr])
      rw [if_neg fun h => h.2.1 ⟨hp, hw0⟩]
      refine EndW.fn ?_ ?_ <;> simp only [sx4, encs, kpLL_map, sxR, sevalprocAttr] <;> (try simp) <;> (try omega)
     ·simp only [↓sx0, sxE, encs, sevalprocAttr]
      repeat ((with_reducible refine BrW.no hw0 ?_); simp only [↓sx0, sxE, encs, sevalprocAttr])
      repeat ((with_reducible refine BrW.no h7 ?_); simp only [↓sx0, sxE, encs, sevalprocAttr])
      rw [if_pos ⟨hf, fun h => hw0 h.2, fun h => h7 h.1⟩]
      refine EndW.fn ?_ ?_ <;> simp only [sx4, encs, kpLL_map, sxR, sevalprocAttr] <;> (try simp) <;> (try omega)
    ·simp only [↓sx0, sxE, encs, sevalprocAttr]
     repeat ((with_reducible refine BrW.ff hp ?_); simp only [↓sx0, sxE, encs, sevalprocAttr])
     refine BrW.dec (fun h7 => ?_) (fun h7 => ?_)
     ·simp only [↓sx0, sxE, encs, sevalprocAttr]
      repeat ((with_reducible refine BrW.yes h7 ?_); simp only [↓sx0, sxE, encs, sevalprocAttr])
      refine BrW.dec (fun hw0 => ?_) (fun hw0 => ?_)
      ·simp only [↓sx0, sxE, encs, sevalprocAttr]
       rw [if_neg fun h => h.2.2 ⟨h7, hw0⟩]
       refine EndW.fn ?_ ?_ <;> simp only [sx4, encs, kpLL_map, sxR, sevalprocAttr] <;> (try simp) <;> (try omega)
      ·simp only [↓sx0, sxE, encs, sevalprocAttr]
       rw [if_pos ⟨hf, fun h => by rw [hp] at h; simp at h, fun h => hw0 h.2⟩]
       refine EndW.fn ?_ ?_ <;> simp only [sx4, encs, kpLL_map, sxR, sevalprocAttr] <;> (try simp) <;> (try omega)
     ·simp only [↓sx0, sxE, encs, sevalprocAttr]
      repeat ((with_reducible refine BrW.no h7 ?_); simp only [↓sx0, sxE, encs, sevalprocAttr])
      rw [if_pos ⟨hf, fun h => by rw [hp] at h; simp at h, fun h => h7 h.1⟩]
      refine EndW.fn ?_ ?_ <;> simp only [sx4, encs, kpLL_map, sxR, sevalprocAttr] <;> (try simp) <;> (try omega)
   ·simp only [↓sx0, sxE, encs, sevalprocAttr]
    repeat ((with_reducible refine BrW.ff hf ?_); simp only [↓sx0, sxE, encs, sevalprocAttr])
    rw [if_neg (by rw [hf]; simp)]
    refine EndW.fn ?_ ?_ <;> simp only [sx4, encs, kpLL_map, sxR, sevalprocAttr] <;> (try simp) <;> (try omega)
  ·simp only [↓sx0, sxE, encs, sevalprocAttr]
   rw [show mkErr m = 2 by rw [mkErr, if_pos hk, if_neg (by simp [hr])]]
   refine EndW.fn ?_ ?_ <;> simp only [sx4, encs, kpLL_map, sxR, sevalprocAttr] <;> (try simp) <;> (try omega)
 ·have hk : ¬ (1 ≤ m.mark ∧ m.mark ≤ 7) := by simpa using hk
  simp only [↓sx0, sxE, encs, sevalprocAttr]
  rw [show mkErr m = 15 by rw [mkErr, if_neg hk]]
  refine EndW.fn ?_ ?_ <;> simp only [sx4, encs, kpLL_map, sxR, sevalprocAttr] <;> (try simp) <;> (try omega)
end Go.Proofs.Ytmiibjncomgneaa
/-
 Chapter 8, walks: a word that comes in.
-/
namespace Go.Proofs.Ytmiibjncomgneaa
open Go Go.Vx
set_option linter.unusedSimpArgs false
set_option linter.unusedVariables false
set_option maxRecDepth 20000
def insP (p : Pt) (k : Nat) (t : ByteArray) : Pt := ⟨p.kind, p.words.take k ++ t :: p.words.drop k⟩
theorem elsA_get {l : List Pt} {i : Nat} (hi : i < l.length) (u : Value) : (elsA l i u)[i]? = some [.v (.int .i64 l[i].kind), .v u] := by
 unfold elsA
 have hgd : l.getD i ⟨0, []⟩ = l[i] := by simp [List.getD_eq_getElem?_getD, hi]
 rw [hgd, List.getElem?_set_self (by simpa using hi)]
theorem elsA_put {l : List Pt} {i : Nat} (hi : i < l.length) (u : Value) (p : Pt) (hk : p.kind = l[i].kind) : ((elsA l i u).modify i fun x => modE x 1 [.sl true 1 (p.words.map eS)]) = (l.set i p).map (eP true) := by
 apply List.ext_getElem?
 intro k
 rw [List.getElem?_modify]
 by_cases h : i = k
 ·subst h
  rw [elsA_get hi]
  simp [modE, eP, hk, hi]
 ·unfold elsA
  simp [h]
theorem elsA_len (l : List Pt) (i : Nat) (u : Value) : (elsA l i u).length = l.length := by simp [elsA]
theorem mapE : (∀ k v, upE k v [] = [[.v k, .v v]]) ∧ (∀ key val k v l, upE key val ([.v k, .v v] :: l) = if kEq key k = true then [.v key, .v val] :: l else [.v k, .v v] :: upE key val l) ∧ (∀ a b, kEq (.int .i64 a) (.int .i64 b) = decide (a = b)) ∧ (entsOk (some .i64) [] = true) ∧
  (∀ k v l, entsOk (some .i64) ([.v (.int .i64 k), .v v] :: l) = entsOk (some .i64) l) ∧ (∀ key, lkE key [] = none) ∧ (∀ key k v l, lkE key ([.v k, .v v] :: l) = if kEq key k = true then some v else lkE key l) ∧ (∀ z v, lkV false z (some v) = .v v) ∧ (∀ z, lkV false z none = .v z) ∧ (∀ v z : Value, (some v).getD z = v) ∧ (∀ z : Value, (none : Option Value).getD z = z) := by
 refine ⟨fun _ _ => rfl, fun _ _ _ _ _ => rfl, fun a b => ?_, rfl, fun k v l => ?_, fun _ => rfl, fun _ _ _ _ => rfl, fun _ _ => rfl, fun _ => rfl, fun _ _ => rfl, fun _ => rfl⟩
 ·rw [Bool.eq_iff_iff]; simp [kEq]
 ·simp [entsOk, entOk, keyIs]
end Go.Proofs.Ytmiibjncomgneaa
/-
 Chapter 8, walks: what a mark moves.
-/
namespace Go.Proofs.Ytmiibjncomgneaa
open Go Go.Vx
set_option linter.unusedSimpArgs false
set_option linter.unusedVariables false
set_option maxRecDepth 20000
def lenM (m : Mk) : Int := if m.mark = 1 then -1 else if m.mark = 2 then 1 else 0
def shM (m : Mk) : Int := if m.mark = 5 then 1 else if m.mark = 6 then -1 else 0
def ahM (m : Mk) : Int := if m.mark = 1 then 1 else if m.mark = 3 then 1 else if m.mark = 4 then 2 else 0
def owB (m : Mk) : Bool := decide (1 ≤ m.mark ∧ m.mark ≤ 4)
def p0B (m : Mk) : Bool := ptsB m && decide (m.word = 0)
end Go.Proofs.Ytmiibjncomgneaa
/-
 Chapter 8, walks: two marks in the other order, where none breaks or joins.
-/
namespace Go.Proofs.Ytmiibjncomgneaa
open Go Go.Vx
set_option linter.unusedSimpArgs false
set_option linter.unusedVariables false
set_option maxRecDepth 20000
def wordsP (a b : Mk) : Option (Mk × Mk) :=
 if b.word + ahM b ≤ a.word then some ({ a with word := a.word + lenM b }, b)
 else if a.word + ahM a + lenM a ≤ b.word then some (a, { b with word := b.word - lenM a }) else none
def quietP (a b : Mk) : Option (Mk × Mk) :=
 if a.part ≠ b.part then some (a, b) else if owB a = true ∧ owB b = true then wordsP a b else if owB a = true ∨ owB b = true then some (a, b) else none
def mk0 : Mk := ⟨0, 0, 0, ⟨#[]⟩, ⟨#[]⟩, 0, 0⟩
/-- both in the other order, with the error. -/
def swapF (r : Option (Mk × Mk)) : (Mk × Mk) × Int :=
 match r with
 | none => ((mk0, mk0), 13)
 | some (a, b) => if inR a = true ∧ inR b = true then (if p0B b = true ∨ p0B a = true then ((mk0, mk0), 3) else ((b, a), 0)) else ((mk0, mk0), 2)
def prSV (p : Mk × Mk) : SV := .agg [.v (.int .i64 p.1.mark), .v (.int .i64 p.1.part), .v (.int .i64 p.1.word), .v (.string p.1.old), .v (.string p.1.new), .v (.int .i64 p.1.was), .v (.int .i64 p.1.kind), .v (.int .i64 p.2.mark), .v (.int .i64 p.2.part), .v (.int .i64 p.2.word), .v (.string p.2.old), .v (.string p.2.new), .v (.int .i64 p.2.was), .v (.int .i64 p.2.kind)]
theorem prE : (∀ p, prSV p = .agg [.v (.int .i64 p.1.mark), .v (.int .i64 p.1.part), .v (.int .i64 p.1.word), .v (.string p.1.old), .v (.string p.1.new), .v (.int .i64 p.1.was), .v (.int .i64 p.1.kind), .v (.int .i64 p.2.mark), .v (.int .i64 p.2.part), .v (.int .i64 p.2.word), .v (.string p.2.old), .v (.string p.2.new), .v (.int .i64 p.2.was), .v (.int .i64 p.2.kind)]) ∧ mk0 = ⟨0, 0, 0, ⟨#[]⟩, ⟨#[]⟩, 0, 0⟩ := ⟨fun _ => rfl, rfl⟩
theorem inR_b {m : Mk} (h : inR m = true) : (0 ≤ m.part ∧ m.part ≤ 59) ∧ (0 ≤ m.word ∧ m.word ≤ 100) := by
 simpa [inR] using h
end Go.Proofs.Ytmiibjncomgneaa
