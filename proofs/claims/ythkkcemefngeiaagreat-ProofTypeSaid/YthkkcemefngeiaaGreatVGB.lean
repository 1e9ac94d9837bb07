/-
 Chapter 8, walks: marks are right.
-/
import Derived.Test.YthkkcemefngeiaaGreatVGA
namespace Go.Proofs.YthkkcemefngeiaaGreat
open Go Go.Vx
set_option linter.unusedSimpArgs false
set_option linter.unusedVariables false
set_option maxRecDepth 20000
def inR (m : Mk) : Bool := decide (0 ≤ m.part ∧ m.part ≤ 59) && decide (0 ≤ m.word ∧ m.word ≤ 100)
theorem inRange_s (m : Mk) : Ctr Tryz.prog 44 [mV m] (fun rr => rr = ⟨(.v (.bool (inR m))), []⟩) := by
 refine Ctr.of (rs := [.tmp 2]) Tok true Tryz.func44 rfl rfl rfl rfl (by simp [ofDL]) (fun w0 kp => ?_)
 simp only [↓sx0, sxE, encs, sevalprocAttr]
 refine CallI.fn (within_s m.part 0 59) (by simp only [sx3, encs, sxR, sevalprocAttr] <;> (try simp) <;> (try rfl)) ?_
 simp only [↓sx0, sxE, encs, sevalprocAttr]
 refine BrW.of (fun h => ?_) (fun h => ?_)
 ·simp only [↓sx0, sxE, encs, sevalprocAttr]
  refine CallI.fn (within_s m.word 0 100) (by simp only [sx3, encs, sxR, sevalprocAttr] <;> (try simp) <;> (try rfl)) ?_
  simp only [↓sx0, sxE, encs, sevalprocAttr]
  have : inR m = decide (0 ≤ m.word ∧ m.word ≤ 100) := by rw [inR, h, Bool.true_and]
  refine EndW.fn ?_ ?_ <;> simp only [sx4, encs, kpLL_map, sxR, sevalprocAttr] <;> (try simp [this]) <;> (try omega)
 ·simp only [↓sx0, sxE, encs, sevalprocAttr]
  have : inR m = false := by rw [inR, h, Bool.false_and]
  refine EndW.fn ?_ ?_ <;> simp only [sx4, encs, kpLL_map, sxR, sevalprocAttr] <;> (try simp [this]) <;> (try omega)
def ptsB (m : Mk) : Bool := decide (m.mark = 5) || decide (m.mark = 6)
theorem parts_s (m : Mk) : Ctr Tryz.prog 47 [mV m] (fun rr => rr = ⟨(.v (.bool (ptsB m))), []⟩) := by
 refine Ctr.of (rs := [.tmp 2]) Tok true Tryz.func47 rfl rfl rfl rfl (by simp [ofDL]) (fun w0 kp => ?_)
 simp only [↓sx0, sxE, encs, sevalprocAttr]
 refine BrW.dec (fun h => ?_) (fun h => ?_)
 ·simp only [↓sx0, sxE, encs, sevalprocAttr]
  have : ptsB m = true := by simp [ptsB, h]
  refine EndW.fn ?_ ?_ <;> simp only [sx4, encs, kpLL_map, sxR, sevalprocAttr] <;> (try simp [this]) <;> (try omega)
 ·simp only [↓sx0, sxE, encs, sevalprocAttr]
  have : ptsB m = decide (m.mark = 6) := by simp [ptsB, h]
  refine EndW.fn ?_ ?_ <;> simp only [sx4, encs, kpLL_map, sxR, sevalprocAttr] <;> (try simp [this]) <;> (try omega)
theorem toldBy_s (m : Mk) : Ctr Tryz.prog 45 [mV m] (fun rr => rr = ⟨.agg [(.v (.string (m.old))), (.v (.string (m.new))), (.v (.int .i64 m.was)), (.v (.int .i64 m.kind))], []⟩) := by
 refine Ctr.of (rs := [.cell 2 91]) Tok true Tryz.func45 rfl rfl rfl rfl (by simp [ofDL]) (fun w0 kp => ?_)
 simp only [↓sx0, sxE, encs, sevalprocAttr]
 refine EndW.fn ?_ ?_ <;> simp only [sx4, encs, kpLL_map, sxR, sevalprocAttr] <;> (try simp) <;> (try omega)
def em : ByteArray := ⟨#[]⟩
def wantB (mark : Int) (o n : ByteArray) (w k : Int) : Bool :=
 if mark = 1 then isWd o && decide (n = em ∧ w = 0 ∧ k = 0)
 else if mark = 2 then isWd n && decide (o = em ∧ w = 0 ∧ k = 0)
 else if mark = 3 then (isWd o && isWd n && decide (o ≠ n)) && decide (w = 0 ∧ k = 0)
 else if mark = 5 ∨ mark = 6 then decide (1 ≤ k ∧ k ≤ 3) && decide (o = em ∧ n = em ∧ w = 0)
 else if mark = 7 then (decide (1 ≤ w ∧ w ≤ 3) && decide (1 ≤ k ∧ k ≤ 3) && decide (w ≠ k)) && decide (o = em ∧ n = em)
 else decide (o = em ∧ n = em ∧ w = 0 ∧ k = 0)
set_option maxHeartbeats 4000000 in
theorem fits_s (mark : Int) (o n : ByteArray) (w k : Int) (ho : o.size ≤ 1000000000) (hn : n.size ≤ 1000000000) : Ctr Tryz.prog 46 [.agg [(.v (.string (o))), (.v (.string (n))), (.v (.int .i64 w)), (.v (.int .i64 k))], (.v (.int .i64 mark))] (fun rr => rr = ⟨(.v (.bool (wantB mark o n w k))), []⟩) := by
 refine Ctr.of (rs := [.tmp 4]) Tok true Tryz.func46 rfl rfl rfl rfl (by simp [ofDL]) (fun w0 kp => ?_)
 simp only [↓sx0, sxE, encs, sevalprocAttr]
 refine BrW.dec (fun h1 => ?_) (fun h1 => ?_)
 ·have hw : wantB mark o n w k = (isWd o && decide (n = em ∧ w = 0 ∧ k = 0)) := by rw [wantB, if_pos h1]
  rw [hw]
  simp only [↓sx0, sxE, encs, sevalprocAttr]
  refine DrawW.plan Tok mixed (.q 0 <| .q 1 <| .q 2 <| .q 3 <| .q 5 <| .e 4 [1] <| .e 6 [] <| .q 7 <| .done) (by kernel_rfl) (by kernel_rfl) ?_
  simp only [↓sx0, sxE, encs, sevalprocAttr]
  refine CallI.fn (isWord_s o ho) (by simp only [sx3, encs, sxR, sevalprocAttr] <;> (try simp) <;> (try rfl)) ?_
  simp only [↓sx0, sxE, encs, sevalprocAttr]
  refine BrW.of (fun hb => ?_) (fun hb => ?_)
  ·simp only [↓sx0, sxE, encs, sevalprocAttr]
   rw [show (isWd o && decide (n = em ∧ w = 0 ∧ k = 0)) = decide ([Sc.s o, Sc.s n, Sc.i w, Sc.i k] = [Sc.s o, Sc.s ⟨#[]⟩, Sc.i 0, Sc.i 0]) by rw [hb, Bool.eq_iff_iff]; simp [em]; exact decide_eq_true_iff]
   refine EndW.fn ?_ ?_ <;> simp only [sx4, encs, kpLL_map, sxR, sevalprocAttr] <;> (try simp) <;> (try omega)
  ·simp only [↓sx0, sxE, encs, sevalprocAttr]
   rw [hb]
   refine EndW.fn ?_ ?_ <;> simp only [sx4, encs, kpLL_map, sxR, sevalprocAttr] <;> (try simp) <;> (try omega)
 ·simp only [↓sx0, sxE, encs, sevalprocAttr]
  refine BrW.dec (fun h2 => ?_) (fun h2 => ?_)
  ·have hw : wantB mark o n w k = (isWd n && decide (o = em ∧ w = 0 ∧ k = 0)) := by rw [wantB, if_neg h1, if_pos h2]
   rw [hw]
   simp only [↓sx0, sxE, encs, sevalprocAttr]
   refine DrawW.plan Tok mixed (.q 0 <| .q 1 <| .q 2 <| .q 3 <| .q 5 <| .e 4 [1] <| .e 6 [] <| .q 7 <| .done) (by kernel_rfl) (by kernel_rfl) ?_
   simp only [↓sx0, sxE, encs, sevalprocAttr]
   refine CallI.fn (isWord_s n hn) (by simp only [sx3, encs, sxR, sevalprocAttr] <;> (try simp) <;> (try rfl)) ?_
   simp only [↓sx0, sxE, encs, sevalprocAttr]
   refine BrW.of (fun hb => ?_) (fun hb => ?_)
   ·simp only [↓sx0, sxE, encs, sevalprocAttr]
    rw [show (isWd n && decide (o = em ∧ w = 0 ∧ k = 0)) = decide ([Sc.s o, Sc.s n, Sc.i w, Sc.i k] = [Sc.s ⟨#[]⟩, Sc.s n, Sc.i 0, Sc.i 0]) by rw [hb, Bool.eq_iff_iff]; simp [em]; exact decide_eq_true_iff]
    refine EndW.fn ?_ ?_ <;> simp only [sx4, encs, kpLL_map, sxR, sevalprocAttr] <;> (try simp) <;> (try omega)
   ·simp only [↓sx0, sxE, encs, sevalprocAttr]
    rw [hb]
    refine EndW.fn ?_ ?_ <;> simp only [sx4, encs, kpLL_map, sxR, sevalprocAttr] <;> (try simp) <;> (try omega)
  ·simp only [↓sx0, sxE, encs, sevalprocAttr]
   refine BrW.dec (fun h3 => ?_) (fun h3 => ?_)
   ·have hw : wantB mark o n w k = ((isWd o && isWd n && decide (o ≠ n)) && decide (w = 0 ∧ k = 0)) := by rw [wantB, if_neg h1, if_neg h2, if_pos h3]
    rw [hw]
    simp only [↓sx0, sxE, encs, sevalprocAttr]
    refine DrawW.plan Tok mixed (.q 0 <| .q 1 <| .q 2 <| .q 3 <| .q 4 <| .q 5 <| .q 19 <| .e 6 [1, 3] <| .q 7 <| .q 8 <| .q 9 <| .e 10 [1, 3] <| .q 11 <| .q 12 <| .q 13 <| .q 14 <| .q 15 <| .q 16 <| .q 17 <| .q 18 <| .e 20 [3, 14, 16] <| .q 21 <| .e 22 [14, 16] <| .q 23 <| .done) (by kernel_rfl) (by kernel_rfl) ?_
    simp only [↓sx0, sxE, encs, sevalprocAttr]
    refine CallI.fn (isWord_s o ho) (by simp only [sx3, encs, sxR, sevalprocAttr] <;> (try simp) <;> (try rfl)) ?_
    simp only [↓sx0, sxE, encs, sevalprocAttr]
    refine BrW.of (fun hb => ?_) (fun hb => ?_)
    ·simp only [↓sx0, sxE, encs, sevalprocAttr]
     repeat ((with_reducible refine BrW.tt hb ?_); simp only [↓sx0, sxE, encs, sevalprocAttr])
     refine CallI.fn (isWord_s n hn) (by simp only [sx3, encs, sxR, sevalprocAttr] <;> (try simp) <;> (try rfl)) ?_
     simp only [↓sx0, sxE, encs, sevalprocAttr]
     refine BrW.of (fun hc => ?_) (fun hc => ?_)
     ·simp only [↓sx0, sxE, encs, sevalprocAttr]
      repeat ((with_reducible refine BrW.tt hc ?_); simp only [↓sx0, sxE, encs, sevalprocAttr])
      refine BrW.dec (fun hd => ?_) (fun hd => ?_)
      ·simp only [↓sx0, sxE, encs, sevalprocAttr]
       rw [show ((isWd o && isWd n && decide (o ≠ n)) && decide (w = 0 ∧ k = 0)) = decide ([Sc.s o, Sc.s n, Sc.i w, Sc.i k] = [Sc.s o, Sc.s n, Sc.i 0, Sc.i 0]) by rw [hb, hc, decide_eq_true hd]; simp]
       refine EndW.fn ?_ ?_ <;> simp only [sx4, encs, kpLL_map, sxR, sevalprocAttr] <;> (try simp) <;> (try omega)
      ·simp only [↓sx0, sxE, encs, sevalprocAttr]
       rw [hb, hc, decide_eq_false hd]
       refine EndW.fn ?_ ?_ <;> simp only [sx4, encs, kpLL_map, sxR, sevalprocAttr] <;> (try simp) <;> (try omega)
     ·simp only [↓sx0, sxE, encs, sevalprocAttr]
      repeat ((with_reducible refine BrW.ff hc ?_); simp only [↓sx0, sxE, encs, sevalprocAttr])
      rw [hb, hc]
      refine EndW.fn ?_ ?_ <;> simp only [sx4, encs, kpLL_map, sxR, sevalprocAttr] <;> (try simp) <;> (try omega)
    ·simp only [↓sx0, sxE, encs, sevalprocAttr]
     repeat ((with_reducible refine BrW.ff hb ?_); simp only [↓sx0, sxE, encs, sevalprocAttr])
     rw [hb]
     refine EndW.fn ?_ ?_ <;> simp only [sx4, encs, kpLL_map, sxR, sevalprocAttr] <;> (try simp) <;> (try omega)
   ·simp only [↓sx0, sxE, encs, sevalprocAttr]
    have bj : mark = 5 ∨ mark = 6 → wantB mark o n w k = (decide (1 ≤ k ∧ k ≤ 3) && decide (o = em ∧ n = em ∧ w = 0)) := fun h => by rw [wantB, if_neg h1, if_neg h2, if_neg h3, if_pos h]
    refine BrW.dec (fun h5 => ?_) (fun h5 => ?_)
    ·rw [bj (.inl h5)]
     simp only [↓sx0, sxE, encs, sevalprocAttr]
     refine BrW.yes h5 ?_
     simp only [↓sx0, sxE, encs, sevalprocAttr]
     refine DrawW.plan Tok mixed (.q 0 <| .q 1 <| .q 2 <| .q 3 <| .q 5 <| .e 4 [1] <| .e 6 [] <| .q 7 <| .done) (by kernel_rfl) (by kernel_rfl) ?_
     simp only [↓sx0, sxE, encs, sevalprocAttr]
     refine CallI.fn (isKind_s k) (by simp only [sx3, encs, sxR, sevalprocAttr] <;> (try simp) <;> (try rfl)) ?_
     simp only [↓sx0, sxE, encs, sevalprocAttr]
     refine BrW.of (fun hb => ?_) (fun hb => ?_)
     ·simp only [↓sx0, sxE, encs, sevalprocAttr]
      rw [show (decide (1 ≤ k ∧ k ≤ 3) && decide (o = em ∧ n = em ∧ w = 0)) = decide ([Sc.s o, Sc.s n, Sc.i w, Sc.i k] = [Sc.s ⟨#[]⟩, Sc.s ⟨#[]⟩, Sc.i 0, Sc.i k]) by rw [hb, Bool.eq_iff_iff]; simp [em]; exact decide_eq_true_iff]
      refine EndW.fn ?_ ?_ <;> simp only [sx4, encs, kpLL_map, sxR, sevalprocAttr] <;> (try simp) <;> (try omega)
     ·simp only [↓sx0, sxE, encs, sevalprocAttr]
      rw [hb]
      refine EndW.fn ?_ ?_ <;> simp only [sx4, encs, kpLL_map, sxR, sevalprocAttr] <;> (try simp) <;> (try omega)
    ·simp only [↓sx0, sxE, encs, sevalprocAttr]
     refine BrW.dec (fun h6 => ?_) (fun h6 => ?_)
     ·rw [bj (.inr h6)]
      simp only [↓sx0, sxE, encs, sevalprocAttr]
      refine DrawW.plan Tok mixed (.q 0 <| .q 1 <| .q 2 <| .q 3 <| .q 5 <| .e 4 [1] <| .e 6 [] <| .q 7 <| .done) (by kernel_rfl) (by kernel_rfl) ?_
      simp only [↓sx0, sxE, encs, sevalprocAttr]
      refine CallI.fn (isKind_s k) (by simp only [sx3, encs, sxR, sevalprocAttr] <;> (try simp) <;> (try rfl)) ?_
      simp only [↓sx0, sxE, encs, sevalprocAttr]
      refine BrW.of (fun hb => ?_) (fun hb => ?_)
      ·simp only [↓sx0, sxE, encs, sevalprocAttr]
       rw [show (decide (1 ≤ k ∧ k ≤ 3) && decide (o = em ∧ n = em ∧ w = 0)) = decide ([Sc.s o, Sc.s n, Sc.i w, Sc.i k] = [Sc.s ⟨#[]⟩, Sc.s ⟨#[]⟩, Sc.i 0, Sc.i k]) by rw [hb, Bool.eq_iff_iff]; simp [em]; exact decide_eq_true_iff]
       refine EndW.fn ?_ ?_ <;> simp only [sx4, encs, kpLL_map, sxR, sevalprocAttr] <;> (try simp) <;> (try omega)
      ·simp only [↓sx0, sxE, encs, sevalprocAttr]
       rw [hb]
       refine EndW.fn ?_ ?_ <;> simp only [sx4, encs, kpLL_map, sxR, sevalprocAttr] <;> (try simp) <;> (try omega)
     ·simp only [↓sx0, sxE, encs, sevalprocAttr]
      have h56 : ¬ (mark = 5 ∨ mark = 6) := fun h => h.elim h5 h6
      refine BrW.dec (fun h7 => ?_) (fun h7 => ?_)
      ·have hw : wantB mark o n w k = ((decide (1 ≤ w ∧ w ≤ 3) && decide (1 ≤ k ∧ k ≤ 3) && decide (w ≠ k)) && decide (o = em ∧ n = em)) := by rw [wantB, if_neg h1, if_neg h2, if_neg h3, if_neg h56, if_pos h7]
       rw [hw]
       simp only [↓sx0, sxE, encs, sevalprocAttr]
       refine DrawW.plan Tok mixed (.q 0 <| .q 1 <| .q 2 <| .q 3 <| .q 4 <| .q 5 <| .q 19 <| .e 6 [1, 3] <| .q 7 <| .q 8 <| .q 9 <| .e 10 [1, 3] <| .q 11 <| .q 12 <| .q 13 <| .q 14 <| .q 15 <| .q 16 <| .q 17 <| .q 18 <| .e 20 [3, 14, 16] <| .q 21 <| .e 22 [14, 16] <| .q 23 <| .done) (by kernel_rfl) (by kernel_rfl) ?_
       simp only [↓sx0, sxE, encs, sevalprocAttr]
       refine CallI.fn (isKind_s w) (by simp only [sx3, encs, sxR, sevalprocAttr] <;> (try simp) <;> (try rfl)) ?_
       simp only [↓sx0, sxE, encs, sevalprocAttr]
       refine BrW.of (fun hb => ?_) (fun hb => ?_)
       ·simp only [↓sx0, sxE, encs, sevalprocAttr]
        repeat ((with_reducible refine BrW.tt hb ?_); simp only [↓sx0, sxE, encs, sevalprocAttr])
        refine CallI.fn (isKind_s k) (by simp only [sx3, encs, sxR, sevalprocAttr] <;> (try simp) <;> (try rfl)) ?_
        simp only [↓sx0, sxE, encs, sevalprocAttr]
        refine BrW.of (fun hc => ?_) (fun hc => ?_)
        ·simp only [↓sx0, sxE, encs, sevalprocAttr]
         repeat ((with_reducible refine BrW.tt hc ?_); simp only [↓sx0, sxE, encs, sevalprocAttr])
         refine BrW.dec (fun hd => ?_) (fun hd => ?_)
         ·simp only [↓sx0, sxE, encs, sevalprocAttr]
          rw [show ((decide (1 ≤ w ∧ w ≤ 3) && decide (1 ≤ k ∧ k ≤ 3) && decide (w ≠ k)) && decide (o = em ∧ n = em)) = decide ([Sc.s o, Sc.s n, Sc.i w, Sc.i k] = [Sc.s ⟨#[]⟩, Sc.s ⟨#[]⟩, Sc.i w, Sc.i k]) by rw [hb, hc, decide_eq_true hd, Bool.eq_iff_iff]; simp [em]; exact decide_eq_true_iff]
          refine EndW.fn ?_ ?_ <;> simp only [sx4, encs, kpLL_map, sxR, sevalprocAttr] <;> (try simp) <;> (try omega)
         ·simp only [↓sx0, sxE, encs, sevalprocAttr]
          rw [hb, hc, decide_eq_false hd]
          refine EndW.fn ?_ ?_ <;> simp only [sx4, encs, kpLL_map, sxR, sevalprocAttr] <;> (try simp) <;> (try omega)
        ·simp only [↓sx0, sxE, encs, sevalprocAttr]
         repeat ((with_reducible refine BrW.ff hc ?_); simp only [↓sx0, sxE, encs, sevalprocAttr])
         rw [hb, hc]
         refine EndW.fn ?_ ?_ <;> simp only [sx4, encs, kpLL_map, sxR, sevalprocAttr] <;> (try simp) <;> (try omega)
       ·simp only [↓sx0, sxE, encs, sevalprocAttr]
        repeat ((with_reducible refine BrW.ff hb ?_); simp only [↓sx0, sxE, encs, sevalprocAttr])
        rw [hb]
        refine EndW.fn ?_ ?_ <;> simp only [sx4, encs, kpLL_map, sxR, sevalprocAttr] <;> (try simp) <;> (try omega)
      ·have hw : wantB mark o n w k = decide ([Sc.s o, Sc.s n, Sc.i w, Sc.i k] = [Sc.s ⟨#[]⟩, Sc.s ⟨#[]⟩, Sc.i 0, Sc.i 0]) := by
        rw [wantB, if_neg h1, if_neg h2, if_neg h3, if_neg h56, if_neg h7, Bool.eq_iff_iff]; simp [em]; exact decide_eq_true_iff
       rw [hw]
       simp only [↓sx0, sxE, encs, sevalprocAttr]
       refine EndW.fn ?_ ?_ <;> simp only [sx4, encs, kpLL_map, sxR, sevalprocAttr] <;> (try simp) <;> (try omega)
/-- the error of a mark. -/
def mkErr (m : Mk) : Int :=
 if 1 ≤ m.mark ∧ m.mark ≤ 7 then (if inR m = true then (if wantB m.mark m.old m.new m.was m.kind = true ∧ ¬ (ptsB m = true ∧ m.word = 0) ∧ ¬ (m.mark = 7 ∧ m.word ≠ 0) then 0 else 3) else 2) else 15
def MkSz (m : Mk) : Prop := m.old.size ≤ 1000000000 ∧ m.new.size ≤ 1000000000
set_option maxHeartbeats 4000000 in
theorem checkMark_s (m : Mk) (hz : MkSz m) : Ctr Tryz.prog 33 [mV m] (fun rr => rr = ⟨(.v (.int .i64 (mkErr m))), []⟩) := by
 refine Ctr.of (rs := [.tmp 2]) Tok true Tryz.func33 rfl rfl rfl rfl (by simp [ofDL]) (fun w0 kp => ?_)
 simp only [↓sx0, sxE, encs, sevalprocAttr]
 refine CallI.fn (within_s m.mark 1 7) (by simp only [sx3, encs, sxR, sevalprocAttr] <;> (try simp) <;> (try rfl)) ?_
 simp only [↓sx0, sxE, encs, sevalprocAttr]
 refine BrW.of (fun hk => ?_) (fun hk => ?_)
 ·have hk : 1 ≤ m.mark ∧ m.mark ≤ 7 := by simpa using hk
  simp only [↓sx0, sxE, encs, sevalprocAttr]
  refine CallI.fn (inRange_s m) (by simp only [sx3, encs, sxR, sevalprocAttr] <;> (try simp) <;> (try rfl)) ?_
  simp only [↓sx0, sxE, encs, sevalprocAttr]
  refine BrW.of (fun hr => ?_) (fun hr => ?_)
  ·have he : mkErr m = if wantB m.mark m.old m.new m.was m.kind = true ∧ ¬ (ptsB m = true ∧ m.word = 0) ∧ ¬ (m.mark = 7 ∧ m.word ≠ 0) then 0 else 3 := by rw [mkErr, if_pos hk, if_pos hr]
   rw [he]
   simp only [↓sx0, sxE, encs, sevalprocAttr]
   refine DrawW.plan Tok mixed (.q 0 <| .q 2 <| .q 3 <| .e 1 [3] <| .e 4 [] <| .q 5 <| .q 6 <| .q 7 <| .e 8 [] <| .q 9 <| .q 10 <| .q 11 <| .q 12 <| .q 13 <| .q 14 <| .q 15 <| .q 16 <| .q 17 <| .q 18 <| .q 19 <| .q 20 <| .q 21 <| .q 22 <| .q 23 <| .q 24 <| .q 25 <| .done) (by kernel_rfl) (by kernel_rfl) ?_
   simp only [↓sx0, sxE, encs, sevalprocAttr]
   refine CallI.fn (toldBy_s m) (by simp only [sx3, encs, sxR, sevalprocAttr] <;> (try simp) <;> (try rfl)) ?_
   simp only [↓sx0, sxE, encs, sevalprocAttr]
   refine CallI.fn (fits_s m.mark m.old m.new m.was m.kind hz.1 hz.2) (by simp only [sx3, encs, sxR, sevalprocAttr] <;> (try simp) <;> (try rfl)) ?_
   simp only [↓sx0, sxE, encs, sevalprocAttr]
   refine BrW.of (fun hf => ?_) (fun hf => ?_)
   ·simp only [↓sx0, sxE, encs, sevalprocAttr]
    repeat ((with_reducible refine BrW.tt hf ?_); simp only [↓sx0, sxE, encs, sevalprocAttr])
    refine CallI.fn (parts_s m) (by simp only [sx3, encs, sxR, sevalprocAttr] <;> (try simp) <;> (try rfl)) ?_
    simp only [↓sx0, sxE, encs, sevalprocAttr]
    refine BrW.of (fun hp => ?_) (fun hp => ?_)
    ·simp only [↓sx0, sxE, encs, sevalprocAttr]
     have h7 : ¬ m.mark = 7 := fun h => by rw [ptsB, h] at hp; simp at hp
     repeat ((with_reducible refine BrW.tt hp ?_); simp only [↓sx0, sxE, encs, sevalprocAttr])
     refine BrW.dec (fun hw0 => ?_) (fun hw0 => ?_)
     ·simp only [↓sx0, sxE, encs, sevalprocAttr]
      repeat ((with_reducible refine BrW.yes hw0 ?_); simp only [↓sx0, sxE, encs, sevalprocAttr])
      rw [if_neg fun h => h.2.1 ⟨hp, hw0⟩]
      refine EndW.fn ?_ ?_ <;> simp only [sx4, encs, kpLL_map, sxR, sevalprocAttr] <;> (try simp) <;> (try omega)
     ·simp only [↓sx0, sxE, encs, sevalprocAttr]
      repeat ((with_reducible refine BrW.no hw0 ?_); simp only [↓sx0, sxE, encs, sevalprocAttr])
      repeat ((with_reducible refine BrW.no h7 ?_); simp only [↓sx0, sxE, encs, sevalprocAttr])
      rw [if_pos ⟨hf, fun h => hw0 h.2, fun h => h7 h.1⟩]
      refine EndW.fn ?_ ?_ <;> simp only [sx4, encs, kpLL_map, sxR, sevalprocAttr] <;> (try simp) <;> (try omega)
    ·simp only [↓sx0, sxE, encs, sevalprocAttr]
     repeat ((with_reducible refine BrW.ff hp ?_); simp only [↓sx0, sxE, encs, sevalprocAttr])
     refine BrW.dec (fun h7 => ?_) (fun h7 => ?_)
     ·simp only [↓sx0, sxE, encs, sevalprocAttr]
      repeat ((with_reducible refine BrW.yes h7 ?_); simp only [↓sx0, sxE, encs, sevalprocAttr])
      refine BrW.dec (fun hw0 => ?_) (fun hw0 => ?_)
      ·simp only [↓sx0, sxE, encs, sevalprocAttr]
       rw [if_neg fun h => h.2.2 ⟨h7, hw0⟩]
       refine EndW.fn ?_ ?_ <;> simp only [sx4, encs, kpLL_map, sxR, sevalprocAttr] <;> (try simp) <;> (try omega)
      ·simp only [↓sx0, sxE, encs, sevalprocAttr]
       rw [if_pos ⟨hf, fun h => by rw [hp] at h; simp at h, fun h => hw0 h.2⟩]
       refine EndW.fn ?_ ?_ <;> simp only [sx4, encs, kpLL_map, sxR, sevalprocAttr] <;> (try simp) <;> (try omega)
     ·simp only [↓sx0, sxE, encs, sevalprocAttr]
      repeat ((with_reducible refine BrW.no h7 ?_); simp only [↓sx0, sxE, encs, sevalprocAttr])
      rw [if_pos ⟨hf, fun h => by rw [hp] at h; simp at h, fun h => h7 h.1⟩]
      refine EndW.fn ?_ ?_ <;> simp only [sx4, encs, kpLL_map, sxR, sevalprocAttr] <;> (try simp) <;> (try omega)
   ·simp only [↓sx0, sxE, encs, sevalprocAttr]
    repeat ((with_reducible refine BrW.ff hf ?_); simp only [↓sx0, sxE, encs, sevalprocAttr])
    rw [if_neg (by rw [hf]; simp)]
    refine EndW.fn ?_ ?_ <;> simp only [sx4, encs, kpLL_map, sxR, sevalprocAttr] <;> (try simp) <;> (try omega)
  ·simp only [↓sx0, sxE, encs, sevalprocAttr]
   rw [show mkErr m = 2 by rw [mkErr, if_pos hk, if_neg (by simp [hr])]]
   refine EndW.fn ?_ ?_ <;> simp only [sx4, encs, kpLL_map, sxR, sevalprocAttr] <;> (try simp) <;> (try omega)
 ·have hk : ¬ (1 ≤ m.mark ∧ m.mark ≤ 7) := by simpa using hk
  simp only [↓sx0, sxE, encs, sevalprocAttr]
  rw [show mkErr m = 15 by rw [mkErr, if_neg hk]]
  refine EndW.fn ?_ ?_ <;> simp only [sx4, encs, kpLL_map, sxR, sevalprocAttr] <;> (try simp) <;> (try omega)
end Go.Proofs.YthkkcemefngeiaaGreat
/-
 Chapter 8, walks: a word that comes in.
-/
namespace Go.Proofs.YthkkcemefngeiaaGreat
open Go Go.Vx
set_option linter.unusedSimpArgs false
set_option linter.unusedVariables false
set_option maxRecDepth 20000
def insP (p : Pt) (k : Nat) (t : ByteArray) : Pt := ⟨p.kind, p.words.take k ++ t :: p.words.drop k⟩
theorem elsA_get {l : List Pt} {i : Nat} (hi : i < l.length) (u : Value) : (elsA l i u)[i]? = some [.v (.int .i64 l[i].kind), .v u] := by
 unfold elsA
 have hgd : l.getD i ⟨0, []⟩ = l[i] := by simp [List.getD_eq_getElem?_getD, hi]
 rw [hgd, List.getElem?_set_self (by simpa using hi)]
theorem elsA_put {l : List Pt} {i : Nat} (hi : i < l.length) (u : Value) (p : Pt) (hk : p.kind = l[i].kind) : ((elsA l i u).modify i fun x => modE x 1 [.sl true 1 (p.words.map eS)]) = (l.set i p).map (eP true) := by
 apply List.ext_getElem?
 intro k
 rw [List.getElem?_modify]
 by_cases h : i = k
 ·subst h
  rw [elsA_get hi]
  simp [modE, eP, hk, hi]
 ·unfold elsA
  simp [h]
theorem elsA_len (l : List Pt) (i : Nat) (u : Value) : (elsA l i u).length = l.length := by simp [elsA]
theorem mapE : (∀ k v, upE k v [] = [[.v k, .v v]]) ∧ (∀ key val k v l, upE key val ([.v k, .v v] :: l) = if kEq key k = true then [.v key, .v val] :: l else [.v k, .v v] :: upE key val l) ∧ (∀ a b, kEq (.int .i64 a) (.int .i64 b) = decide (a = b)) ∧ (entsOk (some .i64) [] = true) ∧
  (∀ k v l, entsOk (some .i64) ([.v (.int .i64 k), .v v] :: l) = entsOk (some .i64) l) ∧ (∀ key, lkE key [] = none) ∧ (∀ key k v l, lkE key ([.v k, .v v] :: l) = if kEq key k = true then some v else lkE key l) ∧ (∀ z v, lkV false z (some v) = .v v) ∧ (∀ z, lkV false z none = .v z) ∧ (∀ v z : Value, (some v).getD z = v) ∧ (∀ z : Value, (none : Option Value).getD z = z) := by
 refine ⟨fun _ _ => rfl, fun _ _ _ _ _ => rfl, fun a b => ?_, rfl, fun k v l => ?_, fun _ => rfl, fun _ _ _ _ => rfl, fun _ _ => rfl, fun _ => rfl, fun _ _ => rfl, fun _ => rfl⟩
 ·rw [Bool.eq_iff_iff]; simp [kEq]
 ·simp [entsOk, entOk, keyIs]
set_option maxHeartbeats 8000000 in
theorem appliedIn_s (b b2 : Bool) (l : List Pt) (m : Mk) (i k : Nat) (hm : m.mark = 2) (hp : m.part = i) (hw : m.word = k) (hl : l.length ≤ 1000) (hi : i < l.length) (hws : ∀ p ∈ l, p.words.length ≤ 1000) (hk : k < l[i].words.length)
  (he : (partsErr (l.set i (insP l[i] k m.new))).2 = 0) : Ctr Tryz.prog 34 [.sl b 2 (l.map (eP b2)), mV m] (fun rr => rr = ⟨.tup [.sl true 2 ((l.set i (insP l[i] k m.new)).map (eP true)), (.v (.int .i64 0))], []⟩) := by
 have hwi : l[i].words.length ≤ 1000 := hws _ (List.getElem_mem hi)
 have encs := And.intro encs mapE
 refine Ctr.of (rs := [.tmp 4, .tmp 5]) Tok true Tryz.func34 rfl rfl rfl rfl (by simp [ofDL]) (fun w0 kp => ?_)
 simp only [↓sx0, sxE, encs, sevalprocAttr]
 rw [hm, hp, hw]
 refine DrawW.plan Tok mixed (.q 0 <| .q 2 <| .e 1 [2] <| .e 3 [] <| .q 4 <| .q 5 <| .q 6 <| .q 7 <| .q 8 <| .done) (by kernel_rfl) (by kernel_rfl) ?_
 simp only [↓sx0, sxE, encs, sevalprocAttr]
 refine CallI.ctrA (clone_s b b2 l i hl hi hws (by omega)) (by simp only [sx3, encs, sxR, sevalprocAttr] <;> (try simp) <;> (try rfl)) ?_
 rintro _ _ _ ⟨rfl, ⟨ad, n0, c0, rfl⟩, rfl⟩
 simp only [↓sx0, sxE, encs, sevalprocAttr]
 refine CallI.inlG (rs := [.tmp 4, .tmp 5]) Tok (fun h => by first | cases h; done | rfl) Tryz.func48 rfl rfl rfl rfl (by simp) (fun ρ σ μ fr lp => ?_) (by refine ⟨_, ?_, rfl⟩; rfl)
 simp only [↓sx0, sxE, encs, sevalprocAttr]
 have hel := elsA_len l i (.slice (some ad) n0 c0)
 have hge := elsA_get hi (.slice (some ad) n0 c0)
 refine BrW.no (by omega) ?_
 simp only [↓sx0, sxE, encs, sevalprocAttr]
 repeat ((with_reducible refine Vc.go ?_ fun _ => ?_); (focus (first | omega | (simp only [InK]; omega) | (simp [InK]; done) | (simp [InK]; omega))); simp only [↓sx0, sxE, encs, sevalprocAttr])
 refine DrawW.plan Tok mixed (.q 0 <| .q 1 <| .q 2 <| .q 3 <| .q 4 <| .q 5 <| .q 6 <| .q 7 <| .q 8 <| .done) (by kernel_rfl) (by kernel_rfl) ?_
 simp only [↓sx0, sxE, encs, sevalprocAttr]
 refine ⟨by omega, _, (by rw [Int.toNat_natCast]; exact hge), ?_⟩
 simp only [↓sx0, sxE, encs, sevalprocAttr]
 repeat ((with_reducible refine Vc.go ?_ fun _ => ?_); (focus (first | omega | (simp only [InK]; omega) | (simp [InK]; done) | (simp [InK]; omega))); simp only [↓sx0, sxE, encs, sevalprocAttr])
 refine BrW.no (by omega) ?_
 simp only [↓sx0, sxE, encs, sevalprocAttr]
 refine DrawW.plan Tok mixed (.q 0 <| .q 1 <| .q 2 <| .q 3 <| .q 4 <| .q 5 <| .q 6 <| .q 7 <| .e 8 [4] <| .e 9 [] <| .q 10 <| .q 11 <| .e 12 [] <| .done) (by kernel_rfl) (by kernel_rfl) ?_
 simp only [↓sx0, sxE, encs, sevalprocAttr]
 refine ⟨by omega, _, (by rw [Int.toNat_natCast]; exact hge), ?_⟩
 simp only [↓sx0, sxE, encs, sevalprocAttr]
 refine CallI.turn2 (r := 1) (k := 3) (x := .int .i64 (k : Int)) (e := 9) (s := 1) (e2 := 9) (s2 := 1) rfl rfl (by decide) (by decide) (insert_s l[i].words k m.new hk (by omega)) ?_
 simp only [↓sx0, sxE, encs, sevalprocAttr]
 repeat ((with_reducible refine Vc.go ?_ fun _ => ?_); (focus (first | omega | (simp only [InK]; omega) | (simp [InK]; done) | (simp [InK]; omega))); simp only [↓sx0, sxE, encs, sevalprocAttr])
 rw [Int.toNat_natCast, show (l[i].words.take k ++ m.new :: l[i].words.drop k) = (insP l[i] k m.new).words from rfl, elsA_put hi (.slice (some ad) n0 c0) (insP l[i] k m.new) rfl]
 refine CallI.fn (checkCopy_s false true (l.set i (insP l[i] k m.new))) (by simp only [sx3, encs, sxR, sevalprocAttr] <;> (try simp) <;> (try rfl)) ?_
 simp only [↓sx0, sxE, encs, sevalprocAttr]
 refine BrW.no (by simp [he]) ?_
 simp only [↓sx0, sxE, encs, sevalprocAttr]
 have hkp := kpP (l.set i (insP l[i] k m.new))
 refine EndW.fn ?_ ?_ <;> simp only [sx4, encs, kpLL_map, sxR, sevalprocAttr] <;> (try simp [hkp]) <;> (try omega)
theorem AppliedIn_s (b b2 : Bool) (l : List Pt) (m : Mk) (i k : Nat) (hm : m.mark = 2) (hp : m.part = i) (hw : m.word = k) (hl : l.length ≤ 1000) (hi : i < l.length) (hws : ∀ p ∈ l, p.words.length ≤ 1000) (hk : k < l[i].words.length) (hz : MkSz m)
  (h0 : (partsErr l).2 = 0) (h1 : mkErr m = 0) (he : (partsErr (l.set i (insP l[i] k m.new))).2 = 0) : Ctr Tryz.prog 17 [.sl b 2 (l.map (eP b2)), mV m] (fun rr => rr = ⟨.tup [.sl true 2 ((l.set i (insP l[i] k m.new)).map (eP true)), (.v (.int .i64 0))], []⟩) := by
 refine Ctr.of (rs := [.tmp 4, .tmp 5]) Tok true Tryz.func17 rfl rfl rfl rfl (by simp [ofDL]) (fun w0 kp => ?_)
 simp only [↓sx0, sxE, encs, sevalprocAttr]
 refine CallI.fn (checkCopy_s b b2 l) (by simp only [sx3, encs, sxR, sevalprocAttr] <;> (try simp) <;> (try rfl)) ?_
 simp only [↓sx0, sxE, encs, sevalprocAttr]
 refine BrW.no (by simp [h0]) ?_
 simp only [↓sx0, sxE, encs, sevalprocAttr]
 refine CallI.fn (checkMark_s m hz) (by simp only [sx3, encs, sxR, sevalprocAttr] <;> (try simp) <;> (try rfl)) ?_
 simp only [↓sx0, sxE, encs, sevalprocAttr]
 refine BrW.no (by simp [h1]) ?_
 simp only [↓sx0, sxE, encs, sevalprocAttr]
 refine CallI.fn (appliedIn_s b b2 l m i k hm hp hw hl hi hws hk he) (by simp only [sx3, encs, sxR, sevalprocAttr] <;> (try simp) <;> (try rfl)) ?_
 simp only [↓sx0, sxE, encs, sevalprocAttr]
 have hkp := kpP (l.set i (insP l[i] k m.new))
 refine EndW.fn ?_ ?_ <;> simp only [sx4, encs, kpLL_map, sxR, sevalprocAttr] <;> (try simp [hkp]) <;> (try omega)
end Go.Proofs.YthkkcemefngeiaaGreat
/-
 Chapter 8, walks: what a mark moves.
-/
namespace Go.Proofs.YthkkcemefngeiaaGreat
open Go Go.Vx
set_option linter.unusedSimpArgs false
set_option linter.unusedVariables false
set_option maxRecDepth 20000
def lenM (m : Mk) : Int := if m.mark = 1 then -1 else if m.mark = 2 then 1 else 0
def shM (m : Mk) : Int := if m.mark = 5 then 1 else if m.mark = 6 then -1 else 0
def ahM (m : Mk) : Int := if m.mark = 1 then 1 else if m.mark = 3 then 1 else if m.mark = 4 then 2 else 0
def owB (m : Mk) : Bool := decide (1 ≤ m.mark ∧ m.mark ≤ 4)
theorem lengthens_s (m : Mk) : Ctr Tryz.prog 88 [mV m] (fun rr => rr = ⟨(.v (.int .i64 (lenM m))), []⟩) := by
 have encs := And.intro encs mapE
 by_cases h1 : m.mark = 1
 ·rw [show lenM m = -1 by rw [lenM, if_pos h1]]
  refine Ctr.of (rs := [.tmp 2]) Tok true Tryz.func88 rfl rfl rfl rfl (by simp [ofDL]) (fun w0 kp => ?_)
  simp only [↓sx0, sxE, encs, sevalprocAttr]
  rw [h1]
  simp only [↓sx0, sxE, encs, sevalprocAttr]
  refine EndW.fn ?_ ?_ <;> simp only [sx4, encs, kpLL_map, sxR, sevalprocAttr] <;> (try simp) <;> (try omega)
 ·have encs := And.intro encs (eq_false h1)
  by_cases h2 : m.mark = 2
  ·rw [show lenM m = 1 by rw [lenM, if_neg h1, if_pos h2]]
   refine Ctr.of (rs := [.tmp 2]) Tok true Tryz.func88 rfl rfl rfl rfl (by simp [ofDL]) (fun w0 kp => ?_)
   simp only [↓sx0, sxE, encs, sevalprocAttr]
   rw [h2]
   simp only [↓sx0, sxE, encs, sevalprocAttr]
   refine EndW.fn ?_ ?_ <;> simp only [sx4, encs, kpLL_map, sxR, sevalprocAttr] <;> (try simp) <;> (try omega)
  ·have encs := And.intro encs (eq_false h2)
   rw [show lenM m = 0 by rw [lenM, if_neg h1, if_neg h2]]
   refine Ctr.of (rs := [.tmp 2]) Tok true Tryz.func88 rfl rfl rfl rfl (by simp [ofDL]) (fun w0 kp => ?_)
   simp only [↓sx0, sxE, encs, sevalprocAttr]
   refine EndW.fn ?_ ?_ <;> simp only [sx4, encs, kpLL_map, sxR, sevalprocAttr] <;> (try simp) <;> (try omega)
theorem shift_s (m : Mk) : Ctr Tryz.prog 107 [mV m] (fun rr => rr = ⟨(.v (.int .i64 (shM m))), []⟩) := by
 have encs := And.intro encs mapE
 by_cases h1 : m.mark = 5
 ·rw [show shM m = 1 by rw [shM, if_pos h1]]
  refine Ctr.of (rs := [.tmp 2]) Tok true Tryz.func107 rfl rfl rfl rfl (by simp [ofDL]) (fun w0 kp => ?_)
  simp only [↓sx0, sxE, encs, sevalprocAttr]
  rw [h1]
  simp only [↓sx0, sxE, encs, sevalprocAttr]
  refine EndW.fn ?_ ?_ <;> simp only [sx4, encs, kpLL_map, sxR, sevalprocAttr] <;> (try simp) <;> (try omega)
 ·have encs := And.intro encs (eq_false h1)
  by_cases h2 : m.mark = 6
  ·rw [show shM m = -1 by rw [shM, if_neg h1, if_pos h2]]
   refine Ctr.of (rs := [.tmp 2]) Tok true Tryz.func107 rfl rfl rfl rfl (by simp [ofDL]) (fun w0 kp => ?_)
   simp only [↓sx0, sxE, encs, sevalprocAttr]
   rw [h2]
   simp only [↓sx0, sxE, encs, sevalprocAttr]
   refine EndW.fn ?_ ?_ <;> simp only [sx4, encs, kpLL_map, sxR, sevalprocAttr] <;> (try simp) <;> (try omega)
  ·have encs := And.intro encs (eq_false h2)
   rw [show shM m = 0 by rw [shM, if_neg h1, if_neg h2]]
   refine Ctr.of (rs := [.tmp 2]) Tok true Tryz.func107 rfl rfl rfl rfl (by simp [ofDL]) (fun w0 kp => ?_)
   simp only [↓sx0, sxE, encs, sevalprocAttr]
   refine EndW.fn ?_ ?_ <;> simp only [sx4, encs, kpLL_map, sxR, sevalprocAttr] <;> (try simp) <;> (try omega)
theorem ofWords_s (m : Mk) : Ctr Tryz.prog 87 [mV m] (fun rr => rr = ⟨(.v (.bool (owB m))), []⟩) := by
 refine Ctr.of (rs := [.tmp 2]) Tok true Tryz.func87 rfl rfl rfl rfl (by simp [ofDL]) (fun w0 kp => ?_)
 simp only [↓sx0, sxE, encs, sevalprocAttr]
 refine CallI.fn (within_s m.mark 1 4) (by simp only [sx3, encs, sxR, sevalprocAttr] <;> (try simp) <;> (try rfl)) ?_
 simp only [↓sx0, sxE, encs, sevalprocAttr]
 refine EndW.fn ?_ ?_ <;> simp only [sx4, encs, kpLL_map, sxR, sevalprocAttr] <;> (try simp [owB]) <;> (try omega)
theorem ahead_s (m : Mk) (hw : 0 ≤ m.word ∧ m.word ≤ 1000) : Ctr Tryz.prog 89 [mV m] (fun rr => rr = ⟨.agg [(.v (.int .i64 m.word)), (.v (.int .i64 (m.word + ahM m)))], []⟩) := by
 have encs := And.intro encs mapE
 by_cases h1 : m.mark = 1
 ·rw [show ahM m = 1 by rw [ahM, if_pos h1]]
  refine Ctr.of (rs := [.cell 2 122]) Tok true Tryz.func89 rfl rfl rfl rfl (by simp [ofDL]) (fun w0 kp => ?_)
  simp only [↓sx0, sxE, encs, sevalprocAttr]
  rw [h1]
  simp only [↓sx0, sxE, encs, sevalprocAttr]
  repeat ((with_reducible refine Vc.go ?_ fun _ => ?_); (focus (first | omega | (simp only [InK]; omega) | (simp [InK]; done) | (simp [InK]; omega))); simp only [↓sx0, sxE, encs, sevalprocAttr])
  refine EndW.fn ?_ ?_ <;> simp only [sx4, encs, kpLL_map, sxR, sevalprocAttr] <;> (try simp) <;> (try omega)
 ·have encs := And.intro encs (eq_false h1)
  by_cases h2 : m.mark = 3
  ·rw [show ahM m = 1 by rw [ahM, if_neg h1, if_pos h2]]
   refine Ctr.of (rs := [.cell 2 122]) Tok true Tryz.func89 rfl rfl rfl rfl (by simp [ofDL]) (fun w0 kp => ?_)
   simp only [↓sx0, sxE, encs, sevalprocAttr]
   rw [h2]
   simp only [↓sx0, sxE, encs, sevalprocAttr]
   repeat ((with_reducible refine Vc.go ?_ fun _ => ?_); (focus (first | omega | (simp only [InK]; omega) | (simp [InK]; done) | (simp [InK]; omega))); simp only [↓sx0, sxE, encs, sevalprocAttr])
   refine EndW.fn ?_ ?_ <;> simp only [sx4, encs, kpLL_map, sxR, sevalprocAttr] <;> (try simp) <;> (try omega)
  ·have encs := And.intro encs (eq_false h2)
   by_cases h3 : m.mark = 4
   ·rw [show ahM m = 2 by rw [ahM, if_neg h1, if_neg h2, if_pos h3]]
    refine Ctr.of (rs := [.cell 2 122]) Tok true Tryz.func89 rfl rfl rfl rfl (by simp [ofDL]) (fun w0 kp => ?_)
    simp only [↓sx0, sxE, encs, sevalprocAttr]
    rw [h3]
    simp only [↓sx0, sxE, encs, sevalprocAttr]
    repeat ((with_reducible refine Vc.go ?_ fun _ => ?_); (focus (first | omega | (simp only [InK]; omega) | (simp [InK]; done) | (simp [InK]; omega))); simp only [↓sx0, sxE, encs, sevalprocAttr])
    refine EndW.fn ?_ ?_ <;> simp only [sx4, encs, kpLL_map, sxR, sevalprocAttr] <;> (try simp) <;> (try omega)
   ·have encs := And.intro encs (eq_false h3)
    rw [show ahM m = 0 by rw [ahM, if_neg h1, if_neg h2, if_neg h3]]
    refine Ctr.of (rs := [.cell 2 122]) Tok true Tryz.func89 rfl rfl rfl rfl (by simp [ofDL]) (fun w0 kp => ?_)
    simp only [↓sx0, sxE, encs, sevalprocAttr]
    repeat ((with_reducible refine Vc.go ?_ fun _ => ?_); (focus (first | omega | (simp only [InK]; omega) | (simp [InK]; done) | (simp [InK]; omega))); simp only [↓sx0, sxE, encs, sevalprocAttr])
    refine EndW.fn ?_ ?_ <;> simp only [sx4, encs, kpLL_map, sxR, sevalprocAttr] <;> (try simp) <;> (try omega)
theorem ahM_b (m : Mk) : 0 ≤ ahM m ∧ ahM m ≤ 2 := by unfold ahM; repeat' split <;> omega
theorem lenM_b (m : Mk) : -1 ≤ lenM m ∧ lenM m ≤ 1 := by unfold lenM; repeat' split <;> omega
theorem shM_b (m : Mk) : -1 ≤ shM m ∧ shM m ≤ 1 := by unfold shM; repeat' split <;> omega
theorem behind_s (m : Mk) (hw : 0 ≤ m.word ∧ m.word ≤ 1000) : Ctr Tryz.prog 90 [mV m] (fun rr => rr = ⟨.agg [(.v (.int .i64 m.word)), (.v (.int .i64 (m.word + ahM m + lenM m)))], []⟩) := by
 have h1 := ahM_b m
 have h2 := lenM_b m
 refine Ctr.of (rs := [.cell 2 122]) Tok true Tryz.func90 rfl rfl rfl rfl (by simp [ofDL]) (fun w0 kp => ?_)
 simp only [↓sx0, sxE, encs, sevalprocAttr]
 refine CallI.fn (ahead_s m hw) (by simp only [sx3, encs, sxR, sevalprocAttr] <;> (try simp) <;> (try rfl)) ?_
 simp only [↓sx0, sxE, encs, sevalprocAttr]
 refine DrawW.plan Tok mixed (.q 0 <| .q 1 <| .q 2 <| .e 3 [1] <| .q 4 <| .q 5 <| .e 6 [] <| .done) (by kernel_rfl) (by kernel_rfl) ?_
 simp only [↓sx0, sxE, encs, sevalprocAttr]
 refine CallI.fn (lengthens_s m) (by simp only [sx3, encs, sxR, sevalprocAttr] <;> (try simp) <;> (try rfl)) ?_
 simp only [↓sx0, sxE, encs, sevalprocAttr]
 repeat ((with_reducible refine Vc.go ?_ fun _ => ?_); (focus (first | omega | (simp only [InK]; omega) | (simp [InK]; done) | (simp [InK]; omega))); simp only [↓sx0, sxE, encs, sevalprocAttr])
 refine EndW.fn ?_ ?_ <;> simp only [sx4, encs, kpLL_map, sxR, sevalprocAttr] <;> (try simp) <;> (try omega)
theorem indexM_s (b : Bool) (f : Nat) (p : Mk → Bool) (l : List Mk) (hl : l.length ≤ 1000000000) (hof : ∀ x ∈ l, Ctr Tryz.prog f [mV x] (fun rr => rr = ⟨(.v (.bool (p x))), []⟩)) : Ctr Tryz.prog 72 [.sl b 7 (l.map eM), .clo f []] (fun rr => rr = ⟨(.v (.int .i64 (ixG p l))), []⟩) := by
 refine Ctr.of (rs := [.tmp 4]) Tok true Tryz.func72 rfl rfl rfl rfl (by simp [ofDL]) (fun w0 kp => ?_)
 simp only [↓sx0, sxE, encs, sevalprocAttr]
 refine LoopW.comp [0, 1, 7, 8] (by simp only [sx2, encs, sxR, sevalprocAttr] <;> (try simp) <;> (try omega)) ?_
 simp only [sx2, sxR, sevalprocAttr]
 refine LoopW.up Tok (fun k : Nat => [(8, (.v (.int .i64 k)))]) (fun k => []) (fun k => []) (fun k => []) (fun k => k ≤ l.length ∧ ∀ j (_ : j < k) (h2 : j < l.length), p l[j] = false) (fun k => l.length - k) (0) (by simp only [sx2, encs, sxR, sevalprocAttr] <;> (try simp) <;> (try omega)) ?_ ?_
 ·exact ⟨by omega, fun j h => absurd h (Nat.not_lt_zero _)⟩
 rintro k ⟨hk, ht⟩
 simp only [↓sx0, sxE, encs, sevalprocAttr]
 refine BrW.dec (fun hlt => ?_) (fun hlt => ?_)
 ·simp only [↓sx0, sxE, encs, sevalprocAttr]
  have hlt : k < l.length := by omega
  refine IxW.nat hlt ?_
  simp only [↓sx0, sxE, encs, sevalprocAttr]
  refine CallI.fn (hof l[k] (List.getElem_mem hlt)) (by simp only [sx3, encs, sxR, sevalprocAttr] <;> (try simp) <;> (try rfl)) ?_
  simp only [↓sx0, sxE, encs, sevalprocAttr]
  refine BrW.of (fun hb => ?_) (fun hb => ?_)
  ·simp only [↓sx0, sxE, encs, sevalprocAttr]
   have := ixG_at hlt hb ht
   refine EndW.fn ?_ ?_ <;> simp only [sx4, encs, kpLL_map, sxR, sevalprocAttr] <;> (try simp [this]) <;> (try omega)
  ·simp only [↓sx0, sxE, encs, sevalprocAttr]
   (with_reducible refine Vc.go ?_ fun _ => ?_); focus (first | omega | (simp only [InK]; omega) | (simp [InK]; done) | (simp [InK]; omega))
   simp only [↓sx0, sxE, encs, sevalprocAttr]
   refine ⟨k + 1, StLe.auto (by simp only [sx2, encs, sxR, sevalprocAttr] <;> (try simp) <;> (try omega)), ?_, ?_⟩
   ·refine ⟨hlt, fun j h h2 => ?_⟩
    by_cases e : j = k
    ·subst e; exact hb
    ·exact ht j (by omega) h2
   ·omega
 ·simp only [↓sx0, sxE, encs, sevalprocAttr]
  have hke : k = l.length := by omega
  subst hke
  have := ixG_no (l := l) (p := p) fun j h => ht j h h
  refine EndW.fn ?_ ?_ <;> simp only [sx4, encs, kpLL_map, sxR, sevalprocAttr] <;> (try simp [this]) <;> (try omega)
theorem containsM_s (b : Bool) (f : Nat) (p : Mk → Bool) (l : List Mk) (hl : l.length ≤ 1000000000) (hof : ∀ x ∈ l, Ctr Tryz.prog f [mV x] (fun rr => rr = ⟨(.v (.bool (p x))), []⟩)) : Ctr Tryz.prog 51 [.sl b 7 (l.map eM), .clo f []] (fun rr => rr = ⟨(.v (.bool (l.any p))), []⟩) := by
 refine Ctr.of (rs := [.tmp 4]) Tok true Tryz.func51 rfl rfl rfl rfl (by simp [ofDL]) (fun w0 kp => ?_)
 simp only [↓sx0, sxE, encs, sevalprocAttr]
 refine CallI.fn (indexM_s b f p l hl hof) (by simp only [sx3, encs, sxR, sevalprocAttr] <;> (try simp) <;> (try rfl)) ?_
 simp only [↓sx0, sxE, encs, sevalprocAttr]
 rw [ixG_any]
 refine EndW.fn ?_ ?_ <;> simp only [sx4, encs, kpLL_map, sxR, sevalprocAttr] <;> (try simp) <;> (try omega)
def p0B (m : Mk) : Bool := ptsB m && decide (m.word = 0)
theorem swapped1_s (m : Mk) : Ctr Tryz.prog 52 [mV m] (fun rr => rr = ⟨(.v (.bool (p0B m))), []⟩) := by
 refine Ctr.of (rs := [.tmp 2]) Tok true Tryz.func52 rfl rfl rfl rfl (by simp [ofDL]) (fun w0 kp => ?_)
 simp only [↓sx0, sxE, encs, sevalprocAttr]
 refine CallI.fn (parts_s m) (by simp only [sx3, encs, sxR, sevalprocAttr] <;> (try simp) <;> (try rfl)) ?_
 simp only [↓sx0, sxE, encs, sevalprocAttr]
 refine BrW.of (fun h => ?_) (fun h => ?_)
 ·simp only [↓sx0, sxE, encs, sevalprocAttr]
  rw [show p0B m = decide (m.word = 0) by rw [p0B, h, Bool.true_and]]
  refine EndW.fn ?_ ?_ <;> simp only [sx4, encs, kpLL_map, sxR, sevalprocAttr] <;> (try simp) <;> (try omega)
 ·simp only [↓sx0, sxE, encs, sevalprocAttr]
  rw [show p0B m = false by rw [p0B, h, Bool.false_and]]
  refine EndW.fn ?_ ?_ <;> simp only [sx4, encs, kpLL_map, sxR, sevalprocAttr] <;> (try simp) <;> (try omega)
end Go.Proofs.YthkkcemefngeiaaGreat
/-
 Chapter 8, walks: two marks in the other order, where none breaks or joins.
-/
namespace Go.Proofs.YthkkcemefngeiaaGreat
open Go Go.Vx
set_option linter.unusedSimpArgs false
set_option linter.unusedVariables false
set_option maxRecDepth 20000
def wordsP (a b : Mk) : Option (Mk × Mk) :=
 if b.word + ahM b ≤ a.word then some ({ a with word := a.word + lenM b }, b)
 else if a.word + ahM a + lenM a ≤ b.word then some (a, { b with word := b.word - lenM a }) else none
def quietP (a b : Mk) : Option (Mk × Mk) :=
 if a.part ≠ b.part then some (a, b) else if owB a = true ∧ owB b = true then wordsP a b else if owB a = true ∨ owB b = true then some (a, b) else none
def mk0 : Mk := ⟨0, 0, 0, ⟨#[]⟩, ⟨#[]⟩, 0, 0⟩
/-- both in the other order, with the error. -/
def swapF (r : Option (Mk × Mk)) : (Mk × Mk) × Int :=
 match r with
 | none => ((mk0, mk0), 13)
 | some (a, b) => if inR a = true ∧ inR b = true then (if p0B b = true ∨ p0B a = true then ((mk0, mk0), 3) else ((b, a), 0)) else ((mk0, mk0), 2)
def prSV (p : Mk × Mk) : SV := .agg [.v (.int .i64 p.1.mark), .v (.int .i64 p.1.part), .v (.int .i64 p.1.word), .v (.string p.1.old), .v (.string p.1.new), .v (.int .i64 p.1.was), .v (.int .i64 p.1.kind), .v (.int .i64 p.2.mark), .v (.int .i64 p.2.part), .v (.int .i64 p.2.word), .v (.string p.2.old), .v (.string p.2.new), .v (.int .i64 p.2.was), .v (.int .i64 p.2.kind)]
theorem prE : (∀ p, prSV p = .agg [.v (.int .i64 p.1.mark), .v (.int .i64 p.1.part), .v (.int .i64 p.1.word), .v (.string p.1.old), .v (.string p.1.new), .v (.int .i64 p.1.was), .v (.int .i64 p.1.kind), .v (.int .i64 p.2.mark), .v (.int .i64 p.2.part), .v (.int .i64 p.2.word), .v (.string p.2.old), .v (.string p.2.new), .v (.int .i64 p.2.was), .v (.int .i64 p.2.kind)]) ∧ mk0 = ⟨0, 0, 0, ⟨#[]⟩, ⟨#[]⟩, 0, 0⟩ := ⟨fun _ => rfl, rfl⟩
theorem inR_b {m : Mk} (h : inR m = true) : (0 ≤ m.part ∧ m.part ≤ 59) ∧ (0 ≤ m.word ∧ m.word ≤ 100) := by
 simpa [inR] using h
set_option maxHeartbeats 8000000 in
theorem swappedQ_s (a b : Mk) (ha : inR a = true) (hb : inR b = true) (h1 : a.mark ≠ 5) (h2 : a.mark ≠ 6) (h3 : b.mark ≠ 5) (h4 : b.mark ≠ 6) : Ctr Tryz.prog 35 [mV a, mV b] (fun rr => rr = ⟨.tup [prSV (swapF (quietP a b)).1, (.v (.int .i64 ((swapF (quietP a b)).2)))], []⟩) := by
 have encs := And.intro encs prE
 obtain ⟨⟨a1, a2⟩, a3, a4⟩ := inR_b ha
 obtain ⟨⟨b1, b2⟩, b3, b4⟩ := inR_b hb
 have la := lenM_b a
 have lb := lenM_b b
 have ah := ahM_b a
 have bh := ahM_b b
 refine Ctr.of (rs := [.cell 4 54, .tmp 5]) Tok true Tryz.func35 rfl rfl rfl rfl (by simp [ofDL]) (fun w0 kp => ?_)
 simp only [↓sx0, sxE, encs, sevalprocAttr]
 refine CallI.inlG (rs := [.tmp 2]) Tok (fun h => by first | cases h; done | rfl) Tryz.func50 rfl rfl rfl rfl (by simp) (fun ρ σ μ fr lp => ?_) (by refine ⟨_, ?_, rfl⟩; rfl)
 simp only [↓sx0, sxE, encs, sevalprocAttr]
 refine BrW.no h1 ?_
 simp only [↓sx0, sxE, encs, sevalprocAttr]
 refine BrW.no h2 ?_
 simp only [↓sx0, sxE, encs, sevalprocAttr]
 refine BrW.no h3 ?_
 simp only [↓sx0, sxE, encs, sevalprocAttr]
 refine BrW.no h4 ?_
 simp only [↓sx0, sxE, encs, sevalprocAttr]
 refine CallI.inlG (rs := [.tmp 2]) Tok (fun h => by first | cases h; done | rfl) Tryz.func71 rfl rfl rfl rfl (by simp) (fun ρ σ μ fr lp => ?_) (by refine ⟨_, ?_, rfl⟩; rfl)
 simp only [↓sx0, sxE, encs, sevalprocAttr]
 refine DrawW.plan Tok mixed (.q 0 <| .q 1 <| .q 2 <| .q 3 <| .q 4 <| .q 5 <| .q 6 <| .q 7 <| .q 8 <| .q 9 <| .q 10 <| .q 11 <| .done) (by kernel_rfl) (by kernel_rfl) ?_
 simp only [↓sx0, sxE, encs, sevalprocAttr]
 refine BrW.dec (fun hpp => ?_) (fun hpp => ?_)
 ·have hq : quietP a b = some (a, b) := by rw [quietP, if_pos hpp]
  rw [hq]
  simp only [↓sx0, sxE, encs, sevalprocAttr]
  refine CallI.fn (inRange_s (a)) (by simp only [sx3, encs, sxR, sevalprocAttr] <;> (try simp) <;> (try rfl)) ?_
  simp only [↓sx0, sxE, encs, sevalprocAttr]
  refine BrW.of (fun r1 => ?_) (fun r1 => ?_)
  ·simp only [↓sx0, sxE, encs, sevalprocAttr]
   refine CallI.fn (inRange_s (b)) (by simp only [sx3, encs, sxR, sevalprocAttr] <;> (try simp) <;> (try rfl)) ?_
   simp only [↓sx0, sxE, encs, sevalprocAttr]
   refine BrW.of (fun r2 => ?_) (fun r2 => ?_)
   ·simp only [↓sx0, sxE, encs, sevalprocAttr]
    refine CallI.fn (containsM_s true 52 p0B [b, a] (by simp) (fun x _ => swapped1_s x)) (by simp only [sx3, encs, sxR, sevalprocAttr] <;> (try simp) <;> (try rfl)) ?_
    simp only [↓sx0, sxE, encs, sevalprocAttr]
    refine BrW.of (fun r3 => ?_) (fun r3 => ?_)
    ·simp only [↓sx0, sxE, encs, sevalprocAttr]
     have r3 : p0B (b) = true ∨ p0B (a) = true := by simpa using r3
     rw [show swapF (some (a, b)) = ((mk0, mk0), 3) by simp only [swapF]; rw [if_pos ⟨r1, r2⟩, if_pos r3]]
     refine EndW.fn ?_ ?_ <;> simp only [sx4, encs, kpLL_map, sxR, sevalprocAttr] <;> (try simp) <;> (try omega)
    ·simp only [↓sx0, sxE, encs, sevalprocAttr]
     have r3 : ¬ (p0B (b) = true ∨ p0B (a) = true) := by simpa using r3
     rw [show swapF (some (a, b)) = ((b, a), 0) by simp only [swapF]; rw [if_pos ⟨r1, r2⟩, if_neg r3]]
     refine EndW.fn ?_ ?_ <;> simp only [sx4, encs, kpLL_map, sxR, sevalprocAttr] <;> (try simp) <;> (try omega)
   ·simp only [↓sx0, sxE, encs, sevalprocAttr]
    rw [show swapF (some (a, b)) = ((mk0, mk0), 2) by simp only [swapF]; rw [if_neg (by rw [r2]; simp)]]
    refine EndW.fn ?_ ?_ <;> simp only [sx4, encs, kpLL_map, sxR, sevalprocAttr] <;> (try simp) <;> (try omega)
  ·simp only [↓sx0, sxE, encs, sevalprocAttr]
   rw [show swapF (some (a, b)) = ((mk0, mk0), 2) by simp only [swapF]; rw [if_neg (by rw [r1]; simp)]]
   refine EndW.fn ?_ ?_ <;> simp only [sx4, encs, kpLL_map, sxR, sevalprocAttr] <;> (try simp) <;> (try omega)
 ·have hpp : a.part = b.part := Decidable.not_not.1 hpp
  simp only [↓sx0, sxE, encs, sevalprocAttr]
  refine CallI.fn (ofWords_s a) (by simp only [sx3, encs, sxR, sevalprocAttr] <;> (try simp) <;> (try rfl)) ?_
  simp only [↓sx0, sxE, encs, sevalprocAttr]
  have cases : owB a = true → owB b = true → quietP a b = wordsP a b := fun u v => by rw [quietP, if_neg (by simp [hpp]), if_pos ⟨u, v⟩]
  have cases2 : ¬ (owB a = true ∧ owB b = true) → (owB a = true ∨ owB b = true) → quietP a b = some (a, b) := fun u v => by rw [quietP, if_neg (by simp [hpp]), if_neg u, if_pos v]
  have cases3 : ¬ (owB a = true ∨ owB b = true) → quietP a b = none := fun u => by rw [quietP, if_neg (by simp [hpp]), if_neg (fun h => u (.inl h.1)), if_neg u]
  refine BrW.of (fun o1 => ?_) (fun o1 => ?_)
  ·simp only [↓sx0, sxE, encs, sevalprocAttr]
   refine CallI.fn (ofWords_s b) (by simp only [sx3, encs, sxR, sevalprocAttr] <;> (try simp) <;> (try rfl)) ?_
   simp only [↓sx0, sxE, encs, sevalprocAttr]
   refine BrW.of (fun o2 => ?_) (fun o2 => ?_)
   ·simp only [↓sx0, sxE, encs, sevalprocAttr]
    have hc := cases o1 o2
    rw [hc]
    refine CallI.inlG (rs := [.tmp 2]) Tok (fun h => by first | cases h; done | rfl) Tryz.func91 rfl rfl rfl rfl (by simp) (fun ρ σ μ fr lp => ?_) (by refine ⟨_, ?_, rfl⟩; rfl)
    simp only [↓sx0, sxE, encs, sevalprocAttr]
    refine DrawW.plan Tok mixed (.q 0 <| .q 1 <| .q 2 <| .q 3 <| .q 4 <| .q 5 <| .q 6 <| .q 7 <| .e2 8 [1, 3, 5, 7] (.e 9 [1, 3, 5, 7] <| .e 10 [5, 7] <| .e 11 [] <| .done) 9 [1, 3, 5, 7] (.e 8 [1, 3, 5, 7] <| .e 10 [5, 7] <| .e 11 [] <| .done)) (by kernel_rfl) (by kernel_rfl) ?_
    simp only [↓sx0, sxE, encs, sevalprocAttr]
    repeat' (first
     | refine ⟨?_, ?_⟩
     | fail)
    all_goals (
     skip
     refine DrawW.plan Tok mixed (.q 0 <| .q 3 <| .q 4 <| .e 1 [4] <| .q 2 <| .q 5 <| .q 6 <| .done) (by kernel_rfl) (by kernel_rfl) ?_
     simp only [↓sx0, sxE, encs, sevalprocAttr]
     refine CallI.fn (ahead_s b ⟨b3, by omega⟩) (by simp only [sx3, encs, sxR, sevalprocAttr] <;> (try simp) <;> (try rfl)) ?_
     simp only [↓sx0, sxE, encs, sevalprocAttr]
     refine BrW.dec (fun w1 => ?_) (fun w1 => ?_)
     ·rw [show wordsP a b = some ({ a with word := a.word + lenM b }, b) by rw [wordsP, if_pos w1]]
      simp only [↓sx0, sxE, encs, sevalprocAttr]
      refine DrawW.plan Tok mixed (.q 0 <| .q 1 <| .q 2 <| .q 3 <| .q 4 <| .q 5 <| .e 6 [1, 4] <| .q 7 <| .q 8 <| .q 9 <| .e 10 [] <| .done) (by kernel_rfl) (by kernel_rfl) ?_
      simp only [↓sx0, sxE, encs, sevalprocAttr]
      refine CallI.fn (lengthens_s b) (by simp only [sx3, encs, sxR, sevalprocAttr] <;> (try simp) <;> (try rfl)) ?_
      simp only [↓sx0, sxE, encs, sevalprocAttr]
      repeat ((with_reducible refine Vc.go ?_ fun _ => ?_); (focus (first | omega | (simp only [InK]; omega) | (simp [InK]; done) | (simp [InK]; omega))); simp only [↓sx0, sxE, encs, sevalprocAttr])
      refine CallI.fn (inRange_s ({ a with word := a.word + lenM b })) (by simp only [sx3, encs, sxR, sevalprocAttr] <;> (try simp) <;> (try rfl)) ?_
      simp only [↓sx0, sxE, encs, sevalprocAttr]
      refine BrW.of (fun r1 => ?_) (fun r1 => ?_)
      ·simp only [↓sx0, sxE, encs, sevalprocAttr]
       refine CallI.fn (inRange_s (b)) (by simp only [sx3, encs, sxR, sevalprocAttr] <;> (try simp) <;> (try rfl)) ?_
       simp only [↓sx0, sxE, encs, sevalprocAttr]
       refine BrW.of (fun r2 => ?_) (fun r2 => ?_)
       ·simp only [↓sx0, sxE, encs, sevalprocAttr]
        refine CallI.fn (containsM_s true 52 p0B [b, { a with word := a.word + lenM b }] (by simp) (fun x _ => swapped1_s x)) (by simp only [sx3, encs, sxR, sevalprocAttr] <;> (try simp) <;> (try rfl)) ?_
        simp only [↓sx0, sxE, encs, sevalprocAttr]
        refine BrW.of (fun r3 => ?_) (fun r3 => ?_)
        ·simp only [↓sx0, sxE, encs, sevalprocAttr]
         have r3 : p0B (b) = true ∨ p0B ({ a with word := a.word + lenM b }) = true := by simpa using r3
         rw [show swapF (some ({ a with word := a.word + lenM b }, b)) = ((mk0, mk0), 3) by simp only [swapF]; rw [if_pos ⟨r1, r2⟩, if_pos r3]]
         refine EndW.fn ?_ ?_ <;> simp only [sx4, encs, kpLL_map, sxR, sevalprocAttr] <;> (try simp) <;> (try omega)
        ·simp only [↓sx0, sxE, encs, sevalprocAttr]
         have r3 : ¬ (p0B (b) = true ∨ p0B ({ a with word := a.word + lenM b }) = true) := by simpa using r3
         rw [show swapF (some ({ a with word := a.word + lenM b }, b)) = ((b, { a with word := a.word + lenM b }), 0) by simp only [swapF]; rw [if_pos ⟨r1, r2⟩, if_neg r3]]
         refine EndW.fn ?_ ?_ <;> simp only [sx4, encs, kpLL_map, sxR, sevalprocAttr] <;> (try simp) <;> (try omega)
       ·simp only [↓sx0, sxE, encs, sevalprocAttr]
        rw [show swapF (some ({ a with word := a.word + lenM b }, b)) = ((mk0, mk0), 2) by simp only [swapF]; rw [if_neg (by rw [r2]; simp)]]
        refine EndW.fn ?_ ?_ <;> simp only [sx4, encs, kpLL_map, sxR, sevalprocAttr] <;> (try simp) <;> (try omega)
      ·simp only [↓sx0, sxE, encs, sevalprocAttr]
       rw [show swapF (some ({ a with word := a.word + lenM b }, b)) = ((mk0, mk0), 2) by simp only [swapF]; rw [if_neg (by rw [r1]; simp)]]
       refine EndW.fn ?_ ?_ <;> simp only [sx4, encs, kpLL_map, sxR, sevalprocAttr] <;> (try simp) <;> (try omega)
     ·simp only [↓sx0, sxE, encs, sevalprocAttr]
      refine DrawW.plan Tok mixed (.q 0 <| .q 3 <| .e 1 [3] <| .q 2 <| .e 4 [] <| .q 5 <| .q 6 <| .q 7 <| .done) (by kernel_rfl) (by kernel_rfl) ?_
      simp only [↓sx0, sxE, encs, sevalprocAttr]
      refine CallI.fn (ahead_s b ⟨b3, by omega⟩) (by simp only [sx3, encs, sxR, sevalprocAttr] <;> (try simp) <;> (try rfl)) ?_
      simp only [↓sx0, sxE, encs, sevalprocAttr]
      refine CallI.fn (behind_s a ⟨a3, by omega⟩) (by simp only [sx3, encs, sxR, sevalprocAttr] <;> (try simp) <;> (try rfl)) ?_
      simp only [↓sx0, sxE, encs, sevalprocAttr]
      refine BrW.dec (fun w2 => ?_) (fun w2 => ?_)
      ·rw [show wordsP a b = some (a, { b with word := b.word - lenM a }) by rw [wordsP, if_neg w1, if_pos w2]]
       simp only [↓sx0, sxE, encs, sevalprocAttr]
       refine DrawW.plan Tok mixed (.q 0 <| .q 1 <| .q 2 <| .q 3 <| .q 4 <| .q 5 <| .e 6 [1, 4] <| .q 7 <| .q 8 <| .q 9 <| .e 10 [] <| .done) (by kernel_rfl) (by kernel_rfl) ?_
       simp only [↓sx0, sxE, encs, sevalprocAttr]
       refine CallI.fn (lengthens_s a) (by simp only [sx3, encs, sxR, sevalprocAttr] <;> (try simp) <;> (try rfl)) ?_
       simp only [↓sx0, sxE, encs, sevalprocAttr]
       repeat ((with_reducible refine Vc.go ?_ fun _ => ?_); (focus (first | omega | (simp only [InK]; omega) | (simp [InK]; done) | (simp [InK]; omega))); simp only [↓sx0, sxE, encs, sevalprocAttr])
       refine CallI.fn (inRange_s (a)) (by simp only [sx3, encs, sxR, sevalprocAttr] <;> (try simp) <;> (try rfl)) ?_
       simp only [↓sx0, sxE, encs, sevalprocAttr]
       refine BrW.of (fun r1 => ?_) (fun r1 => ?_)
       ·simp only [↓sx0, sxE, encs, sevalprocAttr]
        refine CallI.fn (inRange_s ({ b with word := b.word - lenM a })) (by simp only [sx3, encs, sxR, sevalprocAttr] <;> (try simp) <;> (try rfl)) ?_
        simp only [↓sx0, sxE, encs, sevalprocAttr]
        refine BrW.of (fun r2 => ?_) (fun r2 => ?_)
        ·simp only [↓sx0, sxE, encs, sevalprocAttr]
         refine CallI.fn (containsM_s true 52 p0B [{ b with word := b.word - lenM a }, a] (by simp) (fun x _ => swapped1_s x)) (by simp only [sx3, encs, sxR, sevalprocAttr] <;> (try simp) <;> (try rfl)) ?_
         simp only [↓sx0, sxE, encs, sevalprocAttr]
         refine BrW.of (fun r3 => ?_) (fun r3 => ?_)
         ·simp only [↓sx0, sxE, encs, sevalprocAttr]
          have r3 : p0B ({ b with word := b.word - lenM a }) = true ∨ p0B (a) = true := by simpa using r3
          rw [show swapF (some (a, { b with word := b.word - lenM a })) = ((mk0, mk0), 3) by simp only [swapF]; rw [if_pos ⟨r1, r2⟩, if_pos r3]]
          refine EndW.fn ?_ ?_ <;> simp only [sx4, encs, kpLL_map, sxR, sevalprocAttr] <;> (try simp) <;> (try omega)
         ·simp only [↓sx0, sxE, encs, sevalprocAttr]
          have r3 : ¬ (p0B ({ b with word := b.word - lenM a }) = true ∨ p0B (a) = true) := by simpa using r3
          rw [show swapF (some (a, { b with word := b.word - lenM a })) = (({ b with word := b.word - lenM a }, a), 0) by simp only [swapF]; rw [if_pos ⟨r1, r2⟩, if_neg r3]]
          refine EndW.fn ?_ ?_ <;> simp only [sx4, encs, kpLL_map, sxR, sevalprocAttr] <;> (try simp) <;> (try omega)
        ·simp only [↓sx0, sxE, encs, sevalprocAttr]
         rw [show swapF (some (a, { b with word := b.word - lenM a })) = ((mk0, mk0), 2) by simp only [swapF]; rw [if_neg (by rw [r2]; simp)]]
         refine EndW.fn ?_ ?_ <;> simp only [sx4, encs, kpLL_map, sxR, sevalprocAttr] <;> (try simp) <;> (try omega)
       ·simp only [↓sx0, sxE, encs, sevalprocAttr]
        rw [show swapF (some (a, { b with word := b.word - lenM a })) = ((mk0, mk0), 2) by simp only [swapF]; rw [if_neg (by rw [r1]; simp)]]
        refine EndW.fn ?_ ?_ <;> simp only [sx4, encs, kpLL_map, sxR, sevalprocAttr] <;> (try simp) <;> (try omega)
      ·have hq : wordsP a b = none := by rw [wordsP, if_neg w1, if_neg w2]
       simp only [↓sx0, sxE, encs, sevalprocAttr]
       rw [hq, show swapF none = ((mk0, mk0), 13) from rfl]
       refine EndW.fn ?_ ?_ <;> simp only [sx4, encs, kpLL_map, sxR, sevalprocAttr] <;> (try simp) <;> (try omega) )
   ·simp only [↓sx0, sxE, encs, sevalprocAttr]
    have hq := cases2 (fun h => by rw [o2] at h; simp at h) (.inl o1)
    rw [hq]
    refine CallI.fn (ofWords_s a) (by simp only [sx3, encs, sxR, sevalprocAttr] <;> (try simp) <;> (try rfl)) ?_
    simp only [↓sx0, sxE, encs, sevalprocAttr]
    refine BrW.tt o1 ?_
    simp only [↓sx0, sxE, encs, sevalprocAttr]
    refine CallI.fn (inRange_s (a)) (by simp only [sx3, encs, sxR, sevalprocAttr] <;> (try simp) <;> (try rfl)) ?_
    simp only [↓sx0, sxE, encs, sevalprocAttr]
    refine BrW.of (fun r1 => ?_) (fun r1 => ?_)
    ·simp only [↓sx0, sxE, encs, sevalprocAttr]
     refine CallI.fn (inRange_s (b)) (by simp only [sx3, encs, sxR, sevalprocAttr] <;> (try simp) <;> (try rfl)) ?_
     simp only [↓sx0, sxE, encs, sevalprocAttr]
     refine BrW.of (fun r2 => ?_) (fun r2 => ?_)
     ·simp only [↓sx0, sxE, encs, sevalprocAttr]
      refine CallI.fn (containsM_s true 52 p0B [b, a] (by simp) (fun x _ => swapped1_s x)) (by simp only [sx3, encs, sxR, sevalprocAttr] <;> (try simp) <;> (try rfl)) ?_
      simp only [↓sx0, sxE, encs, sevalprocAttr]
      refine BrW.of (fun r3 => ?_) (fun r3 => ?_)
      ·simp only [↓sx0, sxE, encs, sevalprocAttr]
       have r3 : p0B (b) = true ∨ p0B (a) = true := by simpa using r3
       rw [show swapF (some (a, b)) = ((mk0, mk0), 3) by simp only [swapF]; rw [if_pos ⟨r1, r2⟩, if_pos r3]]
       refine EndW.fn ?_ ?_ <;> simp only [sx4, encs, kpLL_map, sxR, sevalprocAttr] <;> (try simp) <;> (try omega)
      ·simp only [↓sx0, sxE, encs, sevalprocAttr]
       have r3 : ¬ (p0B (b) = true ∨ p0B (a) = true) := by simpa using r3
       rw [show swapF (some (a, b)) = ((b, a), 0) by simp only [swapF]; rw [if_pos ⟨r1, r2⟩, if_neg r3]]
       refine EndW.fn ?_ ?_ <;> simp only [sx4, encs, kpLL_map, sxR, sevalprocAttr] <;> (try simp) <;> (try omega)
     ·simp only [↓sx0, sxE, encs, sevalprocAttr]
      rw [show swapF (some (a, b)) = ((mk0, mk0), 2) by simp only [swapF]; rw [if_neg (by rw [r2]; simp)]]
      refine EndW.fn ?_ ?_ <;> simp only [sx4, encs, kpLL_map, sxR, sevalprocAttr] <;> (try simp) <;> (try omega)
    ·simp only [↓sx0, sxE, encs, sevalprocAttr]
     rw [show swapF (some (a, b)) = ((mk0, mk0), 2) by simp only [swapF]; rw [if_neg (by rw [r1]; simp)]]
     refine EndW.fn ?_ ?_ <;> simp only [sx4, encs, kpLL_map, sxR, sevalprocAttr] <;> (try simp) <;> (try omega)
  ·simp only [↓sx0, sxE, encs, sevalprocAttr]
   refine CallI.fn (ofWords_s a) (by simp only [sx3, encs, sxR, sevalprocAttr] <;> (try simp) <;> (try rfl)) ?_
   simp only [↓sx0, sxE, encs, sevalprocAttr]
   refine BrW.ff o1 ?_
   simp only [↓sx0, sxE, encs, sevalprocAttr]
   refine CallI.fn (ofWords_s b) (by simp only [sx3, encs, sxR, sevalprocAttr] <;> (try simp) <;> (try rfl)) ?_
   simp only [↓sx0, sxE, encs, sevalprocAttr]
   refine BrW.of (fun o2 => ?_) (fun o2 => ?_)
   ·have hq := cases2 (fun h => by rw [o1] at h; simp at h) (.inr o2)
    rw [hq]
    simp only [↓sx0, sxE, encs, sevalprocAttr]
    refine CallI.fn (inRange_s (a)) (by simp only [sx3, encs, sxR, sevalprocAttr] <;> (try simp) <;> (try rfl)) ?_
    simp only [↓sx0, sxE, encs, sevalprocAttr]
    refine BrW.of (fun r1 => ?_) (fun r1 => ?_)
    ·simp only [↓sx0, sxE, encs, sevalprocAttr]
     refine CallI.fn (inRange_s (b)) (by simp only [sx3, encs, sxR, sevalprocAttr] <;> (try simp) <;> (try rfl)) ?_
     simp only [↓sx0, sxE, encs, sevalprocAttr]
     refine BrW.of (fun r2 => ?_) (fun r2 => ?_)
     ·simp only [↓sx0, sxE, encs, sevalprocAttr]
      refine CallI.fn (containsM_s true 52 p0B [b, a] (by simp) (fun x _ => swapped1_s x)) (by simp only [sx3, encs, sxR, sevalprocAttr] <;> (try simp) <;> (try rfl)) ?_
      simp only [↓sx0, sxE, encs, sevalprocAttr]
      refine BrW.of (fun r3 => ?_) (fun r3 => ?_)
      ·simp only [↓sx0, sxE, encs, sevalprocAttr]
       have r3 : p0B (b) = true ∨ p0B (a) = true := by simpa using r3
       rw [show swapF (some (a, b)) = ((mk0, mk0), 3) by simp only [swapF]; rw [if_pos ⟨r1, r2⟩, if_pos r3]]
       refine EndW.fn ?_ ?_ <;> simp only [sx4, encs, kpLL_map, sxR, sevalprocAttr] <;> (try simp) <;> (try omega)
      ·simp only [↓sx0, sxE, encs, sevalprocAttr]
       have r3 : ¬ (p0B (b) = true ∨ p0B (a) = true) := by simpa using r3
       rw [show swapF (some (a, b)) = ((b, a), 0) by simp only [swapF]; rw [if_pos ⟨r1, r2⟩, if_neg r3]]
       refine EndW.fn ?_ ?_ <;> simp only [sx4, encs, kpLL_map, sxR, sevalprocAttr] <;> (try simp) <;> (try omega)
     ·simp only [↓sx0, sxE, encs, sevalprocAttr]
      rw [show swapF (some (a, b)) = ((mk0, mk0), 2) by simp only [swapF]; rw [if_neg (by rw [r2]; simp)]]
      refine EndW.fn ?_ ?_ <;> simp only [sx4, encs, kpLL_map, sxR, sevalprocAttr] <;> (try simp) <;> (try omega)
    ·simp only [↓sx0, sxE, encs, sevalprocAttr]
     rw [show swapF (some (a, b)) = ((mk0, mk0), 2) by simp only [swapF]; rw [if_neg (by rw [r1]; simp)]]
     refine EndW.fn ?_ ?_ <;> simp only [sx4, encs, kpLL_map, sxR, sevalprocAttr] <;> (try simp) <;> (try omega)
   ·have hq := cases3 (fun h => by rw [o1, o2] at h; simp at h)
    simp only [↓sx0, sxE, encs, sevalprocAttr]
    rw [hq, show swapF none = ((mk0, mk0), 13) from rfl]
    refine EndW.fn ?_ ?_ <;> simp only [sx4, encs, kpLL_map, sxR, sevalprocAttr] <;> (try simp) <;> (try omega)
end Go.Proofs.YthkkcemefngeiaaGreat
