/-
 Chapter 6, walks: the law of folds.
-/
import Derived.Test.YteajjcbinnjgaaaGreatDoorVW34
import Derived.Test.YteajjcbinnjgaaaGreatDoorVP6Each
namespace Go.Proofs.YteajjcbinnjgaaaGreatDoor
open Go Go.Vx
set_option linter.unusedSimpArgs false
set_option maxRecDepth 20000
theorem folded_run {cn rn : Nat} {l : List Fold} (hs : sheetErr cn rn = 0) (hl : l.length ≤ 12) : foldedS cn rn l = if (runR cn rn l).2.2 ≠ 0 then ([], (runR cn rn l).2.1, (runR cn rn l).2.2) else if 1 < (runR cn rn l).1.ls.length then ([], l.length, 25) else ((runR cn rn l).1.ls.headD [], 0, 0) := by
 have hne := run_err l (flatP cn rn) 0
 unfold foldedS runR
 rw [if_neg (by simpa using hs), if_neg (by omega), Int.toNat_natCast, Int.toNat_natCast]
 generalize foldRun (flatP cn rn) 0 l = q at *
 obtain ⟨q, _ | ⟨i, e⟩⟩ := q
 ·rfl
 ·have := hne i e rfl
  simp [this]
theorem run_good1 {cn rn : Nat} {l : List Fold} (hc : 1 ≤ cn ∧ cn ≤ 8) (hr : 1 ≤ rn ∧ rn ≤ 8) (h : (runR cn rn l).2.2 = 0) : ∃ h', (runR cn rn l).1.Good h' := by
 have hne := run_err l (flatP cn rn) 0
 have hp := run_perm l (flatP cn rn) 0 1 (flatP_good (by omega) (by omega) (by omega) (by omega))
 unfold runR at h ⊢
 generalize foldRun (flatP cn rn) 0 l = q at *
 obtain ⟨q, _ | ⟨i, e⟩⟩ := q
 ·exact (hp rfl).2
 ·exact absurd h (hne i e rfl)
theorem checkFoldsR_s (b : Bool) (c r : Int) (l : List Fold) : Ctr Tryz.prog 12 [.agg [(.v (.int .i64 c)), (.v (.int .i64 r))], .sl b 2 (l.map eF)] (fun rr => rr = ⟨.tup [(.v (.int .i64 ((foldedS c r l).2.1))), (.v (.int .i64 ((foldedS c r l).2.2)))], []⟩) := by
 refine Ctr.of (rs := [.tmp 4, .tmp 5]) Tok true Tryz.func12 rfl rfl rfl rfl (by simp [ofDL]) (fun w0 kp => ?_)
 simp only [↓sx0, sxE, encs, sevalprocAttr]
 repeat ((with_reducible refine Vc.go ?_ fun _ => ?_); (focus (first | omega | (simp only [InK]; omega) | (simp [InK]; done) | (simp [InK]; omega))); simp only [↓sx0, sxE, encs, sevalprocAttr])
 refine CallI.fn (checkSheetR_s c r) (by simp only [sx3, encs, sxR, sevalprocAttr] <;> (try simp) <;> (try rfl)) ?_
 simp only [↓sx0, sxE, encs, sevalprocAttr]
 refine BrW.dec (fun he => ?_) (fun he => ?_)
 ·simp only [↓sx0, sxE, encs, sevalprocAttr]
  refine EndW.fn ?_ ?_ <;> simp only [sx4, encs, kpLL_map, sxR, sevalprocAttr] <;> (try simp [foldedS, he]) <;> (try omega)
 ·have he0 : sheetErr c r = 0 := Decidable.not_not.1 he
  have hsh := sheet_ok he0
  simp only [↓sx0, sxE, encs, sevalprocAttr]
  refine BrW.dec (fun hlen => ?_) (fun hlen => ?_)
  ·simp only [↓sx0, sxE, encs, sevalprocAttr]
   have : 12 < l.length := by omega
   refine EndW.fn ?_ ?_ <;> simp only [sx4, encs, kpLL_map, sxR, sevalprocAttr] <;> (try simp [foldedS, he0, this]) <;> (try omega)
  ·have hlen2 : l.length ≤ 12 := by omega
   obtain ⟨cn, rfl⟩ : ∃ cn : Nat, c = cn := ⟨c.toNat, by omega⟩
   obtain ⟨rn, rfl⟩ : ∃ rn : Nat, r = rn := ⟨r.toNat, by omega⟩
   have hfr := folded_run (l := l) he0 hlen2
   simp only [↓sx0, sxE, encs, sevalprocAttr]
   repeat ((with_reducible refine Vc.go ?_ fun _ => ?_); (focus (first | omega | (simp only [InK]; omega) | (simp [InK]; done) | (simp [InK]; omega))); simp only [↓sx0, sxE, encs, sevalprocAttr])
   refine CallI.fn (foldedR_s b cn rn l (by omega) (by omega) hlen2) (by simp only [sx3, encs, sxR, sevalprocAttr] <;> (try simp) <;> (try rfl)) ?_
   simp only [↓sx0, sxE, encs, sevalprocAttr]
   refine BrW.dec (fun h1 => ?_) (fun h1 => ?_)
   ·simp only [↓sx0, sxE, encs, sevalprocAttr]
    refine EndW.fn ?_ ?_ <;> simp only [sx4, encs, kpLL_map, sxR, sevalprocAttr] <;> (try simp [hfr, h1]) <;> (try omega)
   ·have h10 : (runR cn rn l).2.2 = 0 := Decidable.not_not.1 h1
    obtain ⟨h', hg⟩ := run_good1 (by omega) (by omega) h10
    have hpl := hg.len
    have hpos : 1 * 1 ≤ (runR cn rn l).1.rows * (runR cn rn l).1.cols := Nat.mul_le_mul hg.r1 hg.c1
    simp only [↓sx0, sxE, encs, sevalprocAttr]
    refine BrW.dec (fun h2 => ?_) (fun h2 => ?_)
    ·have h3 : 1 < (runR cn rn l).1.ls.length := by omega
     simp only [↓sx0, sxE, encs, sevalprocAttr]
     refine EndW.fn ?_ ?_ <;> simp only [sx4, encs, kpLL_map, sxR, sevalprocAttr] <;> (try simp [hfr, h10, h3]) <;> (try omega)
    ·have h3 : ¬ 1 < (runR cn rn l).1.ls.length := by omega
     simp only [↓sx0, sxE, encs, sevalprocAttr]
     refine EndW.fn ?_ ?_ <;> simp only [sx4, encs, kpLL_map, sxR, sevalprocAttr] <;> (try simp [hfr, h10, h3]) <;> (try omega)
def seenA (c : Int) (s : List Leaf) (k : Nat) : List Int := (s.take k).map (atI c)
end Go.Proofs.YteajjcbinnjgaaaGreatDoor
