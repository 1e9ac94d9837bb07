/-
 Chapter 6, walks: views (small parts).
-/
import Derived.Test.YteajjcbinnjgaaaGreatDoorVGC
namespace Go.Proofs.YteajjcbinnjgaaaGreatDoor
open Go Go.Vx
set_option linter.unusedSimpArgs false
set_option maxRecDepth 20000
theorem checkSheetR_s (c r : Int) : Ctr Tryz.prog 36 [(.v (.int .i64 c)), (.v (.int .i64 r))] (fun rr => rr = ⟨(.v (.int .i64 (sheetErr c r))), []⟩) := by
 refine Ctr.of (rs := [.tmp 4]) Tok true Tryz.func36 rfl rfl rfl rfl (by simp [ofDL]) (fun w0 kp => ?_)
 simp only [↓sx0, sxE, encs, sevalprocAttr]
 refine CallI.fn (withinB_s c 1 8) (by simp only [sx3, encs, sxR, sevalprocAttr] <;> (try simp) <;> (try rfl)) ?_
 simp only [↓sx0, sxE, encs, sevalprocAttr]
 refine BrW.dec (fun h => ?_) (fun h => ?_)
 ·simp only [↓sx0, sxE, encs, sevalprocAttr]
  refine CallI.fn (withinB_s r 1 8) (by simp only [sx3, encs, sxR, sevalprocAttr] <;> (try simp) <;> (try rfl)) ?_
  simp only [↓sx0, sxE, encs, sevalprocAttr]
  refine BrW.dec (fun h' => ?_) (fun h' => ?_)
  ·have b1 : c * r ≤ 8 * 8 := Int.mul_le_mul h.2 h'.2 (by omega) (by omega)
   have b2 : 0 ≤ c * r := Int.mul_nonneg (by omega) (by omega)
   simp only [↓sx0, sxE, encs, sevalprocAttr]
   (with_reducible refine Vc.go ?_ fun _ => ?_); focus (first | omega | (simp only [InK]; omega) | (simp [InK]; done) | (simp [InK]; omega))
   simp only [↓sx0, sxE, encs, sevalprocAttr]
   refine BrW.dec (fun g => ?_) (fun g => ?_)
   ·simp only [↓sx0, sxE, encs, sevalprocAttr]
    refine EndW.fn ?_ ?_ <;> simp only [sx4, encs, kpLL_map, sxR, sevalprocAttr] <;> (try simp [sheetErr, h, h', g]) <;> (try omega)
   ·simp only [↓sx0, sxE, encs, sevalprocAttr]
    refine EndW.fn ?_ ?_ <;> simp only [sx4, encs, kpLL_map, sxR, sevalprocAttr] <;> (try simp [sheetErr, h, h', g]) <;> (try omega)
  ·simp only [↓sx0, sxE, encs, sevalprocAttr]
   refine EndW.fn ?_ ?_ <;> simp only [sx4, encs, kpLL_map, sxR, sevalprocAttr] <;> (try simp [sheetErr, h, h']) <;> (try omega)
 ·simp only [↓sx0, sxE, encs, sevalprocAttr]
  refine EndW.fn ?_ ?_ <;> simp only [sx4, encs, kpLL_map, sxR, sevalprocAttr] <;> (try simp [sheetErr, h]) <;> (try omega)
/-- the first place where a test holds; -1: there is none. -/
def ixS {α : Type} (p : α → Bool) (l : List α) : Int := match l.findIdx? p with
 | some i => (i : Int)
 | none => -1
end Go.Proofs.YteajjcbinnjgaaaGreatDoor
