/-
 Chapter 6, walks: the document's folds.
-/
import Derived.Test.YtgiegokdcmkfeaaGreatDoorVP6Perm
import Derived.Test.YtgiegokdcmkfeaaGreatDoorVGC
import Derived.Test.YtgiegokdcmkfeaaGreatDoorVP6Turns
set_option linter.unusedSimpArgs false
set_option linter.unusedVariables false
namespace Go.Proofs.YtgiegokdcmkfeaaGreatDoor
open Go Go.Vx
set_option maxRecDepth 20000
theorem halfN (n : Nat) : (n : Int).tdiv 2 = ((n / 2 : Nat) : Int) := rfl
theorem foldErr_s (cn rn : Nat) (ls : List (List Leaf)) (x : Fold) (hc : cn ≤ 1000) (hr : rn ≤ 1000) : Ctr Tryz.prog 65 [(.v (.int .i64 cn)), (.v (.int .i64 rn)), .agg [(.v (.int .i64 x.kind)), (.v (.int .i64 x.count))]] (fun rr => rr = ⟨(.v (.int .i64 (foldErrS ⟨cn, rn, ls⟩ x))), []⟩) := by
 obtain ⟨kind, count⟩ := x
 refine Ctr.of (rs := [.tmp 6]) Tok true Tryz.func65 rfl rfl rfl rfl (by simp [ofDL]) (fun w0 kp => ?_)
 simp only [↓sx0, sxE, encs, sevalprocAttr]
 refine CallI.fn (withinB_s kind 1 6) (by simp only [sx3, encs, sxR, sevalprocAttr] <;> (try simp) <;> (try rfl)) ?_
 simp only [↓sx0, sxE, encs, sevalprocAttr]
 refine BrW.dec (fun h1 => ?_) (fun h1 => ?_)
 ·simp only [↓sx0, sxE, encs, sevalprocAttr]
  refine BrW.dec (fun h2 => ?_) (fun h2 => ?_)
  ·have h56 : kind = 5 ∨ kind = 6 := by omega
   simp only [↓sx0, sxE, encs, sevalprocAttr]
   refine BrW.dec (fun h3 => ?_) (fun h3 => ?_)
   ·simp only [↓sx0, sxE, encs, sevalprocAttr]
    refine EndW.fn ?_ ?_ <;> simp only [sx4, encs, kpLL_map, sxR, sevalprocAttr] <;> (try simp [foldErrS, h1, h56, h3]) <;> (try omega)
   ·simp only [↓sx0, sxE, encs, sevalprocAttr]
    refine EndW.fn ?_ ?_ <;> simp only [sx4, encs, kpLL_map, sxR, sevalprocAttr] <;> (try simp [foldErrS, h1, h56, h3]) <;> (try omega)
  ·have h56 : ¬ (kind = 5 ∨ kind = 6) := by omega
   simp only [↓sx0, sxE, encs, sevalprocAttr]
   refine BrW.dec (fun h3 => ?_) (fun h3 => ?_)
   ·simp only [↓sx0, sxE, encs, sevalprocAttr]
    refine EndW.fn ?_ ?_ <;> simp only [sx4, encs, kpLL_map, sxR, sevalprocAttr] <;> (try simp [foldErrS, h1, h56, h3]) <;> (try omega)
   ·simp only [↓sx0, sxE, encs, sevalprocAttr]
    refine BrW.dec (fun h4 => ?_) (fun h4 => ?_)
    ·have h34 : kind = 3 ∨ kind = 4 := by omega
     simp only [↓sx0, sxE, encs, sevalprocAttr]
     rw [halfN]
     repeat ((with_reducible refine Vc.go ?_ fun _ => ?_); (focus (first | omega | (simp only [InK]; omega) | (simp [InK]; done) | (simp [InK]; omega))); simp only [↓sx0, sxE, encs, sevalprocAttr])
     refine BrW.dec (fun h5 => ?_) (fun h5 => ?_)
     ·simp only [↓sx0, sxE, encs, sevalprocAttr]
      have h6 : (rn : Int) - count < count := by omega
      refine EndW.fn ?_ ?_ <;> simp only [sx4, encs, kpLL_map, sxR, sevalprocAttr] <;> (try simp [foldErrS, foldSide, h1, h56, h3, h34, h6]) <;> (try omega)
     ·simp only [↓sx0, sxE, encs, sevalprocAttr]
      have h6 : ¬ (rn : Int) - count < count := by omega
      refine EndW.fn ?_ ?_ <;> simp only [sx4, encs, kpLL_map, sxR, sevalprocAttr] <;> (try simp [foldErrS, foldSide, h1, h56, h3, h34, h6]) <;> (try omega)
    ·have h34 : ¬ (kind = 3 ∨ kind = 4) := by omega
     simp only [↓sx0, sxE, encs, sevalprocAttr]
     rw [halfN]
     repeat ((with_reducible refine Vc.go ?_ fun _ => ?_); (focus (first | omega | (simp only [InK]; omega) | (simp [InK]; done) | (simp [InK]; omega))); simp only [↓sx0, sxE, encs, sevalprocAttr])
     refine BrW.dec (fun h5 => ?_) (fun h5 => ?_)
     ·simp only [↓sx0, sxE, encs, sevalprocAttr]
      have h6 : (cn : Int) - count < count := by omega
      refine EndW.fn ?_ ?_ <;> simp only [sx4, encs, kpLL_map, sxR, sevalprocAttr] <;> (try simp [foldErrS, foldSide, h1, h56, h3, h34, h6]) <;> (try omega)
     ·simp only [↓sx0, sxE, encs, sevalprocAttr]
      have h6 : ¬ (cn : Int) - count < count := by omega
      refine EndW.fn ?_ ?_ <;> simp only [sx4, encs, kpLL_map, sxR, sevalprocAttr] <;> (try simp [foldErrS, foldSide, h1, h56, h3, h34, h6]) <;> (try omega)
 ·simp only [↓sx0, sxE, encs, sevalprocAttr]
  refine EndW.fn ?_ ?_ <;> simp only [sx4, encs, kpLL_map, sxR, sevalprocAttr] <;> (try simp [foldErrS, h1]) <;> (try omega)
theorem err_bounds {p : PileS} {x : Fold} (he : foldErrS p x = 0) : (x.kind = 5 ∨ x.kind = 6) ∨ ((x.kind = 1 ∨ x.kind = 2 ∨ x.kind = 3 ∨ x.kind = 4) ∧ 1 ≤ x.count ∧ 2 * x.count ≤ foldSide p x) := by
 by_cases h56 : x.kind = 5 ∨ x.kind = 6
 ·exact .inl h56
 refine .inr ?_
 unfold foldErrS at he
 simp only [h56, if_false, not_false_eq_true, true_and] at he
 by_cases hk : ¬ (1 ≤ x.kind ∧ x.kind ≤ 6)
 ·rw [if_pos hk] at he; omega
 rw [if_neg hk] at he
 by_cases hc : x.count < 1
 ·rw [if_pos hc] at he; omega
 rw [if_neg hc] at he
 by_cases hs : (foldSide p x : Int) - x.count < x.count
 ·rw [if_pos hs] at he; omega
 omega
theorem foldHeap_s (b : Bool) (p : PileS) (hp : p.Ok) (x : Fold) (he : foldErrS p x = 0) : Ctr Tryz.prog 66 [.agg [(.v (.int .i64 p.cols)), (.v (.int .i64 p.rows)), .sl b 1 (p.ls.map eK)], .agg [(.v (.int .i64 x.kind)), (.v (.int .i64 x.count))]] (fun rr => rr = ⟨.agg [(.v (.int .i64 ((foldP p x).cols))), (.v (.int .i64 ((foldP p x).rows))), .sl true 1 ((foldP p x).ls.map eK)], []⟩) := by
 obtain ⟨hc, hr, hn, hf⟩ := hp
 have hb := err_bounds he
 have hfo := foldP_ok he
 obtain ⟨cn, rn, ls⟩ := p
 obtain ⟨kind, count⟩ := x
 simp only [] at hc hr hn hf hb
 have hkind : kind = 1 ∨ kind = 2 ∨ kind = 3 ∨ kind = 4 ∨ kind = 5 ∨ kind = 6 := by omega
 rcases hkind with rfl | rfl | rfl | rfl | rfl | rfl
 ·simp only [foldSide] at hb
  have h1 : 1 ≤ count ∧ 2 * count ≤ cn := by simpa using hb
  have hfi : (((((cn : Nat) : Int) - count).toNat : Nat) : Int) = (cn : Int) - count := by omega
  refine Ctr.of (rs := [.cell 4 72]) Tok true Tryz.func66 rfl rfl rfl rfl (by simp [ofDL]) (fun w0 kp => ?_)
  simp only [↓sx0, sxE, encs, sevalprocAttr]
  refine CallI.fn (foldLeft_s b cn rn ((cn : Int) - count).toNat count ls hf hn hc hr hfi.symm (by omega)) (by simp only [sx3, encs, sxR, sevalprocAttr] <;> (try simp) <;> (try rfl)) ?_
  simp only [↓sx0, sxE, encs, sevalprocAttr]
  rw [hfo]
  refine EndW.fn ?_ ?_ <;> simp only [sx4, encs, kpLL_map, sxR, sevalprocAttr] <;> (try simp [foldSide]) <;> (try omega)
 ·simp only [foldSide] at hb
  have h1 : 1 ≤ count ∧ 2 * count ≤ cn := by simpa using hb
  have hfi : (((((cn : Nat) : Int) - count).toNat : Nat) : Int) = (cn : Int) - count := by omega
  refine Ctr.of (rs := [.cell 4 72]) Tok true Tryz.func66 rfl rfl rfl rfl (by simp [ofDL]) (fun w0 kp => ?_)
  simp only [↓sx0, sxE, encs, sevalprocAttr]
  refine DrawW.plan Tok mixed (.q 0 <| .q 2 <| .q 3 <| .e 1 [3] <| .e 4 [] <| .e 5 [] <| .e 6 [] <| .done) (by kernel_rfl) (by kernel_rfl) ?_
  simp only [↓sx0, sxE, encs, sevalprocAttr]
  refine CallI.ctr (mirroredC_s b cn rn ls hn hc hr) (by simp only [sx3, encs, sxR, sevalprocAttr] <;> (try simp) <;> (try rfl)) ?_
  rintro _ rfl
  simp only [↓sx0, sxE, encs, sevalprocAttr]
  refine CallI.fn (foldLeft_s false cn rn ((cn : Int) - count).toNat count (grid cn rn (mirG true false cn rn ls)) (fineP_mir hf) (grid_length _ _ _) hc hr hfi.symm (by omega)) (by simp only [sx3, encs, sxR, sevalprocAttr] <;> (try simp) <;> (try rfl)) ?_
  simp only [↓sx0, sxE, encs, sevalprocAttr]
  refine CallI.ctr (mirroredC_s true ((cn : Int) - count).toNat rn (laidG cn rn ((cn : Int) - count).toNat false false (grid cn rn (mirG true false cn rn ls))) (by simp [laidG, grid_length]) (by omega) hr) (by simp only [sx3, encs, sxR, sevalprocAttr] <;> (try simp) <;> (try rfl)) ?_
  rintro _ rfl
  rw [mir_left ls (by omega)]
  simp only [↓sx0, sxE, encs, sevalprocAttr]
  rw [hfo]
  refine EndW.fn ?_ ?_ <;> simp only [sx4, encs, kpLL_map, sxR, sevalprocAttr] <;> (try simp [foldSide]) <;> (try omega)
 ·simp only [foldSide] at hb
  have h1 : 1 ≤ count ∧ 2 * count ≤ rn := by simpa using hb
  have hfi : (((((rn : Nat) : Int) - count).toNat : Nat) : Int) = (rn : Int) - count := by omega
  refine Ctr.of (rs := [.cell 4 72]) Tok true Tryz.func66 rfl rfl rfl rfl (by simp [ofDL]) (fun w0 kp => ?_)
  simp only [↓sx0, sxE, encs, sevalprocAttr]
  refine CallI.fn (foldUp_s b cn rn ((rn : Int) - count).toNat count ls hf hn hc hr hfi.symm (by omega)) (by simp only [sx3, encs, sxR, sevalprocAttr] <;> (try simp) <;> (try rfl)) ?_
  simp only [↓sx0, sxE, encs, sevalprocAttr]
  rw [hfo]
  refine EndW.fn ?_ ?_ <;> simp only [sx4, encs, kpLL_map, sxR, sevalprocAttr] <;> (try simp [foldSide]) <;> (try omega)
 ·simp only [foldSide] at hb
  have h1 : 1 ≤ count ∧ 2 * count ≤ rn := by simpa using hb
  have hfi : (((((rn : Nat) : Int) - count).toNat : Nat) : Int) = (rn : Int) - count := by omega
  refine Ctr.of (rs := [.cell 4 72]) Tok true Tryz.func66 rfl rfl rfl rfl (by simp [ofDL]) (fun w0 kp => ?_)
  simp only [↓sx0, sxE, encs, sevalprocAttr]
  refine DrawW.plan Tok mixed (.q 0 <| .q 2 <| .q 3 <| .e 1 [3] <| .e 4 [] <| .e 5 [] <| .e 6 [] <| .done) (by kernel_rfl) (by kernel_rfl) ?_
  simp only [↓sx0, sxE, encs, sevalprocAttr]
  refine CallI.ctr (mirroredR_s b cn rn ls hn hc hr) (by simp only [sx3, encs, sxR, sevalprocAttr] <;> (try simp) <;> (try rfl)) ?_
  rintro _ rfl
  simp only [↓sx0, sxE, encs, sevalprocAttr]
  refine CallI.fn (foldUp_s false cn rn ((rn : Int) - count).toNat count (grid cn rn (mirG false true cn rn ls)) (fineP_mir hf) (grid_length _ _ _) hc hr hfi.symm (by omega)) (by simp only [sx3, encs, sxR, sevalprocAttr] <;> (try simp) <;> (try rfl)) ?_
  simp only [↓sx0, sxE, encs, sevalprocAttr]
  refine CallI.ctr (mirroredR_s true cn ((rn : Int) - count).toNat (laidG cn rn ((rn : Int) - count).toNat true false (grid cn rn (mirG false true cn rn ls))) (by simp [laidG, grid_length]) hc (by omega)) (by simp only [sx3, encs, sxR, sevalprocAttr] <;> (try simp) <;> (try rfl)) ?_
  rintro _ rfl
  rw [mir_up ls (by omega)]
  simp only [↓sx0, sxE, encs, sevalprocAttr]
  rw [hfo]
  refine EndW.fn ?_ ?_ <;> simp only [sx4, encs, kpLL_map, sxR, sevalprocAttr] <;> (try simp [foldSide]) <;> (try omega)
 ·refine Ctr.of (rs := [.cell 4 72]) Tok true Tryz.func66 rfl rfl rfl rfl (by simp [ofDL]) (fun w0 kp => ?_)
  simp only [↓sx0, sxE, encs, sevalprocAttr]
  refine CallI.fn (overR_s b cn rn ls hf hn hc hr) (by simp only [sx3, encs, sxR, sevalprocAttr] <;> (try simp) <;> (try rfl)) ?_
  simp only [↓sx0, sxE, encs, sevalprocAttr]
  rw [hfo]
  refine EndW.fn ?_ ?_ <;> simp only [sx4, encs, kpLL_map, sxR, sevalprocAttr] <;> (try simp) <;> (try omega)
 ·refine Ctr.of (rs := [.cell 4 72]) Tok true Tryz.func66 rfl rfl rfl rfl (by simp [ofDL]) (fun w0 kp => ?_)
  simp only [↓sx0, sxE, encs, sevalprocAttr]
  refine CallI.fn (roundR_s b cn rn ls hf hn hc hr) (by simp only [sx3, encs, sxR, sevalprocAttr] <;> (try simp) <;> (try rfl)) ?_
  simp only [↓sx0, sxE, encs, sevalprocAttr]
  rw [hfo]
  refine EndW.fn ?_ ?_ <;> simp only [sx4, encs, kpLL_map, sxR, sevalprocAttr] <;> (try simp) <;> (try omega)
/-- the pile, and the number and the error of a wrong fold. -/
def runR (c r : Nat) (l : List Fold) : PileS × Int × Int :=
 match foldRun (flatP c r) 0 l with
 | (p, some (i, e)) => (p, i, e)
 | (p, none) => (p, 0, 0)
theorem foldedR_s (b : Bool) (cn rn : Nat) (l : List Fold) (hc : 1 ≤ cn ∧ cn ≤ 8) (hr : 1 ≤ rn ∧ rn ≤ 8) (hl : l.length ≤ 12) : Ctr Tryz.prog 28 [(.v (.int .i64 cn)), (.v (.int .i64 rn)), .sl b 2 (l.map eF)] (fun rr => rr = ⟨.tup [.agg [(.v (.int .i64 ((runR cn rn l).1.cols))), (.v (.int .i64 ((runR cn rn l).1.rows))), .sl true 1 ((runR cn rn l).1.ls.map eK)], (.v (.int .i64 ((runR cn rn l).2.1))), (.v (.int .i64 ((runR cn rn l).2.2)))], []⟩) := by
 refine Ctr.of (rs := [.cell 6 72, .tmp 7, .tmp 8]) Tok true Tryz.func28 rfl rfl rfl rfl (by simp [ofDL]) (fun w0 kp => ?_)
 simp only [↓sx0, sxE, encs, sevalprocAttr]
 refine CallI.fn (flatR_s cn rn (by omega) (by omega)) (by simp only [sx3, encs, sxR, sevalprocAttr] <;> (try simp) <;> (try rfl)) ?_
 simp only [↓sx0, sxE, encs, sevalprocAttr]
 refine LoopW.comp [2, 6, 9, 10] (by simp only [sx2, encs, sxR, sevalprocAttr] <;> (try simp) <;> (try omega)) ?_
 simp only [sx2, sxR, sevalprocAttr]
 refine LoopW.up Tok (fun x : Nat × PileS => [(10, (.v (.int .i64 x.1)))]) (fun x => [(1, [(.v (.int .i64 x.2.cols)), (.v (.int .i64 x.2.rows)), .sl true 1 (x.2.ls.map eK)])]) (fun x => []) (fun x => []) (fun x => x.1 ≤ l.length ∧ x.2.Good (2 ^ x.1) ∧ foldRun (flatP cn rn) 0 l = foldRun x.2 x.1 (l.drop x.1)) (fun x => l.length - x.1) ((0, flatP cn rn)) (by simp only [sx2, encs, sxR, sevalprocAttr] <;> (try simp [flatP, encs]) <;> (try omega)) ?_ ?_
 ·exact ⟨by simp, flatP_good (by omega) (by omega) (by omega) (by omega), rfl⟩
 rintro ⟨k, p⟩ ⟨hk, hg, hrun⟩
 simp only [] at hk hg hrun
 have h2k : (2 : Nat) ^ k ≤ 2 ^ 12 := Nat.pow_le_pow_right (by omega) (by omega)
 simp only [↓sx0, sxE, encs, sevalprocAttr]
 refine BrW.dec (fun hlt => ?_) (fun hlt => ?_)
 ·simp only [↓sx0, sxE, encs, sevalprocAttr]
  have hk' : k < l.length := by omega
  rw [List.drop_eq_getElem_cons hk'] at hrun
  simp only [foldRun] at hrun
  refine DrawW.plan Tok mixed (.q 0 <| .q 1 <| .q 2 <| .q 3 <| .q 4 <| .q 5 <| .q 6 <| .q 7 <| .e 8 [] <| .q 9 <| .done) (by kernel_rfl) (by kernel_rfl) ?_
  simp only [↓sx0, sxE, encs, sevalprocAttr]
  refine IxW.nat hk' ?_
  simp only [↓sx0, sxE, encs, sevalprocAttr]
  refine CallI.fn (foldErr_s p.cols p.rows p.ls l[k] hg.c2 hg.r2) (by simp only [sx3, encs, sxR, sevalprocAttr] <;> (try simp) <;> (try rfl)) ?_
  simp only [↓sx0, sxE, encs, sevalprocAttr]
  refine BrW.dec (fun herr => ?_) (fun herr => ?_)
  ·simp only [↓sx0, sxE, encs, sevalprocAttr]
   have herr2 : ¬ foldErrS p l[k] = 0 := herr
   rw [if_pos (by simpa using herr2)] at hrun
   have hpp : foldP p l[k] = p := by unfold foldP; rw [if_pos herr2]
   rw [hpp] at hrun
   refine EndW.fn ?_ ?_ <;> simp only [sx4, encs, kpLL_map, sxR, sevalprocAttr] <;> (try simp [runR, hrun]) <;> (try omega)
  ·simp only [↓sx0, sxE, encs, sevalprocAttr]
   have h0 : foldErrS p l[k] = 0 := Decidable.not_not.1 herr
   rw [if_neg (by simp [h0])] at hrun
   refine DrawW.plan Tok mixed (.q 0 <| .q 1 <| .q 2 <| .q 3 <| .q 4 <| .e 5 [] <| .e 6 [] <| .done) (by kernel_rfl) (by kernel_rfl) ?_
   simp only [↓sx0, sxE, encs, sevalprocAttr]
   refine IxW.nat hk' ?_
   simp only [↓sx0, sxE, encs, sevalprocAttr]
   refine CallI.fn (foldHeap_s true p (hg.ok (by omega)) l[k] h0) (by simp only [sx3, encs, sxR, sevalprocAttr] <;> (try simp) <;> (try rfl)) ?_
   simp only [↓sx0, sxE, encs, sevalprocAttr]
   (with_reducible refine Vc.go ?_ fun _ => ?_); focus (first | omega | (simp only [InK]; omega) | (simp [InK]; done) | (simp [InK]; omega))
   simp only [↓sx0, sxE, encs, sevalprocAttr]
   refine ⟨(k + 1, foldP p l[k]), StLe.auto (by simp only [sx2, encs, sxR, sevalprocAttr] <;> (try simp) <;> (try omega)), ?_, ?_⟩
   ·exact ⟨hk', by have := foldP_good hg h0; rwa [Nat.pow_succ, Nat.mul_comm] , hrun⟩
   ·show l.length - (k + 1) < l.length - k; omega
 ·simp only [↓sx0, sxE, encs, sevalprocAttr]
  have hke : k = l.length := by omega
  subst hke
  rw [List.drop_length] at hrun
  simp only [foldRun] at hrun
  refine EndW.fn ?_ ?_ <;> simp only [sx4, encs, kpLL_map, sxR, sevalprocAttr] <;> (try simp [runR, hrun]) <;> (try omega)
end Go.Proofs.YtgiegokdcmkfeaaGreatDoor
/-
 Chapter 6, walks: printed twice.
-/
namespace Go.Proofs.YtgiegokdcmkfeaaGreatDoor
open Go Go.Vx
set_option maxRecDepth 20000
def zP : Page := ⟨0, 0⟩
def pgOk (x : Page) : Bool := decide (1 ≤ x.page ∧ x.page ≤ 4000 ∧ 0 ≤ x.turn ∧ x.turn ≤ 1)
def twCell (t : Bool) (c r : Nat) (l : List Page) (k q : Nat) : Cell :=
 ⟨(l.getD (q * c + k) zP).page, (l.getD (q * c + k) zP).turn, if t then (l.getD ((r - 1 - q) * c + k) zP).page else (l.getD (q * c + (c - 1 - k)) zP).page,
  if t then 1 - (l.getD ((r - 1 - q) * c + k) zP).turn else (l.getD (q * c + (c - 1 - k)) zP).turn⟩
def twiceS (c r : Int) (l : List Page) (t : Bool) : Int × Int × List Cell × Int :=
 if sheetErr c r ≠ 0 then (0, 0, [], sheetErr c r) else if ¬ (l.length : Int) = c * r then (0, 0, [], 10) else if l.any (fun x => !pgOk x) = true then (0, 0, [], 2) else (c, r, grid c.toNat r.toNat (twCell t c.toNat r.toNat l), 0)
theorem sheet_ok {c r : Int} (h : sheetErr c r = 0) : 1 ≤ c ∧ c ≤ 8 ∧ 1 ≤ r ∧ r ≤ 8 := by
 unfold sheetErr at h
 by_cases h1 : 1 ≤ c ∧ c ≤ 8
 ·by_cases h2 : 1 ≤ r ∧ r ≤ 8
  ·omega
  ·simp [h1, h2] at h
 ·simp [h1] at h
theorem twGet {α : Type} {l : List α} {c r q k : Nat} (z : α) (hl : l.length = r * c) (hq : q < r) (hk : k < c) {j : Int} (hj : j = (q * c + k : Nat)) : 0 ≤ j ∧ l[j.toNat]? = some (l.getD (q * c + k) z) := by
 have := cell_lt hq hk
 subst hj
 refine ⟨by omega, ?_⟩
 rw [Int.toNat_natCast, List.getD_eq_getElem?_getD, List.getElem?_eq_getElem (by omega)]
 rfl
theorem pages1_s (p t : Int) : Ctr Tryz.prog 50 [.agg [(.v (.int .i64 p)), (.v (.int .i64 t))]] (fun rr => rr = ⟨(.v (.bool (!(pgOk ⟨p, t⟩)))), []⟩) := by
 refine Ctr.of (rs := [.tmp 2]) Tok true Tryz.func50 rfl rfl rfl rfl (by simp [ofDL]) (fun w0 kp => ?_)
 simp only [↓sx0, sxE, encs, sevalprocAttr]
 refine CallI.fn (isPage_s p t) (by simp only [sx3, encs, sxR, sevalprocAttr] <;> (try simp) <;> (try rfl)) ?_
 simp only [↓sx0, sxE, encs, sevalprocAttr]
 refine EndW.fn ?_ ?_ <;> simp only [sx4, encs, kpLL_map, sxR, sevalprocAttr] <;> (try simp [pgOk]) <;> (try omega)
theorem twice_s (b t : Bool) (c r : Int) (l : List Page) (_hl : l.length ≤ 1000) : Ctr Tryz.prog 16 [.agg [(.v (.int .i64 c)), (.v (.int .i64 r)), .sl b 2 (l.map eP)], (.v (.bool (t)))] (fun rr => rr = ⟨.tup [.agg [(.v (.int .i64 ((twiceS c r l t).1))), (.v (.int .i64 ((twiceS c r l t).2.1))), .sl true 4 ((twiceS c r l t).2.2.1.map eC)], (.v (.int .i64 ((twiceS c r l t).2.2.2)))], []⟩) := by
 refine Ctr.of (rs := [.cell 4 29, .tmp 5]) Tok true Tryz.func16 rfl rfl rfl rfl (by simp [ofDL]) (fun w0 kp => ?_)
 simp only [↓sx0, sxE, encs, sevalprocAttr]
 refine CallI.fn (checkSheet_s c r) (by simp only [sx3, encs, sxR, sevalprocAttr] <;> (try simp) <;> (try rfl)) ?_
 simp only [↓sx0, sxE, encs, sevalprocAttr]
 refine BrW.dec (fun he => ?_) (fun he => ?_)
 ·simp only [↓sx0, sxE, encs, sevalprocAttr]
  refine EndW.fn ?_ ?_ <;> simp only [sx4, encs, kpLL_map, sxR, sevalprocAttr] <;> (try simp [twiceS, he]) <;> (try omega)
 ·simp only [↓sx0, sxE, encs, sevalprocAttr]
  have he0 : sheetErr c r = 0 := Decidable.not_not.1 he
  have hsh := sheet_ok he0
  have b1 : c * r ≤ 8 * 8 := Int.mul_le_mul hsh.2.1 hsh.2.2.2 (by omega) (by omega)
  have b2 : 0 ≤ c * r := Int.mul_nonneg (by omega) (by omega)
  (with_reducible refine Vc.go ?_ fun _ => ?_); focus (first | omega | (simp only [InK]; omega) | (simp [InK]; done) | (simp [InK]; omega))
  simp only [↓sx0, sxE, encs, sevalprocAttr]
  refine BrW.dec (fun hln => ?_) (fun hln => ?_)
  ·simp only [↓sx0, sxE, encs, sevalprocAttr]
   refine EndW.fn ?_ ?_ <;> simp only [sx4, encs, kpLL_map, sxR, sevalprocAttr] <;> (try simp [twiceS, he0, hln]) <;> (try omega)
  ·simp only [↓sx0, sxE, encs, sevalprocAttr]
   have hln0 := Decidable.not_not.1 hln
   refine CallI.fn (containsPages_s b 50 (fun x => !(pgOk x)) l (by omega) (fun x => pages1_s x.page x.turn)) (by simp only [sx3, encs, sxR, sevalprocAttr] <;> (try simp) <;> (try rfl)) ?_
   simp only [↓sx0, sxE, encs, sevalprocAttr]
   refine BrW.of (fun hb => ?_) (fun hb => ?_)
   ·simp only [↓sx0, sxE, encs, sevalprocAttr]
    refine EndW.fn ?_ ?_ <;> simp only [sx4, encs, kpLL_map, sxR, sevalprocAttr] <;> (try simp [twiceS, he0, hln0, hb]) <;> (try omega)
   ·simp only [↓sx0, sxE, encs, sevalprocAttr]
    obtain ⟨cn, rfl⟩ : ∃ cn : Nat, c = cn := ⟨c.toNat, by omega⟩
    obtain ⟨rn, rfl⟩ : ∃ rn : Nat, r = rn := ⟨r.toNat, by omega⟩
    have hlr : l.length = rn * cn := by
     have : (l.length : Int) = ((rn * cn : Nat) : Int) := by rw [hln0]; push_cast; exact Int.mul_comm _ _
     exact_mod_cast this
    refine LoopW.comp [1, 2, 4, 7, 43, 44] (by simp only [sx2, encs, sxR, sevalprocAttr] <;> (try simp) <;> (try omega)) ?_
    simp only [sx2, sxR, sevalprocAttr]
    refine LoopW.up Tok (fun q : Nat => [(44, (.v (.int .i64 q)))]) (fun q => [(2, [(.v (.int .i64 cn)), (.v (.int .i64 rn)), .row 0])]) (fun q => []) (fun q => [.own 63 4 ((grid cn q (twCell t cn rn l)).map eC)]) (fun q => q ≤ rn) (fun q => rn - q) (0) (by simp only [sx2, encs, sxR, sevalprocAttr] <;> (try simp) <;> (try omega)) ?_ ?_
    ·omega
    rintro q hq1
    simp only [↓sx0, sxE, encs, sevalprocAttr]
    refine BrW.dec (fun hlt => ?_) (fun hlt => ?_)
    ·simp only [↓sx0, sxE, encs, sevalprocAttr]
     have hq2 : q < rn := by omega
     refine LoopW.comp [1, 2, 4, 7, 8, 43, 44, 48, 49] (by simp only [sx2, encs, sxR, sevalprocAttr] <;> (try simp) <;> (try omega)) ?_
     simp only [sx2, sxR, sevalprocAttr]
     refine LoopW.up Tok (fun k : Nat => [(49, (.v (.int .i64 k)))]) (fun k => []) (fun k => [(0, ((grid cn q (twCell t cn rn l)) ++ gridRow k (twCell t cn rn l) q).map eC)]) (fun k => []) (fun k => k ≤ cn) (fun k => cn - k) (0) (by simp only [sx2, encs, sxR, sevalprocAttr] <;> (try simp) <;> (try omega)) ?_ ?_
     ·omega
     rintro k hk1
     have hlen := cell_lt (rows := rn) (cols := cn) hq2 (c := 0) (by omega)
     simp only [↓sx0, sxE, encs, sevalprocAttr]
     refine BrW.dec (fun hlt2 => ?_) (fun hlt2 => ?_)
     ·have hk2 : k < cn := by omega
      have hqk := cell_lt hq2 hk2
      have i1 := twGet zP hlr hq2 hk2 (j := (q : Int) * cn + k) (by push_cast; rfl)
      have i2 := twGet zP hlr hq2 (show cn - 1 - k < cn by omega) (j := (q : Int) * cn + cn - 1 - k) (by push_cast; omega)
      have i3 := twGet zP hlr (show rn - 1 - q < rn by omega) hk2 (j := ((rn : Int) - 1 - q) * cn + k) (by rw [show ((rn : Int) - 1 - q) = ((rn - 1 - q : Nat) : Int) by omega]; push_cast; rfl)
      simp only [↓sx0, sxE, encs, sevalprocAttr]
      refine DrawW.plan Tok mixed (.q 0 <| .q 1 <| .q 2 <| .q 3 <| .q 4 <| .q 5 <| .q 6 <| .q 7 <| .q 8 <| .q 9 <| .q 10 <| .q 11 <| .q 12 <| .q 13 <| .q 14 <| .q 15 <| .q 16 <| .q 17 <| .q 18 <| .q 19 <| .q 20 <| .q 21 <| .q 22 <| .q 23 <| .e2 24 [1, 4, 9, 11, 14, 17, 23] (.e 25 [1, 4, 9, 11, 14, 17, 23] <| .e 26 [11, 14, 17, 23] <| .e 27 [] <| .done) 25 [1, 4, 9, 11, 14, 17, 23] (.e 24 [1, 4, 9, 11, 14, 17, 23] <| .e 26 [11, 14, 17, 23] <| .e 27 [] <| .done)) (by kernel_rfl) (by kernel_rfl) ?_
      simp only [↓sx0, sxE, encs, sevalprocAttr]
      repeat ((with_reducible refine Vc.go ?_ fun _ => ?_); (focus (first | omega | (simp only [InK]; omega) | (simp [InK]; done) | (simp [InK]; omega))); simp only [↓sx0, sxE, encs, sevalprocAttr])
      refine IxW.map _ i1.1 i1.2 ?_
      simp only [↓sx0, sxE, encs, sevalprocAttr]
      repeat ((with_reducible refine Vc.go ?_ fun _ => ?_); (focus (first | omega | (simp only [InK]; omega) | (simp [InK]; done) | (simp [InK]; omega))); simp only [↓sx0, sxE, encs, sevalprocAttr])
      refine IxW.map _ i2.1 i2.2 ?_
      have h4 := cell_lt (show rn - 1 - q < rn by omega) hk2
      have e4 : ((rn : Int) - 1 - q) * cn = (((rn - 1 - q) * cn : Nat) : Int) := by rw [show ((rn : Int) - 1 - q) = ((rn - 1 - q : Nat) : Int) by omega]; push_cast; rfl
      have h5 : rn * cn ≤ 1000 := by omega
      have hp3 : 0 ≤ (l.getD ((rn - 1 - q) * cn + k) zP).turn ∧ (l.getD ((rn - 1 - q) * cn + k) zP).turn ≤ 1 := by
       have hm := List.mem_of_getElem? i3.2
       have := List.any_eq_false.1 hb _ hm
       simp only [pgOk, Bool.not_eq_true, Bool.not_eq_false', decide_eq_true_eq] at this
       omega
      simp only [↓sx0, sxE, encs, sevalprocAttr]
      refine ⟨?_, ?_⟩
      ·refine BrW.of (fun ht => ?_) (fun ht => ?_)
       ·subst ht
        simp only [↓sx0, sxE, encs, sevalprocAttr]
        repeat ((with_reducible refine Vc.go ?_ fun _ => ?_); (focus (first | omega | (simp only [InK]; omega) | (simp [InK]; done) | (simp [InK]; omega))); simp only [↓sx0, sxE, encs, sevalprocAttr])
        refine IxW.map _ i3.1 i3.2 ?_
        simp only [↓sx0, sxE, encs, sevalprocAttr]
        repeat ((with_reducible refine Vc.go ?_ fun _ => ?_); (focus (first | omega | (simp only [InK]; omega) | (simp [InK]; done) | (simp [InK]; omega))); simp only [↓sx0, sxE, encs, sevalprocAttr])
        (with_reducible refine Vc.go ?_ fun _ => ?_); focus (first | omega | (simp only [InK]; omega) | (simp [grid_length, gridRow_length, InK]; done) | (simp [grid_length, gridRow_length, InK]; omega))
        simp only [↓sx0, sxE, encs, sevalprocAttr]
        (with_reducible refine Vc.go ?_ fun _ => ?_); focus (first | omega | (simp only [InK]; omega) | (simp [InK]; done) | (simp [InK]; omega))
        simp only [↓sx0, sxE, encs, sevalprocAttr]
        refine ⟨k + 1, StLe.auto (by simp only [sx2, encs, sxR, sevalprocAttr] <;> (try simp [gridRow_succ, twCell, encs]) <;> (try omega)), ?_, ?_⟩
        ·omega
        ·omega
       ·subst ht
        simp only [↓sx0, sxE, encs, sevalprocAttr]
        (with_reducible refine Vc.go ?_ fun _ => ?_); focus (first | omega | (simp only [InK]; omega) | (simp [grid_length, gridRow_length, InK]; done) | (simp [grid_length, gridRow_length, InK]; omega))
        simp only [↓sx0, sxE, encs, sevalprocAttr]
        (with_reducible refine Vc.go ?_ fun _ => ?_); focus (first | omega | (simp only [InK]; omega) | (simp [InK]; done) | (simp [InK]; omega))
        simp only [↓sx0, sxE, encs, sevalprocAttr]
        refine ⟨k + 1, StLe.auto (by simp only [sx2, encs, sxR, sevalprocAttr] <;> (try simp [gridRow_succ, twCell, encs]) <;> (try omega)), ?_, ?_⟩
        ·omega
        ·omega
      ·refine BrW.of (fun ht => ?_) (fun ht => ?_)
       ·subst ht
        simp only [↓sx0, sxE, encs, sevalprocAttr]
        repeat ((with_reducible refine Vc.go ?_ fun _ => ?_); (focus (first | omega | (simp only [InK]; omega) | (simp [InK]; done) | (simp [InK]; omega))); simp only [↓sx0, sxE, encs, sevalprocAttr])
        refine IxW.map _ i3.1 i3.2 ?_
        simp only [↓sx0, sxE, encs, sevalprocAttr]
        repeat ((with_reducible refine Vc.go ?_ fun _ => ?_); (focus (first | omega | (simp only [InK]; omega) | (simp [InK]; done) | (simp [InK]; omega))); simp only [↓sx0, sxE, encs, sevalprocAttr])
        (with_reducible refine Vc.go ?_ fun _ => ?_); focus (first | omega | (simp only [InK]; omega) | (simp [grid_length, gridRow_length, InK]; done) | (simp [grid_length, gridRow_length, InK]; omega))
        simp only [↓sx0, sxE, encs, sevalprocAttr]
        (with_reducible refine Vc.go ?_ fun _ => ?_); focus (first | omega | (simp only [InK]; omega) | (simp [InK]; done) | (simp [InK]; omega))
        simp only [↓sx0, sxE, encs, sevalprocAttr]
        refine ⟨k + 1, StLe.auto (by simp only [sx2, encs, sxR, sevalprocAttr] <;> (try simp [gridRow_succ, twCell, encs]) <;> (try omega)), ?_, ?_⟩
        ·omega
        ·omega
       ·subst ht
        simp only [↓sx0, sxE, encs, sevalprocAttr]
        (with_reducible refine Vc.go ?_ fun _ => ?_); focus (first | omega | (simp only [InK]; omega) | (simp [grid_length, gridRow_length, InK]; done) | (simp [grid_length, gridRow_length, InK]; omega))
        simp only [↓sx0, sxE, encs, sevalprocAttr]
        (with_reducible refine Vc.go ?_ fun _ => ?_); focus (first | omega | (simp only [InK]; omega) | (simp [InK]; done) | (simp [InK]; omega))
        simp only [↓sx0, sxE, encs, sevalprocAttr]
        refine ⟨k + 1, StLe.auto (by simp only [sx2, encs, sxR, sevalprocAttr] <;> (try simp [gridRow_succ, twCell, encs]) <;> (try omega)), ?_, ?_⟩
        ·omega
        ·omega
     ·simp only [↓sx0, sxE, encs, sevalprocAttr]
      have : k = cn := by omega
      subst this
      (with_reducible refine Vc.go ?_ fun _ => ?_); focus (first | omega | (simp only [InK]; omega) | (simp [InK]; done) | (simp [InK]; omega))
      simp only [↓sx0, sxE, encs, sevalprocAttr]
      refine ⟨q + 1, StLe.auto (by simp only [sx2, encs, sxR, sevalprocAttr] <;> (try simp [grid_succ, encs]) <;> (try omega)), ?_, ?_⟩
      ·omega
      ·omega
    ·simp only [↓sx0, sxE, encs, sevalprocAttr]
     have : q = rn := by omega
     subst this
     refine EndW.fn ?_ ?_ <;> simp only [sx4, encs, kpLL_map, sxR, sevalprocAttr] <;> (try simp [twiceS, he0, hln0, hb]) <;> (try omega)
end Go.Proofs.YtgiegokdcmkfeaaGreatDoor
/-
 Chapter 6, walks: printed twice (the document's answer).
-/
namespace Go.Proofs.YtgiegokdcmkfeaaGreatDoor
open Go Go.Vx
set_option maxRecDepth 20000
end Go.Proofs.YtgiegokdcmkfeaaGreatDoor
/-
 Chapter 6, walks: the law of sheets that are printed twice.
-/
namespace Go.Proofs.YtgiegokdcmkfeaaGreatDoor
open Go Go.Vx
set_option maxRecDepth 20000
def zC : Cell := ⟨0, 0, 0, 0⟩
def bkPage (c : Nat) (l : List Cell) (k q : Nat) : Page := ⟨(l.getD (q * c + (c - 1 - k)) zC).back, (l.getD (q * c + (c - 1 - k)) zC).bturn⟩
theorem grid_selfG {α : Type} (z : α) {cols rows : Nat} {ls : List α} (h : ls.length = rows * cols) : grid cols rows (fun c r => ls.getD (r * cols + c) z) = ls := by
 apply List.ext_getElem?
 intro i
 by_cases hi : i < rows * cols
 ·have hc : 0 < cols := by
   rcases Nat.eq_zero_or_pos cols with h0 | h0
   ·subst h0; simp at hi
   ·exact h0
  have h1 : i / cols < rows := Nat.div_lt_of_lt_mul (by rwa [Nat.mul_comm])
  have h2 : i % cols < cols := Nat.mod_lt _ hc
  have e : i / cols * cols + i % cols = i := by rw [Nat.mul_comm]; exact Nat.div_add_mod i cols
  have := grid_get cols (fun c r => ls.getD (r * cols + c) z) rows _ _ h1 h2
  simp only [e] at this
  rw [this, List.getD_eq_getElem?_getD, List.getElem?_eq_getElem (by omega)]
  rfl
 ·rw [List.getElem?_eq_none (by rw [grid_length]; omega), List.getElem?_eq_none (by omega)]
end Go.Proofs.YtgiegokdcmkfeaaGreatDoor
