/-
 Chapter 6, walks: the document's folds.
-/
import Derived.Test.YteajjcbinnjgaaaGreatDoorVP6Perm
import Derived.Test.YteajjcbinnjgaaaGreatDoorVGC
namespace Go.Proofs.YteajjcbinnjgaaaGreatDoor
open Go Go.Vx
set_option linter.unusedSimpArgs false
set_option maxRecDepth 20000
theorem halfN (n : Nat) : (n : Int).tdiv 2 = ((n / 2 : Nat) : Int) := rfl
theorem foldErr_s (cn rn : Nat) (ls : List (List Leaf)) (x : Fold) (hc : cn ≤ 1000) (hr : rn ≤ 1000) : Ctr Tryz.prog 61 [(.v (.int .i64 cn)), (.v (.int .i64 rn)), .agg [(.v (.int .i64 x.kind)), (.v (.int .i64 x.count))]] (fun rr => rr = ⟨(.v (.int .i64 (foldErrS ⟨cn, rn, ls⟩ x))), []⟩) := by
 obtain ⟨kind, count⟩ := x
 refine Ctr.of (rs := [.tmp 6]) Tok true Tryz.func61 rfl rfl rfl rfl (by simp [ofDL]) (fun w0 kp => ?_)
 simp only [↓sx0, sxE, encs, sevalprocAttr]
 refine CallI.fn (withinB_s kind 1 6) (by simp only [sx3, encs, sxR, sevalprocAttr] <;> (try simp) <;> (try rfl)) ?_
 simp only [↓sx0, sxE, encs, sevalprocAttr]
 refine BrW.dec (fun h1 => ?_) (fun h1 => ?_)
 ·simp only [↓sx0, sxE, encs, sevalprocAttr]
  refine BrW.dec (fun h2 => ?_) (fun h2 => ?_)
  ·have h56 : kind = 5 ∨ kind = 6 := by omega
   simp only [↓sx0, sxE, encs, sevalprocAttr]
   refine BrW.dec (fun h3 => ?_) (fun h3 => ?_)
   ·simp only [↓sx0, sxE, encs, sevalprocAttr]
    refine EndW.fn ?_ ?_ <;> simp only [sx4, encs, kpLL_map, sxR, sevalprocAttr] <;> (try simp [foldErrS, h1, h56, h3]) <;> (try omega)
   ·simp only [↓sx0, sxE, encs, sevalprocAttr]
    refine EndW.fn ?_ ?_ <;> simp only [sx4, encs, kpLL_map, sxR, sevalprocAttr] <;> (try simp [foldErrS, h1, h56, h3]) <;> (try omega)
  ·have h56 : ¬ (kind = 5 ∨ kind = 6) := by omega
   simp only [↓sx0, sxE, encs, sevalprocAttr]
   refine BrW.dec (fun h3 => ?_) (fun h3 => ?_)
   ·simp only [↓sx0, sxE, encs, sevalprocAttr]
    refine EndW.fn ?_ ?_ <;> simp only [sx4, encs, kpLL_map, sxR, sevalprocAttr] <;> (try simp [foldErrS, h1, h56, h3]) <;> (try omega)
   ·simp only [↓sx0, sxE, encs, sevalprocAttr]
    refine BrW.dec (fun h4 => ?_) (fun h4 => ?_)
    ·have h34 : kind = 3 ∨ kind = 4 := by omega
     simp only [↓sx0, sxE, encs, sevalprocAttr]
     rw [halfN]
     repeat ((with_reducible refine Vc.go ?_ fun _ => ?_); (focus (first | omega | (simp only [InK]; omega) | (simp [InK]; done) | (simp [InK]; omega))); simp only [↓sx0, sxE, encs, sevalprocAttr])
     refine BrW.dec (fun h5 => ?_) (fun h5 => ?_)
     ·simp only [↓sx0, sxE, encs, sevalprocAttr]
      have h6 : (rn : Int) - count < count := by omega
      refine EndW.fn ?_ ?_ <;> simp only [sx4, encs, kpLL_map, sxR, sevalprocAttr] <;> (try simp [foldErrS, foldSide, h1, h56, h3, h34, h6]) <;> (try omega)
     ·simp only [↓sx0, sxE, encs, sevalprocAttr]
      have h6 : ¬ (rn : Int) - count < count := by omega
      refine EndW.fn ?_ ?_ <;> simp only [sx4, encs, kpLL_map, sxR, sevalprocAttr] <;> (try simp [foldErrS, foldSide, h1, h56, h3, h34, h6]) <;> (try omega)
    ·have h34 : ¬ (kind = 3 ∨ kind = 4) := by omega
     simp only [↓sx0, sxE, encs, sevalprocAttr]
     rw [halfN]
     repeat ((with_reducible refine Vc.go ?_ fun _ => ?_); (focus (first | omega | (simp only [InK]; omega) | (simp [InK]; done) | (simp [InK]; omega))); simp only [↓sx0, sxE, encs, sevalprocAttr])
     refine BrW.dec (fun h5 => ?_) (fun h5 => ?_)
     ·simp only [↓sx0, sxE, encs, sevalprocAttr]
      have h6 : (cn : Int) - count < count := by omega
      refine EndW.fn ?_ ?_ <;> simp only [sx4, encs, kpLL_map, sxR, sevalprocAttr] <;> (try simp [foldErrS, foldSide, h1, h56, h3, h34, h6]) <;> (try omega)
     ·simp only [↓sx0, sxE, encs, sevalprocAttr]
      have h6 : ¬ (cn : Int) - count < count := by omega
      refine EndW.fn ?_ ?_ <;> simp only [sx4, encs, kpLL_map, sxR, sevalprocAttr] <;> (try simp [foldErrS, foldSide, h1, h56, h3, h34, h6]) <;> (try omega)
 ·simp only [↓sx0, sxE, encs, sevalprocAttr]
  refine EndW.fn ?_ ?_ <;> simp only [sx4, encs, kpLL_map, sxR, sevalprocAttr] <;> (try simp [foldErrS, h1]) <;> (try omega)
theorem err_bounds {p : PileS} {x : Fold} (he : foldErrS p x = 0) : (x.kind = 5 ∨ x.kind = 6) ∨ ((x.kind = 1 ∨ x.kind = 2 ∨ x.kind = 3 ∨ x.kind = 4) ∧ 1 ≤ x.count ∧ 2 * x.count ≤ foldSide p x) := by
 by_cases h56 : x.kind = 5 ∨ x.kind = 6
 ·exact .inl h56
 refine .inr ?_
 unfold foldErrS at he
 simp only [h56, if_false, not_false_eq_true, true_and] at he
 by_cases hk : ¬ (1 ≤ x.kind ∧ x.kind ≤ 6)
 ·rw [if_pos hk] at he; omega
 rw [if_neg hk] at he
 by_cases hc : x.count < 1
 ·rw [if_pos hc] at he; omega
 rw [if_neg hc] at he
 by_cases hs : (foldSide p x : Int) - x.count < x.count
 ·rw [if_pos hs] at he; omega
 omega
theorem foldHeap_s (b : Bool) (p : PileS) (hp : p.Ok) (x : Fold) (he : foldErrS p x = 0) : Ctr Tryz.prog 62 [.agg [(.v (.int .i64 p.cols)), (.v (.int .i64 p.rows)), .sl b 1 (p.ls.map eK)], .agg [(.v (.int .i64 x.kind)), (.v (.int .i64 x.count))]] (fun rr => rr = ⟨.agg [(.v (.int .i64 ((foldP p x).cols))), (.v (.int .i64 ((foldP p x).rows))), .sl true 1 ((foldP p x).ls.map eK)], []⟩) := by
 obtain ⟨hc, hr, hn, hf⟩ := hp
 have hb := err_bounds he
 have hfo := foldP_ok he
 obtain ⟨cn, rn, ls⟩ := p
 obtain ⟨kind, count⟩ := x
 simp only [] at hc hr hn hf hb
 have hkind : kind = 1 ∨ kind = 2 ∨ kind = 3 ∨ kind = 4 ∨ kind = 5 ∨ kind = 6 := by omega
 rcases hkind with rfl | rfl | rfl | rfl | rfl | rfl
 ·simp only [foldSide] at hb
  have h1 : 1 ≤ count ∧ 2 * count ≤ cn := by simpa using hb
  have hfi : (((((cn : Nat) : Int) - count).toNat : Nat) : Int) = (cn : Int) - count := by omega
  refine Ctr.of (rs := [.cell 4 81]) Tok true Tryz.func62 rfl rfl rfl rfl (by simp [ofDL]) (fun w0 kp => ?_)
  simp only [↓sx0, sxE, encs, sevalprocAttr]
  refine CallI.fn (foldLeft_s b cn rn ((cn : Int) - count).toNat count ls hf hn hc hr hfi.symm (by omega)) (by simp only [sx3, encs, sxR, sevalprocAttr] <;> (try simp) <;> (try rfl)) ?_
  simp only [↓sx0, sxE, encs, sevalprocAttr]
  rw [hfo]
  refine EndW.fn ?_ ?_ <;> simp only [sx4, encs, kpLL_map, sxR, sevalprocAttr] <;> (try simp [foldSide]) <;> (try omega)
 ·simp only [foldSide] at hb
  have h1 : 1 ≤ count ∧ 2 * count ≤ cn := by simpa using hb
  have hfi : (((((cn : Nat) : Int) - count).toNat : Nat) : Int) = (cn : Int) - count := by omega
  refine Ctr.of (rs := [.cell 4 81]) Tok true Tryz.func62 rfl rfl rfl rfl (by simp [ofDL]) (fun w0 kp => ?_)
  simp only [↓sx0, sxE, encs, sevalprocAttr]
  refine DrawW.plan Tok mixed (.q 0 <| .q 2 <| .q 3 <| .e 1 [3] <| .e 4 [] <| .e 5 [] <| .e 6 [] <| .done) (by kernel_rfl) (by kernel_rfl) ?_
  simp only [↓sx0, sxE, encs, sevalprocAttr]
  refine CallI.ctr (mirroredC_s b cn rn ls hn hc hr) (by simp only [sx3, encs, sxR, sevalprocAttr] <;> (try simp) <;> (try rfl)) ?_
  rintro _ rfl
  simp only [↓sx0, sxE, encs, sevalprocAttr]
  refine CallI.fn (foldLeft_s false cn rn ((cn : Int) - count).toNat count (grid cn rn (mirG true false cn rn ls)) (fineP_mir hf) (grid_length _ _ _) hc hr hfi.symm (by omega)) (by simp only [sx3, encs, sxR, sevalprocAttr] <;> (try simp) <;> (try rfl)) ?_
  simp only [↓sx0, sxE, encs, sevalprocAttr]
  refine CallI.ctr (mirroredC_s true ((cn : Int) - count).toNat rn (laidG cn rn ((cn : Int) - count).toNat false false (grid cn rn (mirG true false cn rn ls))) (by simp [laidG, grid_length]) (by omega) hr) (by simp only [sx3, encs, sxR, sevalprocAttr] <;> (try simp) <;> (try rfl)) ?_
  rintro _ rfl
  rw [mir_left ls (by omega)]
  simp only [↓sx0, sxE, encs, sevalprocAttr]
  rw [hfo]
  refine EndW.fn ?_ ?_ <;> simp only [sx4, encs, kpLL_map, sxR, sevalprocAttr] <;> (try simp [foldSide]) <;> (try omega)
 ·simp only [foldSide] at hb
  have h1 : 1 ≤ count ∧ 2 * count ≤ rn := by simpa using hb
  have hfi : (((((rn : Nat) : Int) - count).toNat : Nat) : Int) = (rn : Int) - count := by omega
  refine Ctr.of (rs := [.cell 4 81]) Tok true Tryz.func62 rfl rfl rfl rfl (by simp [ofDL]) (fun w0 kp => ?_)
  simp only [↓sx0, sxE, encs, sevalprocAttr]
  refine CallI.fn (foldUp_s b cn rn ((rn : Int) - count).toNat count ls hf hn hc hr hfi.symm (by omega)) (by simp only [sx3, encs, sxR, sevalprocAttr] <;> (try simp) <;> (try rfl)) ?_
  simp only [↓sx0, sxE, encs, sevalprocAttr]
  rw [hfo]
  refine EndW.fn ?_ ?_ <;> simp only [sx4, encs, kpLL_map, sxR, sevalprocAttr] <;> (try simp [foldSide]) <;> (try omega)
 ·simp only [foldSide] at hb
  have h1 : 1 ≤ count ∧ 2 * count ≤ rn := by simpa using hb
  have hfi : (((((rn : Nat) : Int) - count).toNat : Nat) : Int) = (rn : Int) - count := by omega
  refine Ctr.of (rs := [.cell 4 81]) Tok true Tryz.func62 rfl rfl rfl rfl (by simp [ofDL]) (fun w0 kp => ?_)
  simp only [↓sx0, sxE, encs, sevalprocAttr]
  refine DrawW.plan Tok mixed (.q 0 <| .q 2 <| .q 3 <| .e 1 [3] <| .e 4 [] <| .e 5 [] <| .e 6 [] <| .done) (by kernel_rfl) (by kernel_rfl) ?_
  simp only [↓sx0, sxE, encs, sevalprocAttr]
  refine CallI.ctr (mirroredR_s b cn rn ls hn hc hr) (by simp only [sx3, encs, sxR, sevalprocAttr] <;> (try simp) <;> (try rfl)) ?_
  rintro _ rfl
  simp only [↓sx0, sxE, encs, sevalprocAttr]
  refine CallI.fn (foldUp_s false cn rn ((rn : Int) - count).toNat count (grid cn rn (mirG false true cn rn ls)) (fineP_mir hf) (grid_length _ _ _) hc hr hfi.symm (by omega)) (by simp only [sx3, encs, sxR, sevalprocAttr] <;> (try simp) <;> (try rfl)) ?_
  simp only [↓sx0, sxE, encs, sevalprocAttr]
  refine CallI.ctr (mirroredR_s true cn ((rn : Int) - count).toNat (laidG cn rn ((rn : Int) - count).toNat true false (grid cn rn (mirG false true cn rn ls))) (by simp [laidG, grid_length]) hc (by omega)) (by simp only [sx3, encs, sxR, sevalprocAttr] <;> (try simp) <;> (try rfl)) ?_
  rintro _ rfl
  rw [mir_up ls (by omega)]
  simp only [↓sx0, sxE, encs, sevalprocAttr]
  rw [hfo]
  refine EndW.fn ?_ ?_ <;> simp only [sx4, encs, kpLL_map, sxR, sevalprocAttr] <;> (try simp [foldSide]) <;> (try omega)
 ·refine Ctr.of (rs := [.cell 4 81]) Tok true Tryz.func62 rfl rfl rfl rfl (by simp [ofDL]) (fun w0 kp => ?_)
  simp only [↓sx0, sxE, encs, sevalprocAttr]
  refine CallI.fn (overR_s b cn rn ls hf hn hc hr) (by simp only [sx3, encs, sxR, sevalprocAttr] <;> (try simp) <;> (try rfl)) ?_
  simp only [↓sx0, sxE, encs, sevalprocAttr]
  rw [hfo]
  refine EndW.fn ?_ ?_ <;> simp only [sx4, encs, kpLL_map, sxR, sevalprocAttr] <;> (try simp) <;> (try omega)
 ·refine Ctr.of (rs := [.cell 4 81]) Tok true Tryz.func62 rfl rfl rfl rfl (by simp [ofDL]) (fun w0 kp => ?_)
  simp only [↓sx0, sxE, encs, sevalprocAttr]
  refine CallI.fn (roundR_s b cn rn ls hf hn hc hr) (by simp only [sx3, encs, sxR, sevalprocAttr] <;> (try simp) <;> (try rfl)) ?_
  simp only [↓sx0, sxE, encs, sevalprocAttr]
  rw [hfo]
  refine EndW.fn ?_ ?_ <;> simp only [sx4, encs, kpLL_map, sxR, sevalprocAttr] <;> (try simp) <;> (try omega)
/-- the pile, and the number and the error of a wrong fold. -/
def runR (c r : Nat) (l : List Fold) : PileS × Int × Int :=
 match foldRun (flatP c r) 0 l with
 | (p, some (i, e)) => (p, i, e)
 | (p, none) => (p, 0, 0)
theorem foldedR_s (b : Bool) (cn rn : Nat) (l : List Fold) (hc : 1 ≤ cn ∧ cn ≤ 8) (hr : 1 ≤ rn ∧ rn ≤ 8) (hl : l.length ≤ 12) : Ctr Tryz.prog 37 [(.v (.int .i64 cn)), (.v (.int .i64 rn)), .sl b 2 (l.map eF)] (fun rr => rr = ⟨.tup [.agg [(.v (.int .i64 ((runR cn rn l).1.cols))), (.v (.int .i64 ((runR cn rn l).1.rows))), .sl true 1 ((runR cn rn l).1.ls.map eK)], (.v (.int .i64 ((runR cn rn l).2.1))), (.v (.int .i64 ((runR cn rn l).2.2)))], []⟩) := by
 refine Ctr.of (rs := [.cell 6 81, .tmp 7, .tmp 8]) Tok true Tryz.func37 rfl rfl rfl rfl (by simp [ofDL]) (fun w0 kp => ?_)
 simp only [↓sx0, sxE, encs, sevalprocAttr]
 refine CallI.fn (flatR_s cn rn (by omega) (by omega)) (by simp only [sx3, encs, sxR, sevalprocAttr] <;> (try simp) <;> (try rfl)) ?_
 simp only [↓sx0, sxE, encs, sevalprocAttr]
 refine LoopW.comp [2, 6, 9, 10] (by simp only [sx2, encs, sxR, sevalprocAttr] <;> (try simp) <;> (try omega)) ?_
 simp only [sx2, sxR, sevalprocAttr]
 refine LoopW.up Tok (fun x : Nat × PileS => [(10, (.v (.int .i64 x.1)))]) (fun x => [(1, [(.v (.int .i64 x.2.cols)), (.v (.int .i64 x.2.rows)), .sl true 1 (x.2.ls.map eK)])]) (fun x => []) (fun x => []) (fun x => x.1 ≤ l.length ∧ x.2.Good (2 ^ x.1) ∧ foldRun (flatP cn rn) 0 l = foldRun x.2 x.1 (l.drop x.1)) (fun x => l.length - x.1) ((0, flatP cn rn)) (by simp only [sx2, encs, sxR, sevalprocAttr] <;> (try simp [flatP, encs]) <;> (try omega)) ?_ ?_
 ·exact ⟨by simp, flatP_good (by omega) (by omega) (by omega) (by omega), rfl⟩
 rintro ⟨k, p⟩ ⟨hk, hg, hrun⟩
 simp only [] at hk hg hrun
 have h2k : (2 : Nat) ^ k ≤ 2 ^ 12 := Nat.pow_le_pow_right (by omega) (by omega)
 simp only [↓sx0, sxE, encs, sevalprocAttr]
 refine BrW.dec (fun hlt => ?_) (fun hlt => ?_)
 ·simp only [↓sx0, sxE, encs, sevalprocAttr]
  have hk' : k < l.length := by omega
  rw [List.drop_eq_getElem_cons hk'] at hrun
  simp only [foldRun] at hrun
  refine DrawW.plan Tok mixed (.q 0 <| .q 1 <| .q 2 <| .q 3 <| .q 4 <| .q 5 <| .q 6 <| .q 7 <| .e 8 [] <| .q 9 <| .done) (by kernel_rfl) (by kernel_rfl) ?_
  simp only [↓sx0, sxE, encs, sevalprocAttr]
  refine IxW.nat hk' ?_
  simp only [↓sx0, sxE, encs, sevalprocAttr]
  refine CallI.fn (foldErr_s p.cols p.rows p.ls l[k] hg.c2 hg.r2) (by simp only [sx3, encs, sxR, sevalprocAttr] <;> (try simp) <;> (try rfl)) ?_
  simp only [↓sx0, sxE, encs, sevalprocAttr]
  refine BrW.dec (fun herr => ?_) (fun herr => ?_)
  ·simp only [↓sx0, sxE, encs, sevalprocAttr]
   have herr2 : ¬ foldErrS p l[k] = 0 := herr
   rw [if_pos (by simpa using herr2)] at hrun
   have hpp : foldP p l[k] = p := by unfold foldP; rw [if_pos herr2]
   rw [hpp] at hrun
   refine EndW.fn ?_ ?_ <;> simp only [sx4, encs, kpLL_map, sxR, sevalprocAttr] <;> (try simp [runR, hrun]) <;> (try omega)
  ·simp only [↓sx0, sxE, encs, sevalprocAttr]
   have h0 : foldErrS p l[k] = 0 := Decidable.not_not.1 herr
   rw [if_neg (by simp [h0])] at hrun
   refine DrawW.plan Tok mixed (.q 0 <| .q 1 <| .q 2 <| .q 3 <| .q 4 <| .e 5 [] <| .e 6 [] <| .done) (by kernel_rfl) (by kernel_rfl) ?_
   simp only [↓sx0, sxE, encs, sevalprocAttr]
   refine IxW.nat hk' ?_
   simp only [↓sx0, sxE, encs, sevalprocAttr]
   refine CallI.fn (foldHeap_s true p (hg.ok (by omega)) l[k] h0) (by simp only [sx3, encs, sxR, sevalprocAttr] <;> (try simp) <;> (try rfl)) ?_
   simp only [↓sx0, sxE, encs, sevalprocAttr]
   (with_reducible refine Vc.go ?_ fun _ => ?_); focus (first | omega | (simp only [InK]; omega) | (simp [InK]; done) | (simp [InK]; omega))
   simp only [↓sx0, sxE, encs, sevalprocAttr]
   refine ⟨(k + 1, foldP p l[k]), StLe.auto (by simp only [sx2, encs, sxR, sevalprocAttr] <;> (try simp) <;> (try omega)), ?_, ?_⟩
   ·exact ⟨hk', by have := foldP_good hg h0; rwa [Nat.pow_succ, Nat.mul_comm] , hrun⟩
   ·show l.length - (k + 1) < l.length - k; omega
 ·simp only [↓sx0, sxE, encs, sevalprocAttr]
  have hke : k = l.length := by omega
  subst hke
  rw [List.drop_length] at hrun
  simp only [foldRun] at hrun
  refine EndW.fn ?_ ?_ <;> simp only [sx4, encs, kpLL_map, sxR, sevalprocAttr] <;> (try simp [runR, hrun]) <;> (try omega)
end Go.Proofs.YteajjcbinnjgaaaGreatDoor
