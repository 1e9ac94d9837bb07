/-
  Chapter 6, walks: the law of folds.
-/
import Derived.Test.YtfpkpokkgbobmaaVW34
import Derived.Test.YtfpkpokkgbobmaaVP6Each
namespace Go.Proofs.Ytfpkpokkgbobmaa
open Go Go.Vx
set_option linter.unusedSimpArgs false
set_option maxRecDepth 20000
theorem folded_run {cn rn : Nat} {l : List Fold} (hs : sheetErr cn rn = 0) (hl : l.length ≤ 12) : foldedS cn rn l = if (runR cn rn l).2.2 ≠ 0 then ([], (runR cn rn l).2.1, (runR cn rn l).2.2) else if 1 < (runR cn rn l).1.ls.length then ([], l.length, 25) else ((runR cn rn l).1.ls.headD [], 0, 0) := by
  have hne := run_err l (flatP cn rn) 0
  unfold foldedS runR
  rw [if_neg (by simpa using hs), if_neg (by omega), Int.toNat_natCast, Int.toNat_natCast]
  generalize foldRun (flatP cn rn) 0 l = q at *
  obtain ⟨q, _ | ⟨i, e⟩⟩ := q
  · rfl
  · have := hne i e rfl
    simp [this]
theorem run_good1 {cn rn : Nat} {l : List Fold} (hc : 1 ≤ cn ∧ cn ≤ 8) (hr : 1 ≤ rn ∧ rn ≤ 8) (h : (runR cn rn l).2.2 = 0) : ∃ h', (runR cn rn l).1.Good h' := by
  have hne := run_err l (flatP cn rn) 0
  have hp := run_perm l (flatP cn rn) 0 1 (flatP_good (by omega) (by omega) (by omega) (by omega))
  unfold runR at h ⊢
  generalize foldRun (flatP cn rn) 0 l = q at *
  obtain ⟨q, _ | ⟨i, e⟩⟩ := q
  · exact (hp rfl).2
  · exact absurd h (hne i e rfl)
theorem checkFoldsR_s (b : Bool) (c r : Int) (l : List Fold) : Ctr Try.prog 21 [.agg [(.v (.int .i64 c)), (.v (.int .i64 r))], .sl b 2 (l.map eF)] (fun rr => rr = ⟨.tup [(.v (.int .i64 ((foldedS c r l).2.1))), (.v (.int .i64 ((foldedS c r l).2.2)))], []⟩) := by
  refine Ctr.of (rs := [.tmp 4, .tmp 5]) Tok true Try.func21 rfl rfl rfl rfl (by simp [ofDL]) (fun w0 kp => ?_)
  simp only [↓sxD, ↓sxP0, sxP1, sxF, sxA, sxS, sxK, encs, tys, sxN, sevalprocAttr, ne_eq, decide_true, decide_false]
  repeat ((with_reducible refine Vc.go ?_ fun _ => ?_); (focus (first | omega | (simp only [InK]; omega) | (simp [InK]; done) | (simp [InK]; omega))); simp only [↓sxD, ↓sxP0, sxP1, sxF, sxA, sxS, sxK, encs, tys, sxN, sevalprocAttr, ne_eq, decide_true, decide_false])
  refine CallI.fn (checkSheetR_s c r) (by simp only [sxA, sxL, sxF, encs, sxN, sevalprocAttr, ne_eq, decide_true, decide_false] <;> (try simp)) ?_
  simp only [↓sxD, ↓sxP0, sxP1, sxF, sxA, sxS, sxK, encs, tys, sxN, sevalprocAttr, ne_eq, decide_true, decide_false]
  refine BrW.dec (fun he => ?_) (fun he => ?_)
  · simp only [↓sxD, ↓sxP0, sxP1, sxF, sxA, sxS, sxK, encs, tys, sxN, sevalprocAttr, ne_eq, decide_true, decide_false]
    exact EndW.fn (by simp only [sxL, encs, kpLL_map, sxN, sevalprocAttr, ne_eq, decide_true, decide_false] <;> (try simp [foldedS, he]) <;> (try omega)) (by simp only [sxL, encs, kpLL_map, sxN, sevalprocAttr, ne_eq, decide_true, decide_false] <;> (try simp) <;> (try omega))
  · have he0 : sheetErr c r = 0 := Decidable.not_not.1 he
    have hsh := sheet_ok he0
    simp only [↓sxD, ↓sxP0, sxP1, sxF, sxA, sxS, sxK, encs, tys, sxN, sevalprocAttr, ne_eq, decide_true, decide_false]
    refine BrW.dec (fun hlen => ?_) (fun hlen => ?_)
    · simp only [↓sxD, ↓sxP0, sxP1, sxF, sxA, sxS, sxK, encs, tys, sxN, sevalprocAttr, ne_eq, decide_true, decide_false]
      have : 12 < l.length := by omega
      exact EndW.fn (by simp only [sxL, encs, kpLL_map, sxN, sevalprocAttr, ne_eq, decide_true, decide_false] <;> (try simp [foldedS, he0, this]) <;> (try omega)) (by simp only [sxL, encs, kpLL_map, sxN, sevalprocAttr, ne_eq, decide_true, decide_false] <;> (try simp) <;> (try omega))
    · have hlen2 : l.length ≤ 12 := by omega
      obtain ⟨cn, rfl⟩ : ∃ cn : Nat, c = cn := ⟨c.toNat, by omega⟩
      obtain ⟨rn, rfl⟩ : ∃ rn : Nat, r = rn := ⟨r.toNat, by omega⟩
      have hfr := folded_run (l := l) he0 hlen2
      simp only [↓sxD, ↓sxP0, sxP1, sxF, sxA, sxS, sxK, encs, tys, sxN, sevalprocAttr, ne_eq, decide_true, decide_false]
      repeat ((with_reducible refine Vc.go ?_ fun _ => ?_); (focus (first | omega | (simp only [InK]; omega) | (simp [InK]; done) | (simp [InK]; omega))); simp only [↓sxD, ↓sxP0, sxP1, sxF, sxA, sxS, sxK, encs, tys, sxN, sevalprocAttr, ne_eq, decide_true, decide_false])
      refine CallI.fn (foldedR_s b cn rn l (by omega) (by omega) hlen2) (by simp only [sxA, sxL, sxF, encs, sxN, sevalprocAttr, ne_eq, decide_true, decide_false] <;> (try simp)) ?_
      simp only [↓sxD, ↓sxP0, sxP1, sxF, sxA, sxS, sxK, encs, tys, sxN, sevalprocAttr, ne_eq, decide_true, decide_false]
      refine BrW.dec (fun h1 => ?_) (fun h1 => ?_)
      · simp only [↓sxD, ↓sxP0, sxP1, sxF, sxA, sxS, sxK, encs, tys, sxN, sevalprocAttr, ne_eq, decide_true, decide_false]
        exact EndW.fn (by simp only [sxL, encs, kpLL_map, sxN, sevalprocAttr, ne_eq, decide_true, decide_false] <;> (try simp [hfr, h1]) <;> (try omega)) (by simp only [sxL, encs, kpLL_map, sxN, sevalprocAttr, ne_eq, decide_true, decide_false] <;> (try simp) <;> (try omega))
      · have h10 : (runR cn rn l).2.2 = 0 := Decidable.not_not.1 h1
        obtain ⟨h', hg⟩ := run_good1 (by omega) (by omega) h10
        have hpl := hg.len
        have hpos : 1 * 1 ≤ (runR cn rn l).1.rows * (runR cn rn l).1.cols := Nat.mul_le_mul hg.r1 hg.c1
        simp only [↓sxD, ↓sxP0, sxP1, sxF, sxA, sxS, sxK, encs, tys, sxN, sevalprocAttr, ne_eq, decide_true, decide_false]
        refine BrW.dec (fun h2 => ?_) (fun h2 => ?_)
        · have h3 : 1 < (runR cn rn l).1.ls.length := by omega
          simp only [↓sxD, ↓sxP0, sxP1, sxF, sxA, sxS, sxK, encs, tys, sxN, sevalprocAttr, ne_eq, decide_true, decide_false]
          exact EndW.fn (by simp only [sxL, encs, kpLL_map, sxN, sevalprocAttr, ne_eq, decide_true, decide_false] <;> (try simp [hfr, h10, h3]) <;> (try omega)) (by simp only [sxL, encs, kpLL_map, sxN, sevalprocAttr, ne_eq, decide_true, decide_false] <;> (try simp) <;> (try omega))
        · have h3 : ¬ 1 < (runR cn rn l).1.ls.length := by omega
          simp only [↓sxD, ↓sxP0, sxP1, sxF, sxA, sxS, sxK, encs, tys, sxN, sevalprocAttr, ne_eq, decide_true, decide_false]
          exact EndW.fn (by simp only [sxL, encs, kpLL_map, sxN, sevalprocAttr, ne_eq, decide_true, decide_false] <;> (try simp [hfr, h10, h3]) <;> (try omega)) (by simp only [sxL, encs, kpLL_map, sxN, sevalprocAttr, ne_eq, decide_true, decide_false] <;> (try simp) <;> (try omega))
theorem pileR_s (b : Bool) (c r : Int) (l : List Fold) (h : (foldedS c r l).2.2 = 0) : Ctr Try.prog 22 [.agg [(.v (.int .i64 c)), (.v (.int .i64 r))], .sl b 2 (l.map eF)] (fun rr => rr = ⟨.sl true 4 ((foldedS c r l).1.map eL), []⟩) := by
  obtain ⟨s1, s2, s3, s4, he0⟩ := folded_sheet h
  have hlen2 : l.length ≤ 12 := by
    rcases Nat.lt_or_ge 12 l.length with hh | hh
    · unfold foldedS at h; rw [if_neg (by simpa using he0), if_pos hh] at h; simp at h
    · exact hh
  obtain ⟨cn, rfl⟩ : ∃ cn : Nat, c = cn := ⟨c.toNat, by omega⟩
  obtain ⟨rn, rfl⟩ : ∃ rn : Nat, r = rn := ⟨r.toNat, by omega⟩
  have hfr := folded_run (l := l) he0 hlen2
  have h10 : (runR cn rn l).2.2 = 0 := by
    rcases Decidable.em ((runR cn rn l).2.2 = 0) with hh | hh
    · exact hh
    · rw [hfr, if_pos hh] at h; exact absurd h hh
  have h3 : ¬ 1 < (runR cn rn l).1.ls.length := fun hh => by
    rw [hfr, if_neg (by simpa using h10), if_pos hh] at h; simp at h
  obtain ⟨h', hg⟩ := run_good1 (by omega) (by omega) h10
  obtain ⟨s, hs⟩ := good_one hg h3
  refine Ctr.of (rs := [.tmp 4]) Tok true Try.func22 rfl rfl rfl rfl (by simp [ofDL]) (fun w0 kp => ?_)
  simp only [↓sxD, ↓sxP0, sxP1, sxF, sxA, sxS, sxK, encs, tys, sxN, sevalprocAttr, ne_eq, decide_true, decide_false]
  repeat ((with_reducible refine Vc.go ?_ fun _ => ?_); (focus (first | omega | (simp only [InK]; omega) | (simp [InK]; done) | (simp [InK]; omega))); simp only [↓sxD, ↓sxP0, sxP1, sxF, sxA, sxS, sxK, encs, tys, sxN, sevalprocAttr, ne_eq, decide_true, decide_false])
  refine CallI.fn (foldedR_s b cn rn l (by omega) (by omega) hlen2) (by simp only [sxA, sxL, sxF, encs, sxN, sevalprocAttr, ne_eq, decide_true, decide_false] <;> (try simp)) ?_
  simp only [↓sxD, ↓sxP0, sxP1, sxF, sxA, sxS, sxK, encs, tys, sxN, sevalprocAttr, ne_eq, decide_true, decide_false]
  refine IxW.map s (by omega) (by simp [hs]) ?_
  simp only [↓sxD, ↓sxP0, sxP1, sxF, sxA, sxS, sxK, encs, tys, sxN, sevalprocAttr, ne_eq, decide_true, decide_false]
  exact EndW.fn (by simp only [sxL, encs, kpLL_map, sxN, sevalprocAttr, ne_eq, decide_true, decide_false] <;> (try simp [hfr, h10, h3, hs, kpL, kpD]) <;> (try omega)) (by simp only [sxL, encs, kpLL_map, sxN, sevalprocAttr, ne_eq, decide_true, decide_false] <;> (try simp) <;> (try omega))
def seenA (c : Int) (s : List Leaf) (k : Nat) : List Int := (s.take k).map (atI c)
theorem seenA_zero (c : Int) (s : List Leaf) : seenA c s 0 = [] := rfl
theorem seenA_succ {c : Int} {s : List Leaf} {k : Nat} (h : k < s.length) : seenA c s (k + 1) = seenA c s k ++ [atI c s[k]] := by
  unfold seenA; rw [List.take_succ_eq_append_getElem h, List.map_append]; rfl
theorem seenA_len (c : Int) (s : List Leaf) (k : Nat) : (seenA c s k).length ≤ s.length := by simp [seenA]; omega
set_option maxHeartbeats 1000000 in
theorem foldsLaw_s (b : Bool) (c r : Int) (l : List Fold) (hl : Cnt l) : Ctr Try.prog 4 [.agg [(.v (.int .i64 c)), (.v (.int .i64 r))], .sl b 2 (l.map eF)] (fun rr => rr = ⟨(.v (.bool (true))), []⟩) := by
  have hfl := folded_len c r l
  refine Ctr.of (rs := [.tmp 4]) Tok true Try.func4 rfl rfl rfl rfl (by simp [ofDL]) (fun w0 kp => ?_)
  simp only [↓sxD, ↓sxP0, sxP1, sxF, sxA, sxS, sxK, encs, tys, sxN, sevalprocAttr, ne_eq, decide_true, decide_false]
  refine CallI.fn (awake_s) (by simp only [sxA, sxL, sxF, encs, sxN, sevalprocAttr, ne_eq, decide_true, decide_false] <;> (try simp)) ?_
  simp only [↓sxD, ↓sxP0, sxP1, sxF, sxA, sxS, sxK, encs, tys, sxN, sevalprocAttr, ne_eq, decide_true, decide_false]
  refine BrW.dec (fun hn => ?_) (fun hn => ?_)
  · simp only [↓sxD, ↓sxP0, sxP1, sxF, sxA, sxS, sxK, encs, tys, sxN, sevalprocAttr, ne_eq, decide_true, decide_false]
    exact EndW.fn (by simp only [sxL, encs, kpLL_map, sxN, sevalprocAttr, ne_eq, decide_true, decide_false] <;> (try simp) <;> (try omega)) (by simp only [sxL, encs, kpLL_map, sxN, sevalprocAttr, ne_eq, decide_true, decide_false] <;> (try simp) <;> (try omega))
  · simp only [↓sxD, ↓sxP0, sxP1, sxF, sxA, sxS, sxK, encs, tys, sxN, sevalprocAttr, ne_eq, decide_true, decide_false]
    refine DrawW.plan Tok mixed (.q 0 <| .q 1 <| .e 2 [0] <| .e 3 [] <| .q 4 <| .q 5 <| .q 6 <| .q 7 <| .q 8 <| .done) (by kernel_rfl) (by kernel_rfl) ?_
    simp only [↓sxD, ↓sxP0, sxP1, sxF, sxA, sxS, sxK, encs, tys, sxN, sevalprocAttr, ne_eq, decide_true, decide_false]
    refine CallI.ctr (folds_s b l (by omega)) (by simp only [sxA, sxL, sxF, encs, sxN, sevalprocAttr, ne_eq, decide_true, decide_false] <;> (try simp)) ?_
    rintro _ rfl
    simp only [↓sxD, ↓sxP0, sxP1, sxF, sxA, sxS, sxK, encs, tys, sxN, sevalprocAttr, ne_eq, decide_true, decide_false]
    refine CallI.fn (checkFolds_s false c r l hl) (by simp only [sxA, sxL, sxF, encs, sxN, sevalprocAttr, ne_eq, decide_true, decide_false] <;> (try simp)) ?_
    simp only [↓sxD, ↓sxP0, sxP1, sxF, sxA, sxS, sxK, encs, tys, sxN, sevalprocAttr, ne_eq, decide_true, decide_false]
    refine DrawW.plan Tok mixed (.q 0 <| .q 1 <| .e 2 [0] <| .e 3 [] <| .q 4 <| .q 5 <| .q 6 <| .q 7 <| .q 8 <| .done) (by kernel_rfl) (by kernel_rfl) ?_
    simp only [↓sxD, ↓sxP0, sxP1, sxF, sxA, sxS, sxK, encs, tys, sxN, sevalprocAttr, ne_eq, decide_true, decide_false]
    refine CallI.ctr (folds_s b l (by omega)) (by simp only [sxA, sxL, sxF, encs, sxN, sevalprocAttr, ne_eq, decide_true, decide_false] <;> (try simp)) ?_
    rintro _ rfl
    simp only [↓sxD, ↓sxP0, sxP1, sxF, sxA, sxS, sxK, encs, tys, sxN, sevalprocAttr, ne_eq, decide_true, decide_false]
    refine CallI.fn (pile_s false c r l hl) (by simp only [sxA, sxL, sxF, encs, sxN, sevalprocAttr, ne_eq, decide_true, decide_false] <;> (try simp)) ?_
    simp only [↓sxD, ↓sxP0, sxP1, sxF, sxA, sxS, sxK, encs, tys, sxN, sevalprocAttr, ne_eq, decide_true, decide_false]
    refine CallI.fn (checkFoldsR_s b c r l) (by simp only [sxA, sxL, sxF, encs, sxN, sevalprocAttr, ne_eq, decide_true, decide_false] <;> (try simp)) ?_
    simp only [↓sxD, ↓sxP0, sxP1, sxF, sxA, sxS, sxK, encs, tys, sxN, sevalprocAttr, ne_eq, decide_true, decide_false]
    refine BrW.ff (by simp) ?_
    simp only [↓sxD, ↓sxP0, sxP1, sxF, sxA, sxS, sxK, encs, tys, sxN, sevalprocAttr, ne_eq, decide_true, decide_false]
    refine BrW.ff (by simp) ?_
    simp only [↓sxD, ↓sxP0, sxP1, sxF, sxA, sxS, sxK, encs, tys, sxN, sevalprocAttr, ne_eq, decide_true, decide_false]
    refine BrW.dec (fun he => ?_) (fun he => ?_)
    · have hbad := folded_bad he
      simp only [↓sxD, ↓sxP0, sxP1, sxF, sxA, sxS, sxK, encs, tys, sxN, sevalprocAttr, ne_eq, decide_true, decide_false]
      rw [hbad]
      simp only [↓sxD, ↓sxP0, sxP1, sxF, sxA, sxS, sxK, encs, tys, sxN, sevalprocAttr, ne_eq, decide_true, decide_false]
      exact EndW.fn (by simp only [sxL, encs, kpLL_map, sxN, sevalprocAttr, ne_eq, decide_true, decide_false] <;> (try simp) <;> (try omega)) (by simp only [sxL, encs, kpLL_map, sxN, sevalprocAttr, ne_eq, decide_true, decide_false] <;> (try simp) <;> (try omega))
    · have he0 : (foldedS c r l).2.2 = 0 := Decidable.not_not.1 he
      obtain ⟨s1, s2, s3, s4, s5⟩ := folded_sheet he0
      obtain ⟨cn, rfl⟩ : ∃ cn : Nat, c = cn := ⟨c.toNat, by omega⟩
      obtain ⟨rn, rfl⟩ : ∃ rn : Nat, r = rn := ⟨r.toNat, by omega⟩
      simp only [↓sxD, ↓sxP0, sxP1, sxF, sxA, sxS, sxK, encs, tys, sxN, sevalprocAttr, ne_eq, decide_true, decide_false]
      refine BrW.ff (by simp [he0]) ?_
      simp only [↓sxD, ↓sxP0, sxP1, sxF, sxA, sxS, sxK, encs, tys, sxN, sevalprocAttr, ne_eq, decide_true, decide_false]
      refine CallI.fn (pileR_s b cn rn l he0) (by simp only [sxA, sxL, sxF, encs, sxN, sevalprocAttr, ne_eq, decide_true, decide_false] <;> (try simp)) ?_
      simp only [↓sxD, ↓sxP0, sxP1, sxF, sxA, sxS, sxK, encs, tys, sxN, sevalprocAttr, ne_eq, decide_true, decide_false]
      refine CallI.fn (sameLeaves_s true true (foldedS cn rn l).1 (foldedS cn rn l).1 (by omega)) (by simp only [sxA, sxL, sxF, encs, sxN, sevalprocAttr, ne_eq, decide_true, decide_false] <;> (try simp)) ?_
      simp only [↓sxD, ↓sxP0, sxP1, sxF, sxA, sxS, sxK, encs, tys, sxN, sevalprocAttr, ne_eq, decide_true, decide_false]
      have hin := fun x hx => pile_in he0 (x := x) hx
      have hon := fun i hi => pile_once he0 (i := i) hi
      have hln := pile_len he0
      generalize (foldedS cn rn l).1 = s at *
      have hrc : rn * cn ≤ 8 * 8 := Nat.mul_le_mul (by omega) (by omega)
      refine LoopW.comp [2, 7, 11, 12] (by simp only [sxS, sxL, sxF, encs, sxN, sevalprocAttr, ne_eq, decide_true, decide_false] <;> (try simp) <;> (try omega)) ?_
      simp only [sxS, sxF, sxN, sevalprocAttr, ne_eq, decide_true, decide_false]
      refine LoopW.up Tok (fun k : Nat => [(11, .row 0), (12, (.v (.int .i64 k)))]) (fun k => []) (fun k => []) (fun k => [.own 3 1 ((seenA cn s k).map eI)]) (fun k => k ≤ s.length) (fun k => s.length - k) (0) (by simp only [sxS, sxL, sxF, encs, sxN, sevalprocAttr, ne_eq, decide_true, decide_false] <;> (try simp [seenA_zero, encs]) <;> (try omega)) ?_ ?_
      · omega
      rintro k hk
      have hsl := seenA_len (cn : Int) s k
      simp only [↓sxD, ↓sxP0, sxP1, sxF, sxA, sxS, sxK, encs, tys, sxN, sevalprocAttr, ne_eq, decide_true, decide_false]
      refine BrW.dec (fun hlt => ?_) (fun hlt => ?_)
      · have hk2 : k < s.length := by omega
        obtain ⟨⟨b1, b2⟩, b3, b4⟩ := hin _ (List.getElem_mem hk2)
        have b5 : s[k].row * (cn : Int) ≤ 8 * 8 := Int.mul_le_mul (by omega) (by omega) (by omega) (by omega)
        have b6 : 0 ≤ s[k].row * (cn : Int) := Int.mul_nonneg b3 (by omega)
        have hno : decide (s[k].row * (cn : Int) + s[k].col ∈ seenA cn s k) = false := decide_eq_false (hon k hk2)
        simp only [↓sxD, ↓sxP0, sxP1, sxF, sxA, sxS, sxK, encs, tys, sxN, sevalprocAttr, ne_eq, decide_true, decide_false]
        refine DrawW.plan Tok mixed (.q 0 <| .q 1 <| .q 2 <| .q 3 <| .q 4 <| .q 5 <| .q 6 <| .q 7 <| .q 8 <| .q 9 <| .q 10 <| .q 11 <| .q 12 <| .q 13 <| .q 14 <| .done) (by kernel_rfl) (by kernel_rfl) ?_
        simp only [↓sxD, ↓sxP0, sxP1, sxF, sxA, sxS, sxK, encs, tys, sxN, sevalprocAttr, ne_eq, decide_true, decide_false]
        repeat ((with_reducible refine Vc.go ?_ fun _ => ?_); (focus (first | omega | (simp only [InK]; omega) | (simp [InK]; done) | (simp [InK]; omega))); simp only [↓sxD, ↓sxP0, sxP1, sxF, sxA, sxS, sxK, encs, tys, sxN, sevalprocAttr, ne_eq, decide_true, decide_false])
        refine IxW.nat hk2 ?_
        simp only [↓sxD, ↓sxP0, sxP1, sxF, sxA, sxS, sxK, encs, tys, sxN, sevalprocAttr, ne_eq, decide_true, decide_false]
        repeat ((with_reducible refine Vc.go ?_ fun _ => ?_); (focus (first | omega | (simp only [InK]; omega) | (simp [InK]; done) | (simp [InK]; omega))); simp only [↓sxD, ↓sxP0, sxP1, sxF, sxA, sxS, sxK, encs, tys, sxN, sevalprocAttr, ne_eq, decide_true, decide_false])
        refine IxW.nat hk2 ?_
        simp only [↓sxD, ↓sxP0, sxP1, sxF, sxA, sxS, sxK, encs, tys, sxN, sevalprocAttr, ne_eq, decide_true, decide_false]
        repeat ((with_reducible refine Vc.go ?_ fun _ => ?_); (focus (first | omega | (simp only [InK]; omega) | (simp [InK]; done) | (simp [InK]; omega))); simp only [↓sxD, ↓sxP0, sxP1, sxF, sxA, sxS, sxK, encs, tys, sxN, sevalprocAttr, ne_eq, decide_true, decide_false])
        refine CallI.fn (has_s false (seenA cn s k) (s[k].row * (cn : Int) + s[k].col) (by omega)) (by simp only [sxA, sxL, sxF, encs, sxN, sevalprocAttr, ne_eq, decide_true, decide_false] <;> (try simp)) ?_
        simp only [↓sxD, ↓sxP0, sxP1, sxF, sxA, sxS, sxK, encs, tys, sxN, sevalprocAttr, ne_eq, decide_true, decide_false]
        refine BrW.ff hno ?_
        simp only [↓sxD, ↓sxP0, sxP1, sxF, sxA, sxS, sxK, encs, tys, sxN, sevalprocAttr, ne_eq, decide_true, decide_false]
        repeat ((with_reducible refine Vc.go ?_ fun _ => ?_); (focus (first | omega | (simp only [InK]; omega) | (simp [InK]; done) | (simp [InK]; omega))); simp only [↓sxD, ↓sxP0, sxP1, sxF, sxA, sxS, sxK, encs, tys, sxN, sevalprocAttr, ne_eq, decide_true, decide_false])
        refine ⟨k + 1, StLe.auto (by simp only [sxS, sxL, sxF, encs, sxN, sevalprocAttr, ne_eq, decide_true, decide_false] <;> (try simp [seenA_succ hk2, atI, encs]) <;> (try omega)), ?_, ?_⟩
        · omega
        · omega
      · simp only [↓sxD, ↓sxP0, sxP1, sxF, sxA, sxS, sxK, encs, tys, sxN, sevalprocAttr, ne_eq, decide_true, decide_false]
        have : k = s.length := by omega
        have b7 : (cn : Int) * rn ≤ 8 * 8 := Int.mul_le_mul (by omega) (by omega) (by omega) (by omega)
        have b8 : 0 ≤ (cn : Int) * rn := Int.mul_nonneg (by omega) (by omega)
        have hln2 : (s.length : Int) = (cn : Int) * rn := by rw [hln]; push_cast; exact Int.mul_comm _ _
        repeat ((with_reducible refine Vc.go ?_ fun _ => ?_); (focus (first | omega | (simp only [InK]; omega) | (simp [InK]; done) | (simp [InK]; omega))); simp only [↓sxD, ↓sxP0, sxP1, sxF, sxA, sxS, sxK, encs, tys, sxN, sevalprocAttr, ne_eq, decide_true, decide_false])
        exact EndW.fn (by simp only [sxL, encs, kpLL_map, sxN, sevalprocAttr, ne_eq, decide_true, decide_false] <;> (try simp [hln2]) <;> (try omega)) (by simp only [sxL, encs, kpLL_map, sxN, sevalprocAttr, ne_eq, decide_true, decide_false] <;> (try simp) <;> (try omega))
end Go.Proofs.Ytfpkpokkgbobmaa
