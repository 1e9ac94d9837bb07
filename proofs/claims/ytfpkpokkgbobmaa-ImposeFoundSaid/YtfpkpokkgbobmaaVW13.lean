/-
  Chapter 6, walks: schemes of folds.
-/
import Derived.Test.YtfpkpokkgbobmaaVW12
import Derived.Test.YtfpkpokkgbobmaaVW8
namespace Go.Proofs.Ytfpkpokkgbobmaa
open Go Go.Vx
set_option linter.unusedSimpArgs false
set_option maxRecDepth 20000
/-- all leaves are so. -/
def allP (P : Leaf → Prop) (ls : List (List Leaf)) : Prop := ∀ l ∈ ls, ∀ y ∈ l, P y
theorem allP_stk {P : Leaf → Prop} {ls : List (List Leaf)} (h : allP P ls) (i : Nat) : ∀ y ∈ stkAt ls i, P y := by
  by_cases hi : i < ls.length
  · exact h _ (List.mem_of_getElem? (stkAt_get hi))
  · have : stkAt ls i = [] := by simp [stkAt, List.getD_eq_getElem?_getD, List.getElem?_eq_none (Nat.le_of_not_lt hi)]
    rw [this]; simp
theorem allP_fold {P : Leaf → Prop} (h1 : ∀ b y, P y → P (flip b y)) (h2 : ∀ y, P y → P (rnd1 y)) {p : PileS} (h : allP P p.ls) (x : Fold) : allP P (foldP p x).ls := by
  have hf : ∀ b i, ∀ y ∈ (stkAt p.ls i).reverse.map (flip b), P y := fun b i y hy => by
    simp only [List.mem_map, List.mem_reverse] at hy
    obtain ⟨z, hz, rfl⟩ := hy
    exact h1 b z (allP_stk h i z hz)
  have hlaid : ∀ (rows back : Bool) (first along across : Nat), ∀ y ∈ laidAt p.cols p.rows first rows back p.ls along across, P y := fun rows back first along across y hy => by
    unfold laidAt at hy
    simp only [] at hy
    generalize (if back = true then first - 1 - along else along) = a at hy
    generalize (if rows = true then p.rows else p.cols) = side at hy
    split at hy
    · rcases List.mem_append.1 hy with hy | hy
      · exact hf _ _ y hy
      · exact allP_stk h _ y hy
    · exact allP_stk h _ y hy
  unfold foldP
  by_cases he : foldErrS p x ≠ 0
  · rw [if_pos he]; exact h
  rw [if_neg he]
  by_cases h5 : x.kind = 5
  · rw [if_pos h5]
    intro l hl
    obtain ⟨c, r, _, _, rfl⟩ := mem_grid hl
    exact hf _ _
  rw [if_neg h5]
  by_cases h6 : x.kind = 6
  · rw [if_pos h6]
    intro l hl
    obtain ⟨c, r, _, _, rfl⟩ := mem_grid hl
    intro y hy
    simp only [List.mem_map] at hy
    obtain ⟨z, hz, rfl⟩ := hy
    exact h2 z (allP_stk h _ z hz)
  rw [if_neg h6]
  intro l hl
  simp only [laidG] at hl
  split at hl
  · obtain ⟨c, r, _, _, rfl⟩ := mem_grid hl
    exact hlaid _ _ _ _ _
  · obtain ⟨c, r, _, _, rfl⟩ := mem_grid hl
    exact hlaid _ _ _ _ _
theorem allP_run {P : Leaf → Prop} (h1 : ∀ b y, P y → P (flip b y)) (h2 : ∀ y, P y → P (rnd1 y)) : ∀ (l : List Fold) (p : PileS) (k : Nat), allP P p.ls → allP P (foldRun p k l).1.ls
  | [], p, _, h => h
  | x :: l, p, k, h => by
    simp only [foldRun]
    split
    · exact allP_fold h1 h2 h x
    · exact allP_run h1 h2 l _ _ (allP_fold h1 h2 h x)
/-- leaves of a sheet. -/
def InS (c r : Int) (y : Leaf) : Prop := (0 ≤ y.col ∧ y.col < c) ∧ 0 ≤ y.row ∧ y.row < r
theorem folded_in (c r : Int) (l : List Fold) : ∀ y ∈ (foldedS c r l).1, InS c r y := by
  unfold foldedS
  split
  · simp
  split
  · simp
  have h0 : allP (InS c r) (flatP c.toNat r.toNat).ls := fun s hs y hy => by
    simp only [flatP, flatG] at hs
    obtain ⟨a, b, ha, hb, rfl⟩ := mem_grid hs
    simp only [oneL, List.mem_singleton] at hy
    subst hy
    simp only [InS]; omega
  have h := allP_run (P := InS c r) (fun b y hy => by simpa only [InS, flip] using hy) (fun y hy => by simpa only [InS, rnd1] using hy) l _ 0 h0
  split
  · simp
  · rename_i p hp
    rw [hp] at h
    split
    · simp
    · intro y hy
      cases hls : p.ls with
      | nil => rw [hls] at hy; simp at hy
      | cons s m => rw [hls] at hy; exact h s (by simp [hls]) y hy
def cellAt (i : Nat) (x : Leaf) : Cell := if x.over = 1 then ⟨2 * (i : Int) + 2, x.round, 2 * (i : Int) + 1, x.round⟩ else ⟨2 * (i : Int) + 1, x.round, 2 * (i : Int) + 2, x.round⟩
def schemeK (cols : Int) : List Cell → Nat → List Leaf → List Cell
  | cs, _, [] => cs
  | cs, i, x :: l => schemeK cols (cs.set (x.row * cols + x.col).toNat (cellAt i x)) (i + 1) l
def zeroC : Cell := ⟨0, 0, 0, 0⟩
/-- columns, rows, cells, and the error. -/
def schemeS (c r : Int) (l : List Fold) : Int × Int × List Cell × Int :=
  if (foldedS c r l).2.2 ≠ 0 then (0, 0, [], (foldedS c r l).2.2) else (c, r, schemeK c (List.replicate (c * r).toNat zeroC) 0 (foldedS c r l).1, 0)
theorem folded_sheet {c r : Int} {l : List Fold} (h : (foldedS c r l).2.2 = 0) : 1 ≤ c ∧ c ≤ 8 ∧ 1 ≤ r ∧ r ≤ 8 ∧ sheetErr c r = 0 := by
  have he : sheetErr c r = 0 := by
    unfold foldedS at h
    by_cases he : sheetErr c r = 0
    · exact he
    · rw [if_pos he] at h; exact h
  have he2 := he
  unfold sheetErr at he2
  by_cases h1 : 1 ≤ c ∧ c ≤ 8
  · rw [if_pos h1] at he2
    by_cases h2 : 1 ≤ r ∧ r ≤ 8
    · exact ⟨h1.1, h1.2, h2.1, h2.2, he⟩
    · rw [if_neg h2] at he2; omega
  · rw [if_neg h1] at he2; omega
theorem foldRun_good : ∀ (l : List Fold) (p : PileS) (k h : Nat), p.Good h → (foldRun p k l).2 = none → (foldRun p k l).1.Good (2 ^ l.length * h)
  | [], p, k, h, hg, _ => by simpa [foldRun] using hg
  | x :: l, p, k, h, hg, hn => by
    simp only [foldRun] at hn ⊢
    by_cases he : foldErrS p x ≠ 0
    · rw [if_pos he] at hn; simp at hn
    · rw [if_neg he] at hn ⊢
      have := foldRun_good l _ (k + 1) _ (foldP_good hg (Decidable.not_not.1 he)) hn
      rwa [← Nat.mul_assoc, ← Nat.pow_succ] at this
theorem folded_len (c r : Int) (l : List Fold) : (foldedS c r l).1.length ≤ 4096 := by
  unfold foldedS
  by_cases h0 : sheetErr c r ≠ 0
  · rw [if_pos h0]; simp
  rw [if_neg h0]
  by_cases h1 : 12 < l.length
  · rw [if_pos h1]; simp
  rw [if_neg h1]
  have hs : 1 ≤ c ∧ c ≤ 8 ∧ 1 ≤ r ∧ r ≤ 8 := by
    have he2 := Decidable.not_not.1 h0
    unfold sheetErr at he2
    by_cases h1 : 1 ≤ c ∧ c ≤ 8
    · rw [if_pos h1] at he2
      by_cases h2 : 1 ≤ r ∧ r ≤ 8
      · omega
      · rw [if_neg h2] at he2; omega
    · rw [if_neg h1] at he2; omega
  have hg := foldRun_good l (flatP c.toNat r.toNat) 0 1 (flatP_good (by omega) (by omega) (by omega) (by omega))
  split
  · simp
  · rename_i p hp
    rw [hp] at hg
    have hg := hg rfl
    split
    · simp
    · cases hls : p.ls with
      | nil => simp
      | cons s m =>
        have h3 := (hg.fine s (by simp [hls])).2
        have : (2 : Nat) ^ l.length ≤ 2 ^ 12 := Nat.pow_le_pow_right (by omega) (by omega)
        simp only [List.headD_cons]; omega
theorem scheme_s (b : Bool) (c r : Int) (f : List Fold) (hf : Cnt f) : Ctr Try.prog 47 [.agg [(.v (.int .i64 c)), (.v (.int .i64 r))], .sl b 2 (f.map eF)] (fun rr => rr = ⟨.tup [.agg [(.v (.int .i64 ((schemeS c r f).1))), (.v (.int .i64 ((schemeS c r f).2.1))), .sl true 4 ((schemeS c r f).2.2.1.map eC)], (.v (.int .i64 ((schemeS c r f).2.2.2)))], []⟩) := by
  have hin := folded_in c r f
  have hl4 := folded_len c r f
  refine Ctr.of (rs := [.cell 4 77, .tmp 5]) Tok true Try.func47 rfl rfl rfl rfl (by simp [ofDL]) (fun w0 kp => ?_)
  simp only [↓sxD, ↓sxP0, sxP1, sxF, sxA, sxS, sxK, encs, tys, sxN, sevalprocAttr, ne_eq, decide_true, decide_false]
  refine CallI.fn (folded_s b c r f hf) (by simp only [sxA, sxL, sxF, encs, sxN, sevalprocAttr, ne_eq, decide_true, decide_false] <;> (try simp)) ?_
  simp only [↓sxD, ↓sxP0, sxP1, sxF, sxA, sxS, sxK, encs, tys, sxN, sevalprocAttr, ne_eq, decide_true, decide_false]
  refine BrW.dec (fun he => ?_) (fun he => ?_)
  · simp only [↓sxD, ↓sxP0, sxP1, sxF, sxA, sxS, sxK, encs, tys, sxN, sevalprocAttr, ne_eq, decide_true, decide_false]
    exact EndW.fn (by simp only [sxL, encs, kpLL_map, sxN, sevalprocAttr, ne_eq, decide_true, decide_false] <;> (try simp [schemeS, he]) <;> (try omega)) (by simp only [sxL, encs, kpLL_map, sxN, sevalprocAttr, ne_eq, decide_true, decide_false] <;> (try simp) <;> (try omega))
  · obtain ⟨c1, c2, r1, r2, _⟩ := folded_sheet (Decidable.not_not.1 he)
    have hS : schemeS c r f = (c, r, schemeK c (List.replicate (c * r).toNat zeroC) 0 (foldedS c r f).1, 0) := by unfold schemeS; rw [if_neg he]
    generalize (foldedS c r f).1 = l at hin hS hl4
    obtain ⟨c, rfl⟩ : ∃ n : Nat, c = n := ⟨c.toNat, by omega⟩
    obtain ⟨r, rfl⟩ : ∃ n : Nat, r = n := ⟨r.toNat, by omega⟩
    have m1 : (c : Int) * r ≤ 8 * 8 := Int.mul_le_mul c2 r2 (by omega) (by omega)
    have m2 : 0 ≤ (c : Int) * r := Int.mul_nonneg (by omega) (by omega)
    simp only [↓sxD, ↓sxP0, sxP1, sxF, sxA, sxS, sxK, encs, tys, sxN, sevalprocAttr, ne_eq, decide_true, decide_false]
    refine DrawW.plan Tok mixed (.q 0 <| .q 1 <| .q 2 <| .q 3 <| .q 4 <| .q 5 <| .q 6 <| .q 7 <| .q 8 <| .e2 9 [1, 3] (.q 10 <| .e 11 [1, 3, 5, 7] <| .e 12 [] <| .done) 11 [1, 3, 5, 7] (.e 9 [1, 3] <| .q 10 <| .e 12 [] <| .done)) (by kernel_rfl) (by kernel_rfl) ?_
    simp only [↓sxD, ↓sxP0, sxP1, sxF, sxA, sxS, sxK, encs, tys, sxN, sevalprocAttr, ne_eq, decide_true, decide_false]
    repeat ((with_reducible refine Vc.go ?_ fun _ => ?_); (focus (first | omega | (simp only [InK]; omega) | (simp [InK]; done) | (simp [InK]; omega))); simp only [↓sxD, ↓sxP0, sxP1, sxF, sxA, sxS, sxK, encs, tys, sxN, sevalprocAttr, ne_eq, decide_true, decide_false])
    refine ⟨?_, ?_⟩
    all_goals
      repeat ((with_reducible refine Vc.go ?_ fun _ => ?_); (focus (first | omega | (simp only [InK]; omega) | (simp [InK]; done) | (simp [InK]; omega))); simp only [↓sxD, ↓sxP0, sxP1, sxF, sxA, sxS, sxK, encs, tys, sxN, sevalprocAttr, ne_eq, decide_true, decide_false])
      refine LoopW.comp [4, 9, 35, 36, 37] (by simp only [sxS, sxL, sxF, encs, sxN, sevalprocAttr, ne_eq, decide_true, decide_false] <;> (try simp) <;> (try omega)) ?_
      simp only [sxS, sxF, sxN, sevalprocAttr, ne_eq, decide_true, decide_false]
      refine LoopW.up Tok (fun x : Nat × List Cell => [(37, (.v (.int .i64 x.1)))]) (fun x => []) (fun x => [(0, x.2.map eC)]) (fun x => []) (fun x => x.1 ≤ l.length ∧ x.2.length = ((c : Int) * r).toNat ∧ schemeK c (List.replicate ((c : Int) * r).toNat zeroC) 0 l = schemeK c x.2 x.1 (l.drop x.1)) (fun x => l.length - x.1) ((0, List.replicate ((c : Int) * r).toNat zeroC)) (by simp only [sxS, sxL, sxF, encs, sxN, sevalprocAttr, ne_eq, decide_true, decide_false] <;> (try simp [eC, zeroC, encs]) <;> (try omega)) ?_ ?_
      · exact ⟨by simp, by simp, by simp⟩
      rintro ⟨k, cs⟩ ⟨hk, hlen, hm⟩
      simp only [] at hk hlen hm
      simp only [↓sxD, ↓sxP0, sxP1, sxF, sxA, sxS, sxK, encs, tys, sxN, sevalprocAttr, ne_eq, decide_true, decide_false]
      refine BrW.dec (fun hlt => ?_) (fun hlt => ?_)
      · have h1 : k < l.length := by omega
        rw [List.drop_eq_getElem_cons h1] at hm
        simp only [schemeK] at hm
        obtain ⟨⟨i1, i2⟩, i3, i4⟩ := hin l[k] (List.getElem_mem h1)
        have w1 : l[k].row * (c : Int) + (c : Int) ≤ (c : Int) * r := by
          have := Int.mul_le_mul_of_nonneg_right (show l[k].row + 1 ≤ (r : Int) by omega) (show (0 : Int) ≤ c by omega)
          rw [Int.add_mul, Int.one_mul, Int.mul_comm (r : Int)] at this; exact this
        have w2 : 0 ≤ l[k].row * (c : Int) := Int.mul_nonneg i3 (by omega)
        have hi : (l[k].row * (c : Int) + l[k].col).toNat < cs.length := by rw [hlen]; omega
        have hset : ∀ e : Cell, (cs.map eC).modify (l[k].row * (c : Int) + l[k].col).toNat (modE · 0 [.v (.int .i64 e.front), .v (.int .i64 e.fturn), .v (.int .i64 e.back), .v (.int .i64 e.bturn)]) = (cs.set (l[k].row * (c : Int) + l[k].col).toNat e).map eC := fun e => modify_map (List.getElem?_eq_getElem hi) e rfl
        have hset := hset (cellAt k l[k])
        unfold cellAt at hset
        simp only [↓sxD, ↓sxP0, sxP1, sxF, sxA, sxS, sxK, encs, tys, sxN, sevalprocAttr, ne_eq, decide_true, decide_false]
        refine IxW.nat h1 ?_
        simp only [↓sxD, ↓sxP0, sxP1, sxF, sxA, sxS, sxK, encs, tys, sxN, sevalprocAttr, ne_eq, decide_true, decide_false]
        repeat ((with_reducible refine Vc.go ?_ fun _ => ?_); (focus (first | omega | (simp only [InK]; omega) | (simp [InK]; done) | (simp [InK]; omega))); simp only [↓sxD, ↓sxP0, sxP1, sxF, sxA, sxS, sxK, encs, tys, sxN, sevalprocAttr, ne_eq, decide_true, decide_false])
        refine BrW.dec (fun ho => ?_) (fun ho => ?_)
        · rw [if_pos ho] at hset
          have hca : cellAt k l[k] = ⟨2 * (k : Int) + 2, l[k].round, 2 * (k : Int) + 1, l[k].round⟩ := by unfold cellAt; rw [if_pos ho]
          simp only [↓sxD, ↓sxP0, sxP1, sxF, sxA, sxS, sxK, encs, tys, sxN, sevalprocAttr, ne_eq, decide_true, decide_false]
          repeat ((with_reducible refine Vc.go ?_ fun _ => ?_); (focus (first | omega | (simp only [InK]; omega) | (simp [hlen, InK]; done) | (simp [hlen, InK]; omega))); simp only [↓sxD, ↓sxP0, sxP1, sxF, sxA, sxS, sxK, encs, tys, sxN, sevalprocAttr, ne_eq, decide_true, decide_false])
          rw [hset, ← hca]
          refine ⟨(k + 1, cs.set (l[k].row * (c : Int) + l[k].col).toNat (cellAt k l[k])), StLe.auto (by simp only [sxS, sxL, sxF, encs, sxN, sevalprocAttr, ne_eq, decide_true, decide_false] <;> (try simp) <;> (try omega)), ?_, ?_⟩
          · exact ⟨by show k + 1 ≤ l.length; omega, by simp [hlen], hm⟩
          · show l.length - (k + 1) < l.length - k; omega
        · rw [if_neg ho] at hset
          have hca : cellAt k l[k] = ⟨2 * (k : Int) + 1, l[k].round, 2 * (k : Int) + 2, l[k].round⟩ := by unfold cellAt; rw [if_neg ho]
          simp only [↓sxD, ↓sxP0, sxP1, sxF, sxA, sxS, sxK, encs, tys, sxN, sevalprocAttr, ne_eq, decide_true, decide_false]
          repeat ((with_reducible refine Vc.go ?_ fun _ => ?_); (focus (first | omega | (simp only [InK]; omega) | (simp [hlen, InK]; done) | (simp [hlen, InK]; omega))); simp only [↓sxD, ↓sxP0, sxP1, sxF, sxA, sxS, sxK, encs, tys, sxN, sevalprocAttr, ne_eq, decide_true, decide_false])
          rw [hset, ← hca]
          refine ⟨(k + 1, cs.set (l[k].row * (c : Int) + l[k].col).toNat (cellAt k l[k])), StLe.auto (by simp only [sxS, sxL, sxF, encs, sxN, sevalprocAttr, ne_eq, decide_true, decide_false] <;> (try simp) <;> (try omega)), ?_, ?_⟩
          · exact ⟨by show k + 1 ≤ l.length; omega, by simp [hlen], hm⟩
          · show l.length - (k + 1) < l.length - k; omega
      · simp only [↓sxD, ↓sxP0, sxP1, sxF, sxA, sxS, sxK, encs, tys, sxN, sevalprocAttr, ne_eq, decide_true, decide_false]
        have hke : k = l.length := by omega
        subst hke
        rw [List.drop_length] at hm
        simp only [schemeK] at hm
        rw [hS, hm]
        exact EndW.fn (by simp only [sxL, encs, kpLL_map, sxN, sevalprocAttr, ne_eq, decide_true, decide_false] <;> (try simp [kpL, kpD]) <;> (try omega)) (by simp only [sxL, encs, kpLL_map, sxN, sevalprocAttr, ne_eq, decide_true, decide_false] <;> (try simp) <;> (try omega))
end Go.Proofs.Ytfpkpokkgbobmaa
