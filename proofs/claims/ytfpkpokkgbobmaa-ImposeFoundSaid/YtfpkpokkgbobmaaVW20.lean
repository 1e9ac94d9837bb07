/-
  Chapter 6, walks: the law of sheets that are printed twice.
-/
import Derived.Test.YtfpkpokkgbobmaaVW19
namespace Go.Proofs.Ytfpkpokkgbobmaa
open Go Go.Vx
set_option linter.unusedSimpArgs false
set_option maxRecDepth 20000
def zC : Cell := ⟨0, 0, 0, 0⟩
def bkPage (c : Nat) (l : List Cell) (k q : Nat) : Page := ⟨(l.getD (q * c + (c - 1 - k)) zC).back, (l.getD (q * c + (c - 1 - k)) zC).bturn⟩
theorem back_s (b : Bool) (cn rn : Nat) (l : List Cell) (hl : l.length = rn * cn) (hc : cn ≤ 8) (hr : rn ≤ 8) : Ctr Try.prog 46 [.agg [(.v (.int .i64 cn)), (.v (.int .i64 rn)), .sl b 4 (l.map eC)]] (fun rr => rr = ⟨.agg [(.v (.int .i64 cn)), (.v (.int .i64 rn)), .sl true 2 ((grid cn rn (bkPage cn l)).map eP)], []⟩) := by
  refine Ctr.of (rs := [.cell 2 74]) Tok true Try.func46 rfl rfl rfl rfl (by simp [ofDL]) (fun w0 kp => ?_)
  simp only [↓sxD, ↓sxP0, sxP1, sxF, sxA, sxS, sxK, encs, tys, sxN, sevalprocAttr, ne_eq, decide_true, decide_false]
  have hrc : rn * cn ≤ 8 * 8 := Nat.mul_le_mul hr hc
  refine LoopW.comp [1, 2, 3, 4] (by simp only [sxS, sxL, sxF, encs, sxN, sevalprocAttr, ne_eq, decide_true, decide_false] <;> (try simp) <;> (try omega)) ?_
  simp only [sxS, sxF, sxN, sevalprocAttr, ne_eq, decide_true, decide_false]
  refine LoopW.up Tok (fun q : Nat => [(4, (.v (.int .i64 q)))]) (fun q => [(2, [(.v (.int .i64 cn)), (.v (.int .i64 rn)), .row 0])]) (fun q => []) (fun q => [.own 132 2 ((grid cn q (bkPage cn l)).map eP)]) (fun q => q ≤ rn) (fun q => rn - q) (0) (by simp only [sxS, sxL, sxF, encs, sxN, sevalprocAttr, ne_eq, decide_true, decide_false] <;> (try simp) <;> (try omega)) ?_ ?_
  · omega
  rintro q hq1
  simp only [↓sxD, ↓sxP0, sxP1, sxF, sxA, sxS, sxK, encs, tys, sxN, sevalprocAttr, ne_eq, decide_true, decide_false]
  refine BrW.dec (fun hlt => ?_) (fun hlt => ?_)
  · simp only [↓sxD, ↓sxP0, sxP1, sxF, sxA, sxS, sxK, encs, tys, sxN, sevalprocAttr, ne_eq, decide_true, decide_false]
    have hq2 : q < rn := by omega
    repeat ((with_reducible refine Vc.go ?_ fun _ => ?_); (focus (first | omega | (simp only [InK]; omega) | (simp [InK]; done) | (simp [InK]; omega))); simp only [↓sxD, ↓sxP0, sxP1, sxF, sxA, sxS, sxK, encs, tys, sxN, sevalprocAttr, ne_eq, decide_true, decide_false])
    refine LoopW.comp [1, 2, 3, 4, 5] (by simp only [sxS, sxL, sxF, encs, sxN, sevalprocAttr, ne_eq, decide_true, decide_false] <;> (try simp) <;> (try omega)) ?_
    simp only [sxS, sxF, sxN, sevalprocAttr, ne_eq, decide_true, decide_false]
    refine LoopW.up Tok (fun k : Nat => [(5, (.v (.int .i64 ((cn : Int) - 1 - k))))]) (fun k => []) (fun k => [(0, ((grid cn q (bkPage cn l)) ++ gridRow k (bkPage cn l) q).map eP)]) (fun k => []) (fun k => k ≤ cn) (fun k => cn - k) (0) (by simp only [sxS, sxL, sxF, encs, sxN, sevalprocAttr, ne_eq, decide_true, decide_false] <;> (try simp) <;> (try omega)) ?_ ?_
    · omega
    rintro k hk1
    simp only [↓sxD, ↓sxP0, sxP1, sxF, sxA, sxS, sxK, encs, tys, sxN, sevalprocAttr, ne_eq, decide_true, decide_false]
    refine BrW.dec (fun hlt2 => ?_) (fun hlt2 => ?_)
    · have hk2 : k < cn := by omega
      have hqk := cell_lt hq2 hk2
      have i2 := twGet zC hl hq2 (show cn - 1 - k < cn by omega) (j := (q : Int) * cn + ((cn : Int) - 1 - k)) (by push_cast; omega)
      have hqk2 := cell_lt hq2 (show cn - 1 - k < cn by omega)
      simp only [↓sxD, ↓sxP0, sxP1, sxF, sxA, sxS, sxK, encs, tys, sxN, sevalprocAttr, ne_eq, decide_true, decide_false]
      repeat ((with_reducible refine Vc.go ?_ fun _ => ?_); (focus (first | omega | (simp only [InK]; omega) | (simp [InK]; done) | (simp [InK]; omega))); simp only [↓sxD, ↓sxP0, sxP1, sxF, sxA, sxS, sxK, encs, tys, sxN, sevalprocAttr, ne_eq, decide_true, decide_false])
      refine IxW.map _ i2.1 i2.2 ?_
      simp only [↓sxD, ↓sxP0, sxP1, sxF, sxA, sxS, sxK, encs, tys, sxN, sevalprocAttr, ne_eq, decide_true, decide_false]
      (with_reducible refine Vc.go ?_ fun _ => ?_); focus (first | omega | (simp only [InK]; omega) | (simp [grid_length, gridRow_length, InK]; done) | (simp [grid_length, gridRow_length, InK]; omega))
      simp only [↓sxD, ↓sxP0, sxP1, sxF, sxA, sxS, sxK, encs, tys, sxN, sevalprocAttr, ne_eq, decide_true, decide_false]
      (with_reducible refine Vc.go ?_ fun _ => ?_); focus (first | omega | (simp only [InK]; omega) | (simp [InK]; done) | (simp [InK]; omega))
      simp only [↓sxD, ↓sxP0, sxP1, sxF, sxA, sxS, sxK, encs, tys, sxN, sevalprocAttr, ne_eq, decide_true, decide_false]
      have e5 : (cn : Int) - 1 - k - 1 = (cn : Int) - 1 - ((k + 1 : Nat) : Int) := by push_cast; omega
      rw [e5]
      refine ⟨k + 1, StLe.auto (by simp only [sxS, sxL, sxF, encs, sxN, sevalprocAttr, ne_eq, decide_true, decide_false] <;> (try simp [gridRow_succ, bkPage, encs]) <;> (try omega)), ?_, ?_⟩
      · omega
      · omega
    · simp only [↓sxD, ↓sxP0, sxP1, sxF, sxA, sxS, sxK, encs, tys, sxN, sevalprocAttr, ne_eq, decide_true, decide_false]
      have : k = cn := by omega
      subst this
      (with_reducible refine Vc.go ?_ fun _ => ?_); focus (first | omega | (simp only [InK]; omega) | (simp [InK]; done) | (simp [InK]; omega))
      simp only [↓sxD, ↓sxP0, sxP1, sxF, sxA, sxS, sxK, encs, tys, sxN, sevalprocAttr, ne_eq, decide_true, decide_false]
      refine ⟨q + 1, StLe.auto (by simp only [sxS, sxL, sxF, encs, sxN, sevalprocAttr, ne_eq, decide_true, decide_false] <;> (try simp [grid_succ, encs]) <;> (try omega)), ?_, ?_⟩
      · omega
      · omega
  · simp only [↓sxD, ↓sxP0, sxP1, sxF, sxA, sxS, sxK, encs, tys, sxN, sevalprocAttr, ne_eq, decide_true, decide_false]
    have : q = rn := by omega
    subst this
    exact EndW.fn (by simp only [sxL, encs, kpLL_map, sxN, sevalprocAttr, ne_eq, decide_true, decide_false] <;> (try simp) <;> (try omega)) (by simp only [sxL, encs, kpLL_map, sxN, sevalprocAttr, ne_eq, decide_true, decide_false] <;> (try simp) <;> (try omega))
theorem grid_selfG {α : Type} (z : α) {cols rows : Nat} {ls : List α} (h : ls.length = rows * cols) : grid cols rows (fun c r => ls.getD (r * cols + c) z) = ls := by
  apply List.ext_getElem?
  intro i
  by_cases hi : i < rows * cols
  · have hc : 0 < cols := by
      rcases Nat.eq_zero_or_pos cols with h0 | h0
      · subst h0; simp at hi
      · exact h0
    have h1 : i / cols < rows := Nat.div_lt_of_lt_mul (by rwa [Nat.mul_comm])
    have h2 : i % cols < cols := Nat.mod_lt _ hc
    have e : i / cols * cols + i % cols = i := by rw [Nat.mul_comm]; exact Nat.div_add_mod i cols
    have := grid_get cols (fun c r => ls.getD (r * cols + c) z) rows _ _ h1 h2
    simp only [e] at this
    rw [this, List.getD_eq_getElem?_getD, List.getElem?_eq_getElem (by omega)]
    rfl
  · rw [List.getElem?_eq_none (by rw [grid_length]; omega), List.getElem?_eq_none (by omega)]
theorem back_twice {cn rn : Nat} {l : List Page} (h : l.length = rn * cn) : grid cn rn (bkPage cn (grid cn rn (twCell false cn rn l))) = l := by
  conv => rhs; rw [← grid_selfG zP h]
  refine grid_ext fun k q hk hq => ?_
  have e : (grid cn rn (twCell false cn rn l)).getD (q * cn + (cn - 1 - k)) zC = twCell false cn rn l (cn - 1 - k) q := by
    rw [List.getD_eq_getElem?_getD, grid_get cn _ rn q (cn - 1 - k) hq (by omega)]
    rfl
  simp only [bkPage, e, twCell, Bool.false_eq_true, if_false, show cn - 1 - (cn - 1 - k) = k by omega]
theorem twice_fine {c r : Int} {l : List Page} {t : Bool} (h : (twiceS c r l t).2.2.2 = 0) : 1 ≤ c ∧ c ≤ 8 ∧ 1 ≤ r ∧ r ≤ 8 ∧ (l.length : Int) = c * r ∧ twiceS c r l t = (c, r, grid c.toNat r.toNat (twCell t c.toNat r.toNat l), 0) := by
  unfold twiceS at h ⊢
  by_cases h1 : sheetErr c r = 0
  · have := sheet_ok h1
    by_cases h2 : (l.length : Int) = c * r
    · by_cases h3 : l.any (fun x => !pgOk x) = true
      · simp only [h1, h2, h3, ne_eq, not_true_eq_false, if_false, if_true] at h; omega
      · simp only [h1, h2, h3, ne_eq, not_true_eq_false, if_false]
        exact ⟨this.1, this.2.1, this.2.2.1, this.2.2.2, trivial, rfl⟩
    · simp only [h1, h2, ne_eq, not_true_eq_false, not_false_eq_true, if_false, if_true] at h; omega
  · simp only [h1, ne_eq, not_false_eq_true, if_true] at h
theorem twice_len (c r : Int) (l : List Page) (t : Bool) : (twiceS c r l t).2.2.1.length ≤ 1000000000 := by
  unfold twiceS
  by_cases h1 : sheetErr c r = 0
  · have := sheet_ok h1
    by_cases h2 : (l.length : Int) = c * r
    · by_cases h3 : l.any (fun x => !pgOk x) = true
      · simp [h1, h2, h3]
      · simp only [h1, h2, h3, ne_eq, not_true_eq_false, if_false, grid_length]
        have : r.toNat * c.toNat ≤ 8 * 8 := Nat.mul_le_mul (by omega) (by omega)
        simp only [Bool.false_eq_true, if_false, grid_length]
        omega
    · simp [h1, h2]
  · simp [h1]
theorem twiceLaw_s (b t : Bool) (c r : Int) (l : List Page) : Ctr Try.prog 7 [.agg [(.v (.int .i64 c)), (.v (.int .i64 r)), .sl b 2 (l.map eP)], (.v (.bool (t)))] (fun rr => rr = ⟨(.v (.bool (true))), []⟩) := by
  refine Ctr.of (rs := [.tmp 4]) Tok true Try.func7 rfl rfl rfl rfl (by simp [ofDL]) (fun w0 kp => ?_)
  simp only [↓sxD, ↓sxP0, sxP1, sxF, sxA, sxS, sxK, encs, tys, sxN, sevalprocAttr, ne_eq, decide_true, decide_false]
  refine CallI.fn (awake_s) (by simp only [sxA, sxL, sxF, encs, sxN, sevalprocAttr, ne_eq, decide_true, decide_false] <;> (try simp)) ?_
  simp only [↓sxD, ↓sxP0, sxP1, sxF, sxA, sxS, sxK, encs, tys, sxN, sevalprocAttr, ne_eq, decide_true, decide_false]
  refine BrW.dec (fun hn => ?_) (fun hn => ?_)
  · simp only [↓sxD, ↓sxP0, sxP1, sxF, sxA, sxS, sxK, encs, tys, sxN, sevalprocAttr, ne_eq, decide_true, decide_false]
    exact EndW.fn (by simp only [sxL, encs, kpLL_map, sxN, sevalprocAttr, ne_eq, decide_true, decide_false] <;> (try simp) <;> (try omega)) (by simp only [sxL, encs, kpLL_map, sxN, sevalprocAttr, ne_eq, decide_true, decide_false] <;> (try simp) <;> (try omega))
  · simp only [↓sxD, ↓sxP0, sxP1, sxF, sxA, sxS, sxK, encs, tys, sxN, sevalprocAttr, ne_eq, decide_true, decide_false]
    refine CallI.ctr (view_s b c r l (by omega)) (by simp only [sxA, sxL, sxF, encs, sxN, sevalprocAttr, ne_eq, decide_true, decide_false] <;> (try simp)) ?_
    rintro _ rfl
    simp only [↓sxD, ↓sxP0, sxP1, sxF, sxA, sxS, sxK, encs, tys, sxN, sevalprocAttr, ne_eq, decide_true, decide_false]
    refine CallI.fn (twice_s false t c r l (by omega)) (by simp only [sxA, sxL, sxF, encs, sxN, sevalprocAttr, ne_eq, decide_true, decide_false] <;> (try simp)) ?_
    simp only [↓sxD, ↓sxP0, sxP1, sxF, sxA, sxS, sxK, encs, tys, sxN, sevalprocAttr, ne_eq, decide_true, decide_false]
    refine CallI.fn (twiceR_s b t c r l (by omega)) (by simp only [sxA, sxL, sxF, encs, sxN, sevalprocAttr, ne_eq, decide_true, decide_false] <;> (try simp)) ?_
    simp only [↓sxD, ↓sxP0, sxP1, sxF, sxA, sxS, sxK, encs, tys, sxN, sevalprocAttr, ne_eq, decide_true, decide_false]
    refine BrW.ff (by simp) ?_
    simp only [↓sxD, ↓sxP0, sxP1, sxF, sxA, sxS, sxK, encs, tys, sxN, sevalprocAttr, ne_eq, decide_true, decide_false]
    refine CallI.fn (same_s true true (twiceS c r l t).1 (twiceS c r l t).2.1 (twiceS c r l t).1 (twiceS c r l t).2.1 (twiceS c r l t).2.2.1 (twiceS c r l t).2.2.1 (twice_len c r l t)) (by simp only [sxA, sxL, sxF, encs, sxN, sevalprocAttr, ne_eq, decide_true, decide_false] <;> (try simp)) ?_
    simp only [↓sxD, ↓sxP0, sxP1, sxF, sxA, sxS, sxK, encs, tys, sxN, sevalprocAttr, ne_eq, decide_true, decide_false]
    refine BrW.dec (fun he => ?_) (fun he => ?_)
    · simp only [↓sxD, ↓sxP0, sxP1, sxF, sxA, sxS, sxK, encs, tys, sxN, sevalprocAttr, ne_eq, decide_true, decide_false]
      exact EndW.fn (by simp only [sxL, encs, kpLL_map, sxN, sevalprocAttr, ne_eq, decide_true, decide_false] <;> (try simp) <;> (try omega)) (by simp only [sxL, encs, kpLL_map, sxN, sevalprocAttr, ne_eq, decide_true, decide_false] <;> (try simp) <;> (try omega))
    · have he0 : (twiceS c r l t).2.2.2 = 0 := Decidable.not_not.1 he
      obtain ⟨h1, h2, h3, h4, h5, h6⟩ := twice_fine he0
      simp only [↓sxD, ↓sxP0, sxP1, sxF, sxA, sxS, sxK, encs, tys, sxN, sevalprocAttr, ne_eq, decide_true, decide_false]
      refine BrW.of (fun ht => ?_) (fun ht => ?_)
      · simp only [↓sxD, ↓sxP0, sxP1, sxF, sxA, sxS, sxK, encs, tys, sxN, sevalprocAttr, ne_eq, decide_true, decide_false]
        exact EndW.fn (by simp only [sxL, encs, kpLL_map, sxN, sevalprocAttr, ne_eq, decide_true, decide_false] <;> (try simp) <;> (try omega)) (by simp only [sxL, encs, kpLL_map, sxN, sevalprocAttr, ne_eq, decide_true, decide_false] <;> (try simp) <;> (try omega))
      · subst ht
        obtain ⟨cn, rfl⟩ : ∃ cn : Nat, c = cn := ⟨c.toNat, by omega⟩
        obtain ⟨rn, rfl⟩ : ∃ rn : Nat, r = rn := ⟨r.toNat, by omega⟩
        have hlr : l.length = rn * cn := by
          have : (l.length : Int) = ((rn * cn : Nat) : Int) := by rw [h5]; push_cast; exact Int.mul_comm _ _
          exact_mod_cast this
        rw [h6]
        simp only [↓sxD, ↓sxP0, sxP1, sxF, sxA, sxS, sxK, encs, tys, sxN, sevalprocAttr, ne_eq, decide_true, decide_false]
        refine DrawW.plan Tok mixed (.q 0 <| .q 2 <| .e 1 [2] <| .e 3 [] <| .q 4 <| .done) (by kernel_rfl) (by kernel_rfl) ?_
        simp only [↓sxD, ↓sxP0, sxP1, sxF, sxA, sxS, sxK, encs, tys, sxN, sevalprocAttr, ne_eq, decide_true, decide_false]
        rw [Int.toNat_natCast, Int.toNat_natCast]
        refine CallI.fn (back_s true cn rn (grid cn rn (twCell false cn rn l)) (grid_length _ _ _) (by omega) (by omega)) (by simp only [sxA, sxL, sxF, encs, sxN, sevalprocAttr, ne_eq, decide_true, decide_false] <;> (try simp)) ?_
        simp only [↓sxD, ↓sxP0, sxP1, sxF, sxA, sxS, sxK, encs, tys, sxN, sevalprocAttr, ne_eq, decide_true, decide_false]
        rw [back_twice hlr]
        refine CallI.fn (sameViews_s true b cn rn cn rn l l (by omega)) (by simp only [sxA, sxL, sxF, encs, sxN, sevalprocAttr, ne_eq, decide_true, decide_false] <;> (try simp)) ?_
        simp only [↓sxD, ↓sxP0, sxP1, sxF, sxA, sxS, sxK, encs, tys, sxN, sevalprocAttr, ne_eq, decide_true, decide_false]
        exact EndW.fn (by simp only [sxL, encs, kpLL_map, sxN, sevalprocAttr, ne_eq, decide_true, decide_false] <;> (try simp) <;> (try omega)) (by simp only [sxL, encs, kpLL_map, sxN, sevalprocAttr, ne_eq, decide_true, decide_false] <;> (try simp) <;> (try omega))
end Go.Proofs.Ytfpkpokkgbobmaa
