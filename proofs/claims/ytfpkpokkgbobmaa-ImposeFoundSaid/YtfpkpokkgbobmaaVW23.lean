/-
  Chapter 6, walks: both views of a scheme, and the law of schemes.
-/
import Derived.Test.YtfpkpokkgbobmaaVW22
namespace Go.Proofs.Ytfpkpokkgbobmaa
open Go Go.Vx
set_option linter.unusedSimpArgs false
set_option maxRecDepth 20000
theorem viewOf_s (f : Nat) (caps : List SV) (hren : ∀ γ, renL γ caps = caps) (hle : ∀ β γ, leL β γ caps caps = True) (hlend : ∀ rw bx, argOk rw bx caps caps = True) (cols rows : Nat) (g : Nat → Nat → Page) (hof : ∀ c r, c < cols → r < rows → Ctr Try.prog f ([(.v (.int .i64 c)), (.v (.int .i64 r))] ++ caps) (fun rr => rr = ⟨.agg [(.v (.int .i64 ((g c r).page))), (.v (.int .i64 ((g c r).turn)))], []⟩)) (hc : cols ≤ 1000) (hr : rows ≤ 1000) :
    Ctr Try.prog 90 [(.v (.int .i64 cols)), (.v (.int .i64 rows)), .clo f caps] (fun rr => rr = ⟨.agg [(.v (.int .i64 cols)), (.v (.int .i64 rows)), .sl true 2 ((grid cols rows g).map eP)], []⟩) := by
  have hsz : rows * cols ≤ 1000 * 1000 := Nat.mul_le_mul hr hc
  have encs := And.intro encs (And.intro hren (And.intro hle hlend))
  refine Ctr.of (rs := [.cell 6 74]) Tok true Try.func90 rfl rfl rfl rfl (by simp [ofDL]) (fun w0 kp => ?_)
  simp only [↓sxD, ↓sxP0, sxP1, sxF, sxA, sxS, sxK, encs, tys, sxN, sevalprocAttr, ne_eq, decide_true, decide_false]
  refine LoopW.comp [0, 2, 6, 7, 13, 14] (by simp only [sxS, sxL, sxF, encs, sxN, sevalprocAttr, ne_eq, decide_true, decide_false] <;> (try simp) <;> (try omega)) ?_
  simp only [sxS, sxF, sxN, sevalprocAttr, ne_eq, decide_true, decide_false]
  refine LoopW.up Tok (fun r : Nat => [(14, (.v (.int .i64 r)))]) (fun r => [(1, [(.v (.int .i64 cols)), (.v (.int .i64 rows)), .row 0])]) (fun r => []) (fun r => [.own 132 2 ((grid cols r g).map eP)]) (fun r => r ≤ rows) (fun r => rows - r) (0) (by simp only [sxS, sxL, sxF, encs, sxN, sevalprocAttr, ne_eq, decide_true, decide_false] <;> (try simp) <;> (try omega)) ?_ ?_
  · omega
  rintro r hr1
  simp only [↓sxD, ↓sxP0, sxP1, sxF, sxA, sxS, sxK, encs, tys, sxN, sevalprocAttr, ne_eq, decide_true, decide_false]
  refine BrW.dec (fun hlt => ?_) (fun hlt => ?_)
  · simp only [↓sxD, ↓sxP0, sxP1, sxF, sxA, sxS, sxK, encs, tys, sxN, sevalprocAttr, ne_eq, decide_true, decide_false]
    have hr2 : r < rows := by omega
    refine LoopW.comp [0, 2, 6, 7, 8, 13, 14, 17, 18] (by simp only [sxS, sxL, sxF, encs, sxN, sevalprocAttr, ne_eq, decide_true, decide_false] <;> (try simp) <;> (try omega)) ?_
    simp only [sxS, sxF, sxN, sevalprocAttr, ne_eq, decide_true, decide_false]
    refine LoopW.up Tok (fun k : Nat => [(18, (.v (.int .i64 k)))]) (fun k => []) (fun k => [(0, ((grid cols r g) ++ gridRow k g r).map eP)]) (fun k => []) (fun k => k ≤ cols) (fun k => cols - k) (0) (by simp only [sxS, sxL, sxF, encs, sxN, sevalprocAttr, ne_eq, decide_true, decide_false] <;> (try simp) <;> (try omega)) ?_ ?_
    · omega
    rintro k hk1
    have hlen : r * cols + k ≤ 1000000 := by
      have h1 : (r + 1) * cols ≤ rows * cols := Nat.mul_le_mul_right _ hr2
      rw [Nat.succ_mul] at h1
      omega
    simp only [↓sxD, ↓sxP0, sxP1, sxF, sxA, sxS, sxK, encs, tys, sxN, sevalprocAttr, ne_eq, decide_true, decide_false]
    refine BrW.dec (fun hlt2 => ?_) (fun hlt2 => ?_)
    · simp only [↓sxD, ↓sxP0, sxP1, sxF, sxA, sxS, sxK, encs, tys, sxN, sevalprocAttr, ne_eq, decide_true, decide_false]
      refine DrawW.plan Tok mixed (.q 0 <| .q 1 <| .q 2 <| .q 3 <| .q 4 <| .e 5 [1] <| .e 6 [1] <| .e 7 [] <| .q 8 <| .e 9 [] <| .done) (by kernel_rfl) (by kernel_rfl) ?_
      simp only [↓sxD, ↓sxP0, sxP1, sxF, sxA, sxS, sxK, encs, tys, sxN, sevalprocAttr, ne_eq, decide_true, decide_false]
      refine CallI.fn (hof k r (by omega) hr2) (by simp only [sxA, sxL, sxF, encs, sxN, sevalprocAttr, ne_eq, decide_true, decide_false] <;> (try simp)) ?_
      simp only [↓sxD, ↓sxP0, sxP1, sxF, sxA, sxS, sxK, encs, tys, sxN, sevalprocAttr, ne_eq, decide_true, decide_false]
      (with_reducible refine Vc.go ?_ fun _ => ?_); focus (first | omega | (simp only [InK]; omega) | (simp [grid_length, gridRow_length, InK]; done) | (simp [grid_length, gridRow_length, InK]; omega))
      simp only [↓sxD, ↓sxP0, sxP1, sxF, sxA, sxS, sxK, encs, tys, sxN, sevalprocAttr, ne_eq, decide_true, decide_false]
      (with_reducible refine Vc.go ?_ fun _ => ?_); focus (first | omega | (simp only [InK]; omega) | (simp [InK]; done) | (simp [InK]; omega))
      simp only [↓sxD, ↓sxP0, sxP1, sxF, sxA, sxS, sxK, encs, tys, sxN, sevalprocAttr, ne_eq, decide_true, decide_false]
      refine ⟨k + 1, StLe.auto (by simp only [sxS, sxL, sxF, encs, sxN, sevalprocAttr, ne_eq, decide_true, decide_false] <;> (try simp [gridRow_succ, encs]) <;> (try omega)), ?_, ?_⟩
      · omega
      · omega
    · simp only [↓sxD, ↓sxP0, sxP1, sxF, sxA, sxS, sxK, encs, tys, sxN, sevalprocAttr, ne_eq, decide_true, decide_false]
      have : k = cols := by omega
      subst this
      (with_reducible refine Vc.go ?_ fun _ => ?_); focus (first | omega | (simp only [InK]; omega) | (simp [InK]; done) | (simp [InK]; omega))
      simp only [↓sxD, ↓sxP0, sxP1, sxF, sxA, sxS, sxK, encs, tys, sxN, sevalprocAttr, ne_eq, decide_true, decide_false]
      refine ⟨r + 1, StLe.auto (by simp only [sxS, sxL, sxF, encs, sxN, sevalprocAttr, ne_eq, decide_true, decide_false] <;> (try simp [grid_succ, encs]) <;> (try omega)), ?_, ?_⟩
      · omega
      · omega
  · simp only [↓sxD, ↓sxP0, sxP1, sxF, sxA, sxS, sxK, encs, tys, sxN, sevalprocAttr, ne_eq, decide_true, decide_false]
    have : r = rows := by omega
    subst this
    exact EndW.fn (by simp only [sxL, encs, kpLL_map, sxN, sevalprocAttr, ne_eq, decide_true, decide_false] <;> (try simp) <;> (try omega)) (by simp only [sxL, encs, kpLL_map, sxN, sevalprocAttr, ne_eq, decide_true, decide_false] <;> (try simp) <;> (try omega))
def frPage (c : Nat) (l : List Cell) (k q : Nat) : Page := ⟨(l.getD (q * c + k) zC).front, (l.getD (q * c + k) zC).fturn⟩
theorem front1_s (b b2 : Bool) (cn rn k q : Nat) (l : List Cell) (hl : l.length = rn * cn) (hk : k < cn) (hq : q < rn) (hc : cn ≤ 8) (hr : rn ≤ 8) :
    Ctr Try.prog 97 [(.v (.int .i64 k)), (.v (.int .i64 q)), .pt b2 [(.v (.int .i64 cn)), (.v (.int .i64 rn)), .sl b 4 (l.map eC)]] (fun rr => rr = ⟨.agg [(.v (.int .i64 ((frPage cn l k q).page))), (.v (.int .i64 ((frPage cn l k q).turn)))], []⟩) := by
  have hrc : rn * cn ≤ 8 * 8 := Nat.mul_le_mul hr hc
  have hqk := cell_lt hq hk
  have i1 := twGet zC hl hq hk (j := (q : Int) * cn + k) (by push_cast; rfl)
  refine Ctr.of (rs := [.cell 5 132]) Tok true Try.func97 rfl rfl rfl rfl (by simp [ofDL]) (fun w0 kp => ?_)
  simp only [↓sxD, ↓sxP0, sxP1, sxF, sxA, sxS, sxK, encs, tys, sxN, sevalprocAttr, ne_eq, decide_true, decide_false]
  repeat ((with_reducible refine Vc.go ?_ fun _ => ?_); (focus (first | omega | (simp only [InK]; omega) | (simp [InK]; done) | (simp [InK]; omega))); simp only [↓sxD, ↓sxP0, sxP1, sxF, sxA, sxS, sxK, encs, tys, sxN, sevalprocAttr, ne_eq, decide_true, decide_false])
  refine IxW.map _ i1.1 i1.2 ?_
  simp only [↓sxD, ↓sxP0, sxP1, sxF, sxA, sxS, sxK, encs, tys, sxN, sevalprocAttr, ne_eq, decide_true, decide_false]
  exact EndW.fn (by simp only [sxL, encs, kpLL_map, sxN, sevalprocAttr, ne_eq, decide_true, decide_false] <;> (try simp [frPage]) <;> (try omega)) (by simp only [sxL, encs, kpLL_map, sxN, sevalprocAttr, ne_eq, decide_true, decide_false] <;> (try simp) <;> (try omega))
theorem back1_s (b b2 : Bool) (cn rn k q : Nat) (l : List Cell) (hl : l.length = rn * cn) (hk : k < cn) (hq : q < rn) (hc : cn ≤ 8) (hr : rn ≤ 8) :
    Ctr Try.prog 98 [(.v (.int .i64 k)), (.v (.int .i64 q)), .pt b2 [(.v (.int .i64 cn)), (.v (.int .i64 rn)), .sl b 4 (l.map eC)]] (fun rr => rr = ⟨.agg [(.v (.int .i64 ((bkPage cn l k q).page))), (.v (.int .i64 ((bkPage cn l k q).turn)))], []⟩) := by
  have hrc : rn * cn ≤ 8 * 8 := Nat.mul_le_mul hr hc
  have hqk := cell_lt hq hk
  have i1 := twGet zC hl hq (show cn - 1 - k < cn by omega) (j := (q : Int) * cn + cn - 1 - k) (by push_cast; omega)
  refine Ctr.of (rs := [.cell 5 132]) Tok true Try.func98 rfl rfl rfl rfl (by simp [ofDL]) (fun w0 kp => ?_)
  simp only [↓sxD, ↓sxP0, sxP1, sxF, sxA, sxS, sxK, encs, tys, sxN, sevalprocAttr, ne_eq, decide_true, decide_false]
  repeat ((with_reducible refine Vc.go ?_ fun _ => ?_); (focus (first | omega | (simp only [InK]; omega) | (simp [InK]; done) | (simp [InK]; omega))); simp only [↓sxD, ↓sxP0, sxP1, sxF, sxA, sxS, sxK, encs, tys, sxN, sevalprocAttr, ne_eq, decide_true, decide_false])
  refine IxW.map _ i1.1 i1.2 ?_
  simp only [↓sxD, ↓sxP0, sxP1, sxF, sxA, sxS, sxK, encs, tys, sxN, sevalprocAttr, ne_eq, decide_true, decide_false]
  exact EndW.fn (by simp only [sxL, encs, kpLL_map, sxN, sevalprocAttr, ne_eq, decide_true, decide_false] <;> (try simp [bkPage]) <;> (try omega)) (by simp only [sxL, encs, kpLL_map, sxN, sevalprocAttr, ne_eq, decide_true, decide_false] <;> (try simp) <;> (try omega))
theorem front_s (b : Bool) (cn rn : Nat) (l : List Cell) (hl : l.length = rn * cn) (hc : cn ≤ 8) (hr : rn ≤ 8) :
    Ctr Try.prog 84 [.agg [(.v (.int .i64 cn)), (.v (.int .i64 rn)), .sl b 4 (l.map eC)]] (fun rr => rr = ⟨.agg [(.v (.int .i64 cn)), (.v (.int .i64 rn)), .sl true 2 ((grid cn rn (frPage cn l)).map eP)], []⟩) := by
  refine Ctr.of (rs := [.cell 2 74]) Tok true Try.func84 rfl rfl rfl rfl (by simp [ofDL]) (fun w0 kp => ?_)
  simp only [↓sxD, ↓sxP0, sxP1, sxF, sxA, sxS, sxK, encs, tys, sxN, sevalprocAttr, ne_eq, decide_true, decide_false]
  refine CallI.fn (viewOf_s 97 [.pt false [(.v (.int .i64 cn)), (.v (.int .i64 rn)), .sl b 4 (l.map eC)]] (by intro; rfl) (by intro β γ; simp [leL, leV]) (by intro rw bx; simp [argOk, lendA, lendO, argO, ofD, leV]) cn rn (frPage cn l) (fun k q h1 h2 => front1_s b false cn rn k q l hl h1 h2 hc hr) (by omega) (by omega)) (by simp only [sxA, sxL, sxF, encs, sxN, sevalprocAttr, ne_eq, decide_true, decide_false] <;> (try simp)) ?_
  simp only [↓sxD, ↓sxP0, sxP1, sxF, sxA, sxS, sxK, encs, tys, sxN, sevalprocAttr, ne_eq, decide_true, decide_false]
  exact EndW.fn (by simp only [sxL, encs, kpLL_map, sxN, sevalprocAttr, ne_eq, decide_true, decide_false] <;> (try simp) <;> (try omega)) (by simp only [sxL, encs, kpLL_map, sxN, sevalprocAttr, ne_eq, decide_true, decide_false] <;> (try simp) <;> (try omega))
theorem backI_s (b : Bool) (cn rn : Nat) (l : List Cell) (hl : l.length = rn * cn) (hc : cn ≤ 8) (hr : rn ≤ 8) :
    Ctr Try.prog 85 [.agg [(.v (.int .i64 cn)), (.v (.int .i64 rn)), .sl b 4 (l.map eC)]] (fun rr => rr = ⟨.agg [(.v (.int .i64 cn)), (.v (.int .i64 rn)), .sl true 2 ((grid cn rn (bkPage cn l)).map eP)], []⟩) := by
  refine Ctr.of (rs := [.cell 2 74]) Tok true Try.func85 rfl rfl rfl rfl (by simp [ofDL]) (fun w0 kp => ?_)
  simp only [↓sxD, ↓sxP0, sxP1, sxF, sxA, sxS, sxK, encs, tys, sxN, sevalprocAttr, ne_eq, decide_true, decide_false]
  refine CallI.fn (viewOf_s 98 [.pt false [(.v (.int .i64 cn)), (.v (.int .i64 rn)), .sl b 4 (l.map eC)]] (by intro; rfl) (by intro β γ; simp [leL, leV]) (by intro rw bx; simp [argOk, lendA, lendO, argO, ofD, leV]) cn rn (bkPage cn l) (fun k q h1 h2 => back1_s b false cn rn k q l hl h1 h2 hc hr) (by omega) (by omega)) (by simp only [sxA, sxL, sxF, encs, sxN, sevalprocAttr, ne_eq, decide_true, decide_false] <;> (try simp)) ?_
  simp only [↓sxD, ↓sxP0, sxP1, sxF, sxA, sxS, sxK, encs, tys, sxN, sevalprocAttr, ne_eq, decide_true, decide_false]
  exact EndW.fn (by simp only [sxL, encs, kpLL_map, sxN, sevalprocAttr, ne_eq, decide_true, decide_false] <;> (try simp) <;> (try omega)) (by simp only [sxL, encs, kpLL_map, sxN, sevalprocAttr, ne_eq, decide_true, decide_false] <;> (try simp) <;> (try omega))
theorem check_s (b : Bool) (c r : Int) (l : List Cell) : Ctr Try.prog 80 [.agg [(.v (.int .i64 c)), (.v (.int .i64 r)), .sl b 4 (l.map eC)]] (fun rr => rr = ⟨(.v (.int .i64 ((schS c r l).2))), []⟩) := by
  refine Ctr.of (rs := [.tmp 2]) Tok true Try.func80 rfl rfl rfl rfl (by simp [ofDL]) (fun w0 kp => ?_)
  simp only [↓sxD, ↓sxP0, sxP1, sxF, sxA, sxS, sxK, encs, tys, sxN, sevalprocAttr, ne_eq, decide_true, decide_false]
  refine CallI.fn (checkScheme_s b c r l) (by simp only [sxA, sxL, sxF, encs, sxN, sevalprocAttr, ne_eq, decide_true, decide_false] <;> (try simp)) ?_
  simp only [↓sxD, ↓sxP0, sxP1, sxF, sxA, sxS, sxK, encs, tys, sxN, sevalprocAttr, ne_eq, decide_true, decide_false]
  exact EndW.fn (by simp only [sxL, encs, kpLL_map, sxN, sevalprocAttr, ne_eq, decide_true, decide_false] <;> (try simp) <;> (try omega)) (by simp only [sxL, encs, kpLL_map, sxN, sevalprocAttr, ne_eq, decide_true, decide_false] <;> (try simp) <;> (try omega))
theorem sch_fine {c r : Int} {l : List Cell} (h : (schS c r l).2 = 0) : ∃ cn rn : Nat, c = cn ∧ r = rn ∧ 1 ≤ cn ∧ cn ≤ 8 ∧ 1 ≤ rn ∧ rn ≤ 8 ∧ l.length = rn * cn ∧ sheetErr c r = 0 := by
  unfold schS at h
  by_cases h1 : sheetErr c r = 0
  · have hs := sheet_ok h1
    by_cases h2 : (l.length : Int) = c * r
    · refine ⟨c.toNat, r.toNat, by omega, by omega, by omega, by omega, by omega, by omega, ?_, h1⟩
      have : (l.length : Int) = ((r.toNat * c.toNat : Nat) : Int) := by
        rw [h2]; push_cast; rw [Int.toNat_of_nonneg (by omega), Int.toNat_of_nonneg (by omega)]; exact Int.mul_comm _ _
      exact_mod_cast this
    · simp only [h1, h2, ne_eq, not_true_eq_false, not_false_eq_true, if_false, if_true] at h; omega
  · simp only [h1, ne_eq, not_false_eq_true, if_true] at h
def vwS (g : Nat → List Cell → Nat → Nat → Page) (c r : Int) (l : List Cell) : Int × Int × List Page := if (schS c r l).2 ≠ 0 then (0, 0, []) else (c, r, grid c.toNat r.toNat (g c.toNat l))
theorem frontView_s (b : Bool) (c r : Int) (l : List Cell) : Ctr Try.prog 60 [.agg [(.v (.int .i64 c)), (.v (.int .i64 r)), .sl b 4 (l.map eC)]] (fun rr => rr = ⟨.tup [.agg [(.v (.int .i64 ((vwS frPage c r l).1))), (.v (.int .i64 ((vwS frPage c r l).2.1))), .sl true 2 ((vwS frPage c r l).2.2.map eP)], (.v (.int .i64 ((schS c r l).2)))], []⟩) := by
  refine Ctr.of (rs := [.cell 2 74, .tmp 3]) Tok true Try.func60 rfl rfl rfl rfl (by simp [ofDL]) (fun w0 kp => ?_)
  simp only [↓sxD, ↓sxP0, sxP1, sxF, sxA, sxS, sxK, encs, tys, sxN, sevalprocAttr, ne_eq, decide_true, decide_false]
  refine CallI.fn (check_s b c r l) (by simp only [sxA, sxL, sxF, encs, sxN, sevalprocAttr, ne_eq, decide_true, decide_false] <;> (try simp)) ?_
  simp only [↓sxD, ↓sxP0, sxP1, sxF, sxA, sxS, sxK, encs, tys, sxN, sevalprocAttr, ne_eq, decide_true, decide_false]
  refine BrW.dec (fun he => ?_) (fun he => ?_)
  · simp only [↓sxD, ↓sxP0, sxP1, sxF, sxA, sxS, sxK, encs, tys, sxN, sevalprocAttr, ne_eq, decide_true, decide_false]
    exact EndW.fn (by simp only [sxL, encs, kpLL_map, sxN, sevalprocAttr, ne_eq, decide_true, decide_false] <;> (try simp [vwS, he]) <;> (try omega)) (by simp only [sxL, encs, kpLL_map, sxN, sevalprocAttr, ne_eq, decide_true, decide_false] <;> (try simp) <;> (try omega))
  · have he0 : (schS c r l).2 = 0 := Decidable.not_not.1 he
    obtain ⟨cn, rn, rfl, rfl, h1, h2, h3, h4, h5, -⟩ := sch_fine he0
    simp only [↓sxD, ↓sxP0, sxP1, sxF, sxA, sxS, sxK, encs, tys, sxN, sevalprocAttr, ne_eq, decide_true, decide_false]
    refine CallI.fn (front_s b cn rn l h5 (by omega) (by omega)) (by simp only [sxA, sxL, sxF, encs, sxN, sevalprocAttr, ne_eq, decide_true, decide_false] <;> (try simp)) ?_
    simp only [↓sxD, ↓sxP0, sxP1, sxF, sxA, sxS, sxK, encs, tys, sxN, sevalprocAttr, ne_eq, decide_true, decide_false]
    exact EndW.fn (by simp only [sxL, encs, kpLL_map, sxN, sevalprocAttr, ne_eq, decide_true, decide_false] <;> (try simp [vwS, he0]) <;> (try omega)) (by simp only [sxL, encs, kpLL_map, sxN, sevalprocAttr, ne_eq, decide_true, decide_false] <;> (try simp) <;> (try omega))
theorem backView_s (b : Bool) (c r : Int) (l : List Cell) : Ctr Try.prog 61 [.agg [(.v (.int .i64 c)), (.v (.int .i64 r)), .sl b 4 (l.map eC)]] (fun rr => rr = ⟨.tup [.agg [(.v (.int .i64 ((vwS bkPage c r l).1))), (.v (.int .i64 ((vwS bkPage c r l).2.1))), .sl true 2 ((vwS bkPage c r l).2.2.map eP)], (.v (.int .i64 ((schS c r l).2)))], []⟩) := by
  refine Ctr.of (rs := [.cell 2 74, .tmp 3]) Tok true Try.func61 rfl rfl rfl rfl (by simp [ofDL]) (fun w0 kp => ?_)
  simp only [↓sxD, ↓sxP0, sxP1, sxF, sxA, sxS, sxK, encs, tys, sxN, sevalprocAttr, ne_eq, decide_true, decide_false]
  refine CallI.fn (check_s b c r l) (by simp only [sxA, sxL, sxF, encs, sxN, sevalprocAttr, ne_eq, decide_true, decide_false] <;> (try simp)) ?_
  simp only [↓sxD, ↓sxP0, sxP1, sxF, sxA, sxS, sxK, encs, tys, sxN, sevalprocAttr, ne_eq, decide_true, decide_false]
  refine BrW.dec (fun he => ?_) (fun he => ?_)
  · simp only [↓sxD, ↓sxP0, sxP1, sxF, sxA, sxS, sxK, encs, tys, sxN, sevalprocAttr, ne_eq, decide_true, decide_false]
    exact EndW.fn (by simp only [sxL, encs, kpLL_map, sxN, sevalprocAttr, ne_eq, decide_true, decide_false] <;> (try simp [vwS, he]) <;> (try omega)) (by simp only [sxL, encs, kpLL_map, sxN, sevalprocAttr, ne_eq, decide_true, decide_false] <;> (try simp) <;> (try omega))
  · have he0 : (schS c r l).2 = 0 := Decidable.not_not.1 he
    obtain ⟨cn, rn, rfl, rfl, h1, h2, h3, h4, h5, -⟩ := sch_fine he0
    simp only [↓sxD, ↓sxP0, sxP1, sxF, sxA, sxS, sxK, encs, tys, sxN, sevalprocAttr, ne_eq, decide_true, decide_false]
    refine CallI.fn (backI_s b cn rn l h5 (by omega) (by omega)) (by simp only [sxA, sxL, sxF, encs, sxN, sevalprocAttr, ne_eq, decide_true, decide_false] <;> (try simp)) ?_
    simp only [↓sxD, ↓sxP0, sxP1, sxF, sxA, sxS, sxK, encs, tys, sxN, sevalprocAttr, ne_eq, decide_true, decide_false]
    exact EndW.fn (by simp only [sxL, encs, kpLL_map, sxN, sevalprocAttr, ne_eq, decide_true, decide_false] <;> (try simp [vwS, he0]) <;> (try omega)) (by simp only [sxL, encs, kpLL_map, sxN, sevalprocAttr, ne_eq, decide_true, decide_false] <;> (try simp) <;> (try omega))
def frOf (x : Cell) : Page := ⟨x.front, x.fturn⟩
theorem grid_map {α β : Type} (h : α → β) (cols rows : Nat) (f : Nat → Nat → α) : (grid cols rows f).map h = grid cols rows fun c r => h (f c r) := by
  unfold grid gridRow
  rw [List.map_flatMap]
  congr 1
  funext r
  rw [List.map_map]
  rfl
theorem grid_front {cn rn : Nat} {l : List Cell} (h : l.length = rn * cn) : grid cn rn (frPage cn l) = l.map frOf := by
  conv => rhs; rw [← grid_selfG zC h, grid_map]
  rfl
def frT (l : List Cell) (k : Nat) : List Page := (l.take k).map frOf
theorem frT_zero (l : List Cell) : frT l 0 = [] := rfl
theorem frT_succ {l : List Cell} {k : Nat} (h : k < l.length) : frT l (k + 1) = frT l k ++ [⟨l[k].front, l[k].fturn⟩] := by
  unfold frT; rw [List.take_succ_eq_append_getElem h, List.map_append]; rfl
theorem frT_len {l : List Cell} {k : Nat} (h : k ≤ l.length) : (frT l k).length = k := by simp [frT]; omega
theorem frT_end (l : List Cell) : frT l l.length = l.map frOf := by simp [frT]
theorem frontR_s (b : Bool) (c r : Int) (l : List Cell) (hl : l.length ≤ 1000) : Ctr Try.prog 63 [.agg [(.v (.int .i64 c)), (.v (.int .i64 r)), .sl b 4 (l.map eC)]] (fun rr => rr = ⟨.agg [(.v (.int .i64 c)), (.v (.int .i64 r)), .sl true 2 ((l.map frOf).map eP)], []⟩) := by
  refine Ctr.of (rs := [.cell 2 74]) Tok true Try.func63 rfl rfl rfl rfl (by simp [ofDL]) (fun w0 kp => ?_)
  simp only [↓sxD, ↓sxP0, sxP1, sxF, sxA, sxS, sxK, encs, tys, sxN, sevalprocAttr, ne_eq, decide_true, decide_false]
  refine LoopW.comp [1, 2, 3, 4] (by simp only [sxS, sxL, sxF, encs, sxN, sevalprocAttr, ne_eq, decide_true, decide_false] <;> (try simp) <;> (try omega)) ?_
  simp only [sxS, sxF, sxN, sevalprocAttr, ne_eq, decide_true, decide_false]
  refine LoopW.up Tok (fun k : Nat => [(4, (.v (.int .i64 k)))]) (fun k => [(2, [(.v (.int .i64 c)), (.v (.int .i64 r)), .row 0])]) (fun k => []) (fun k => [.own 132 2 ((frT l k).map eP)]) (fun k => k ≤ l.length) (fun k => l.length - k) (0) (by simp only [sxS, sxL, sxF, encs, sxN, sevalprocAttr, ne_eq, decide_true, decide_false] <;> (try simp [frT_zero, encs]) <;> (try omega)) ?_ ?_
  · omega
  rintro k hk1
  have hfl := frT_len hk1
  simp only [↓sxD, ↓sxP0, sxP1, sxF, sxA, sxS, sxK, encs, tys, sxN, sevalprocAttr, ne_eq, decide_true, decide_false]
  refine BrW.dec (fun hlt => ?_) (fun hlt => ?_)
  · have hk2 : k < l.length := by omega
    simp only [↓sxD, ↓sxP0, sxP1, sxF, sxA, sxS, sxK, encs, tys, sxN, sevalprocAttr, ne_eq, decide_true, decide_false]
    refine DrawW.plan Tok mixed (.q 0 <| .q 1 <| .q 2 <| .q 3 <| .q 4 <| .q 5 <| .q 6 <| .q 7 <| .q 8 <| .q 9 <| .q 10 <| .q 11 <| .q 12 <| .q 13 <| .q 14 <| .e 15 [1] <| .e 16 [] <| .q 17 <| .e 18 [] <| .done) (by kernel_rfl) (by kernel_rfl) ?_
    simp only [↓sxD, ↓sxP0, sxP1, sxF, sxA, sxS, sxK, encs, tys, sxN, sevalprocAttr, ne_eq, decide_true, decide_false]
    refine IxW.nat hk2 ?_
    simp only [↓sxD, ↓sxP0, sxP1, sxF, sxA, sxS, sxK, encs, tys, sxN, sevalprocAttr, ne_eq, decide_true, decide_false]
    refine IxW.nat hk2 ?_
    simp only [↓sxD, ↓sxP0, sxP1, sxF, sxA, sxS, sxK, encs, tys, sxN, sevalprocAttr, ne_eq, decide_true, decide_false]
    repeat ((with_reducible refine Vc.go ?_ fun _ => ?_); (focus (first | omega | (simp only [InK]; omega) | (simp [InK]; done) | (simp [InK]; omega))); simp only [↓sxD, ↓sxP0, sxP1, sxF, sxA, sxS, sxK, encs, tys, sxN, sevalprocAttr, ne_eq, decide_true, decide_false])
    refine ⟨k + 1, StLe.auto (by simp only [sxS, sxL, sxF, encs, sxN, sevalprocAttr, ne_eq, decide_true, decide_false] <;> (try simp [frT_succ hk2, encs]) <;> (try omega)), ?_, ?_⟩
    · omega
    · omega
  · simp only [↓sxD, ↓sxP0, sxP1, sxF, sxA, sxS, sxK, encs, tys, sxN, sevalprocAttr, ne_eq, decide_true, decide_false]
    have : k = l.length := by omega
    subst this
    exact EndW.fn (by simp only [sxL, encs, kpLL_map, sxN, sevalprocAttr, ne_eq, decide_true, decide_false] <;> (try simp [frT_end]) <;> (try omega)) (by simp only [sxL, encs, kpLL_map, sxN, sevalprocAttr, ne_eq, decide_true, decide_false] <;> (try simp) <;> (try omega))
end Go.Proofs.Ytfpkpokkgbobmaa
