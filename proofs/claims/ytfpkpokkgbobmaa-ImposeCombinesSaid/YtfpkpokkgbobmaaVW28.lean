/-
  Chapter 6, walks: both sides in one forme.
-/
import Derived.Test.YtfpkpokkgbobmaaVW27
import Derived.Test.YtfpkpokkgbobmaaVW23
namespace Go.Proofs.Ytfpkpokkgbobmaa
open Go Go.Vx
set_option linter.unusedSimpArgs false
set_option maxRecDepth 20000
def cmC (t : Bool) (c : Nat) : Nat := if t then c else 2 * c
def cmR (t : Bool) (r : Nat) : Nat := if t then 2 * r else r
def cmP (t : Bool) (c r : Nat) (l : List Cell) (k q : Nat) : Page :=
  if k < c ∧ q < r then ⟨(l.getD (q * c + k) zC).front, (l.getD (q * c + k) zC).fturn⟩ else
    if t then ⟨(l.getD ((2 * r - 1 - q) * c + k) zC).back, 1 - (l.getD ((2 * r - 1 - q) * c + k) zC).bturn⟩ else ⟨(l.getD (q * c + (2 * c - 1 - k)) zC).back, (l.getD (q * c + (2 * c - 1 - k)) zC).bturn⟩
def cmS (t : Bool) (c r : Nat) (l : List Cell) : Int × Int × List Page × Bool :=
  if sheetErr (cmC t c : Nat) (cmR t r : Nat) ≠ 0 then (0, 0, [], false) else ((cmC t c : Nat), (cmR t r : Nat), grid (cmC t c) (cmR t r) (cmP t c r l), true)
theorem cmS_ok {t : Bool} {c r : Nat} {l : List Cell} (h : sheetErr (cmC t c : Nat) (cmR t r : Nat) = 0) : cmS t c r l = (((cmC t c : Nat) : Int), ((cmR t r : Nat) : Int), grid (cmC t c) (cmR t r) (cmP t c r l), true) := if_neg (fun k => k h)
theorem cmS_no {t : Bool} {c r : Nat} {l : List Cell} (h : ¬ sheetErr (cmC t c : Nat) (cmR t r : Nat) = 0) : cmS t c r l = (0, 0, [], false) := if_pos h
theorem schK_cl {n : Nat} : ∀ {l : List Cell} {seen : List Int} {i : Nat}, (schK n seen i l).2 = 0 → ∀ x ∈ l, clOk n x = true
  | [], _, _, _, x, hx => by simp at hx
  | y :: l, seen, i, h, x, hx => by
    unfold schK at h
    by_cases h1 : clOk n y = false
    · rw [if_pos h1] at h; simp at h
    · rw [if_neg h1] at h
      by_cases h2 : y.front ∈ seen ∨ y.back ∈ seen ∨ y.front = y.back
      · rw [if_pos h2] at h; simp at h
      · rw [if_neg h2] at h
        rcases List.mem_cons.1 hx with rfl | hx
        · simpa using h1
        · exact schK_cl h x hx
theorem sch_cl {c r : Int} {l : List Cell} (h : (schS c r l).2 = 0) : ∀ x ∈ l, clOk l.length x = true := by
  obtain ⟨cn, rn, rfl, rfl, h1, h2, h3, h4, h5, h6⟩ := sch_fine h
  have e : (l.length : Int) = (cn : Int) * rn := by rw [h5]; push_cast; exact Int.mul_comm _ _
  unfold schS at h
  rw [if_neg (by simp [h6]), if_neg (by simp [e])] at h
  exact schK_cl h
theorem sch_turn {cn rn : Nat} {l : List Cell} (h : (schS cn rn l).2 = 0) {q k : Nat} (hl : l.length = rn * cn) (hq : q < rn) (hk : k < cn) : 0 ≤ (l.getD (q * cn + k) zC).bturn ∧ (l.getD (q * cn + k) zC).bturn ≤ 1 := by
  have i := (twGet zC hl hq hk rfl).2
  have := clOk_iff.1 (sch_cl h _ (List.mem_of_getElem? i))
  omega
theorem comb1R_s (b b2 b3 b4 : Bool) (cn rn k q : Nat) (l : List Cell) (hl : l.length = rn * cn) (hc : cn ≤ 8) (hr : rn ≤ 8) (_hs : (schS cn rn l).2 = 0) (hk : k < (2 * cn)) (hq : q < rn) :
    Ctr Try.prog 91 [(.v (.int .i64 k)), (.v (.int .i64 q)), .pt b2 [(.v (.int .i64 cn)), (.v (.int .i64 rn)), .sl b 4 (l.map eC)], .pt b3 [(.v (.int .i64 (((2 * cn) : Nat))))], .pt b4 [(.v (.int .i64 ((rn : Nat))))]] (fun rr => rr = ⟨.agg [(.v (.int .i64 ((cmP false cn rn l k q).page))), (.v (.int .i64 ((cmP false cn rn l k q).turn)))], []⟩) := by
  have hrc : rn * cn ≤ 8 * 8 := Nat.mul_le_mul hr hc
  refine Ctr.of (rs := [.cell 7 132]) Tok true Try.func91 rfl rfl rfl rfl (by simp [ofDL]) (fun w0 kp => ?_)
  simp only [↓sxD, ↓sxP0, sxP1, sxF, sxA, sxS, sxK, encs, tys, sxN, sevalprocAttr, ne_eq, decide_true, decide_false]
  refine BrW.dec (fun h1 => ?_) (fun h1 => ?_)
  · have hk1 : 2 * cn - 1 - k < cn := by omega
    have hqk := cell_lt hq hk1
    have i1 := twGet zC hl hq hk1 (j := (q : Int) * cn + ((2 * cn : Nat) : Int) - 1 - k) (by push_cast; omega)
    simp only [↓sxD, ↓sxP0, sxP1, sxF, sxA, sxS, sxK, encs, tys, sxN, sevalprocAttr, ne_eq, decide_true, decide_false]
    repeat ((with_reducible refine Vc.go ?_ fun _ => ?_); (focus (first | omega | (simp only [InK]; omega) | (simp [InK]; done) | (simp [InK]; omega))); simp only [↓sxD, ↓sxP0, sxP1, sxF, sxA, sxS, sxK, encs, tys, sxN, sevalprocAttr, ne_eq, decide_true, decide_false])
    refine IxW.map _ i1.1 i1.2 ?_
    simp only [↓sxD, ↓sxP0, sxP1, sxF, sxA, sxS, sxK, encs, tys, sxN, sevalprocAttr, ne_eq, decide_true, decide_false]
    have hno : ¬ (k < cn ∧ q < rn) := by omega
    exact EndW.fn (by simp only [sxL, encs, kpLL_map, sxN, sevalprocAttr, ne_eq, decide_true, decide_false] <;> (try simp [cmP, hno]) <;> (try omega)) (by simp only [sxL, encs, kpLL_map, sxN, sevalprocAttr, ne_eq, decide_true, decide_false] <;> (try simp) <;> (try omega))
  · simp only [↓sxD, ↓sxP0, sxP1, sxF, sxA, sxS, sxK, encs, tys, sxN, sevalprocAttr, ne_eq, decide_true, decide_false]
    refine BrW.dec (fun h2 => ?_) (fun h2 => ?_)
    · exfalso; omega
    · have hk1 : k < cn := by omega
      have hqk := cell_lt hq hk1
      have i1 := twGet zC hl hq hk1 (j := (q : Int) * cn + k) (by push_cast; rfl)
      simp only [↓sxD, ↓sxP0, sxP1, sxF, sxA, sxS, sxK, encs, tys, sxN, sevalprocAttr, ne_eq, decide_true, decide_false]
      repeat ((with_reducible refine Vc.go ?_ fun _ => ?_); (focus (first | omega | (simp only [InK]; omega) | (simp [InK]; done) | (simp [InK]; omega))); simp only [↓sxD, ↓sxP0, sxP1, sxF, sxA, sxS, sxK, encs, tys, sxN, sevalprocAttr, ne_eq, decide_true, decide_false])
      refine IxW.map _ i1.1 i1.2 ?_
      simp only [↓sxD, ↓sxP0, sxP1, sxF, sxA, sxS, sxK, encs, tys, sxN, sevalprocAttr, ne_eq, decide_true, decide_false]
      have hyes : k < cn ∧ q < rn := ⟨hk1, hq⟩
      exact EndW.fn (by simp only [sxL, encs, kpLL_map, sxN, sevalprocAttr, ne_eq, decide_true, decide_false] <;> (try simp [cmP, hyes]) <;> (try omega)) (by simp only [sxL, encs, kpLL_map, sxN, sevalprocAttr, ne_eq, decide_true, decide_false] <;> (try simp) <;> (try omega))
theorem combR_s (b : Bool) (cn rn : Nat) (l : List Cell) (hs : (schS cn rn l).2 = 0) : Ctr Try.prog 68 [.agg [(.v (.int .i64 cn)), (.v (.int .i64 rn)), .sl b 4 (l.map eC)], (.v (.bool (false)))] (fun rr => rr = ⟨.tup [.agg [(.v (.int .i64 ((cmS false cn rn l).1))), (.v (.int .i64 ((cmS false cn rn l).2.1))), .sl true 2 ((cmS false cn rn l).2.2.1.map eP)], (.v (.int .i64 (if (cmS false cn rn l).2.2.2 = true then 0 else 8)))], []⟩) := by
  obtain ⟨cn', rn', e1, e2, h1, h2, h3, h4, h5, -⟩ := sch_fine hs
  obtain rfl : cn = cn' := by omega
  obtain rfl : rn = rn' := by omega
  refine Ctr.of (rs := [.cell 4 74, .tmp 5]) Tok true Try.func68 rfl rfl rfl rfl (by simp [ofDL]) (fun w0 kp => ?_)
  simp only [↓sxD, ↓sxP0, sxP1, sxF, sxA, sxS, sxK, encs, tys, sxN, sevalprocAttr, ne_eq, decide_true, decide_false]
  refine CallI.fn (check_s b cn rn l) (by simp only [sxA, sxL, sxF, encs, sxN, sevalprocAttr, ne_eq, decide_true, decide_false] <;> (try simp)) ?_
  simp only [↓sxD, ↓sxP0, sxP1, sxF, sxA, sxS, sxK, encs, tys, sxN, sevalprocAttr, ne_eq, decide_true, decide_false]
  refine BrW.ff (by simp [hs]) ?_
  simp only [↓sxD, ↓sxP0, sxP1, sxF, sxA, sxS, sxK, encs, tys, sxN, sevalprocAttr, ne_eq, decide_true, decide_false]
  refine DrawW.plan Tok mixed (.q 0 <| .q 1 <| .q 2 <| .q 3 <| .q 4 <| .e2 5 [1, 4] (.e 6 [1, 4] <| .e 7 [4] <| .e 8 [] <| .done) 6 [1, 4] (.e 5 [1, 4] <| .e 7 [4] <| .e 8 [] <| .done)) (by kernel_rfl) (by kernel_rfl) ?_
  simp only [↓sxD, ↓sxP0, sxP1, sxF, sxA, sxS, sxK, encs, tys, sxN, sevalprocAttr, ne_eq, decide_true, decide_false]
  repeat ((with_reducible refine Vc.go ?_ fun _ => ?_); (focus (first | omega | (simp only [InK]; omega) | (simp [InK]; done) | (simp [InK]; omega))); simp only [↓sxD, ↓sxP0, sxP1, sxF, sxA, sxS, sxK, encs, tys, sxN, sevalprocAttr, ne_eq, decide_true, decide_false])
  refine ⟨?_, ?_⟩
  all_goals
    have e3 : (2 * (cn : Int)) = ((2 * cn : Nat) : Int) := by push_cast; rfl
    rw [e3]
    refine CallI.fn (checkSheet_s ((2 * cn) : Nat) (rn : Nat)) (by simp only [sxA, sxL, sxF, encs, sxN, sevalprocAttr, ne_eq, decide_true, decide_false] <;> (try simp)) ?_
    simp only [↓sxD, ↓sxP0, sxP1, sxF, sxA, sxS, sxK, encs, tys, sxN, sevalprocAttr, ne_eq, decide_true, decide_false]
    refine BrW.dec (fun hk => ?_) (fun hk => ?_)
    · have hk2 : ¬ sheetErr (cmC false cn : Nat) (cmR false rn : Nat) = 0 := hk
      rw [cmS_no hk2]
      simp only [↓sxD, ↓sxP0, sxP1, sxF, sxA, sxS, sxK, encs, tys, sxN, sevalprocAttr, ne_eq, decide_true, decide_false]
      exact EndW.fn (by simp only [sxL, encs, kpLL_map, sxN, sevalprocAttr, ne_eq, decide_true, decide_false] <;> (try simp) <;> (try omega)) (by simp only [sxL, encs, kpLL_map, sxN, sevalprocAttr, ne_eq, decide_true, decide_false] <;> (try simp) <;> (try omega))
    · have hk2 : sheetErr (cmC false cn : Nat) (cmR false rn : Nat) = 0 := Decidable.not_not.1 hk
      simp only [↓sxD, ↓sxP0, sxP1, sxF, sxA, sxS, sxK, encs, tys, sxN, sevalprocAttr, ne_eq, decide_true, decide_false]
      refine CallI.fn (viewOf_s 91 [.pt false [(.v (.int .i64 cn)), (.v (.int .i64 rn)), .sl b 4 (l.map eC)], .pt false [(.v (.int .i64 (((2 * cn) : Nat))))], .pt false [(.v (.int .i64 ((rn : Nat))))]] (by intro; rfl) (by intro β γ; simp [leL, leV]) (by intro rw bx; simp [argOk, lendA, lendO, argO, ofD, leV]) (2 * cn) rn (cmP false cn rn l) (fun k q h1 h2 => comb1R_s b false false false cn rn k q l h5 (by omega) (by omega) hs h1 h2) (by omega) (by omega)) (by simp only [sxA, sxL, sxF, encs, sxN, sevalprocAttr, ne_eq, decide_true, decide_false] <;> (try simp)) ?_
      simp only [↓sxD, ↓sxP0, sxP1, sxF, sxA, sxS, sxK, encs, tys, sxN, sevalprocAttr, ne_eq, decide_true, decide_false]
      rw [cmS_ok hk2]
      exact EndW.fn (by simp only [sxL, encs, kpLL_map, sxN, sevalprocAttr, ne_eq, decide_true, decide_false] <;> (try simp [cmC, cmR]) <;> (try omega)) (by simp only [sxL, encs, kpLL_map, sxN, sevalprocAttr, ne_eq, decide_true, decide_false] <;> (try simp) <;> (try omega))
theorem combRefR_s (b : Bool) (cn rn : Nat) (l : List Cell) (hs : (schS cn rn l).2 = 0) : Ctr Try.prog 69 [.agg [(.v (.int .i64 cn)), (.v (.int .i64 rn)), .sl b 4 (l.map eC)], (.v (.bool (false)))] (fun rr => rr = ⟨.tup [.agg [(.v (.int .i64 ((cmS false cn rn l).1))), (.v (.int .i64 ((cmS false cn rn l).2.1))), .sl true 2 ((cmS false cn rn l).2.2.1.map eP)], (.v (.bool ((cmS false cn rn l).2.2.2)))], []⟩) := by
  obtain ⟨cn', rn', e1, e2, h1, h2, h3, h4, h5, -⟩ := sch_fine hs
  obtain rfl : cn = cn' := by omega
  obtain rfl : rn = rn' := by omega
  have hrc : rn * cn ≤ 8 * 8 := Nat.mul_le_mul h4 h2
  have e3 : (2 * (cn : Int)) = ((2 * cn : Nat) : Int) := by push_cast; rfl
  refine Ctr.of (rs := [.cell 4 74, .tmp 5]) Tok true Try.func69 rfl rfl rfl rfl (by simp [ofDL]) (fun w0 kp => ?_)
  simp only [↓sxD, ↓sxP0, sxP1, sxF, sxA, sxS, sxK, encs, tys, sxN, sevalprocAttr, ne_eq, decide_true, decide_false]
  repeat ((with_reducible refine Vc.go ?_ fun _ => ?_); (focus (first | omega | (simp only [InK]; omega) | (simp [InK]; done) | (simp [InK]; omega))); simp only [↓sxD, ↓sxP0, sxP1, sxF, sxA, sxS, sxK, encs, tys, sxN, sevalprocAttr, ne_eq, decide_true, decide_false])
  rw [e3]
  refine CallI.fn (checkSheetR_s ((2 * cn) : Nat) (rn : Nat)) (by simp only [sxA, sxL, sxF, encs, sxN, sevalprocAttr, ne_eq, decide_true, decide_false] <;> (try simp)) ?_
  simp only [↓sxD, ↓sxP0, sxP1, sxF, sxA, sxS, sxK, encs, tys, sxN, sevalprocAttr, ne_eq, decide_true, decide_false]
  refine BrW.dec (fun hk => ?_) (fun hk => ?_)
  · have hk2 : ¬ sheetErr (cmC false cn : Nat) (cmR false rn : Nat) = 0 := hk
    rw [cmS_no hk2]
    simp only [↓sxD, ↓sxP0, sxP1, sxF, sxA, sxS, sxK, encs, tys, sxN, sevalprocAttr, ne_eq, decide_true, decide_false]
    exact EndW.fn (by simp only [sxL, encs, kpLL_map, sxN, sevalprocAttr, ne_eq, decide_true, decide_false] <;> (try simp) <;> (try omega)) (by simp only [sxL, encs, kpLL_map, sxN, sevalprocAttr, ne_eq, decide_true, decide_false] <;> (try simp) <;> (try omega))
  · have hk2 : sheetErr (cmC false cn : Nat) (cmR false rn : Nat) = 0 := Decidable.not_not.1 hk
    simp only [↓sxD, ↓sxP0, sxP1, sxF, sxA, sxS, sxK, encs, tys, sxN, sevalprocAttr, ne_eq, decide_true, decide_false]
    refine LoopW.comp [1, 2, 4, 6, 7] (by simp only [sxS, sxL, sxF, encs, sxN, sevalprocAttr, ne_eq, decide_true, decide_false] <;> (try simp) <;> (try omega)) ?_
    simp only [sxS, sxF, sxN, sevalprocAttr, ne_eq, decide_true, decide_false]
    refine LoopW.up Tok (fun q : Nat => [(7, (.v (.int .i64 q)))]) (fun q => [(2, [(.v (.int .i64 (((2 * cn) : Nat)))), (.v (.int .i64 ((rn : Nat)))), .row 0])]) (fun q => []) (fun q => [.own 132 2 ((grid (2 * cn) q (cmP false cn rn l)).map eP)]) (fun q => q ≤ rn) (fun q => rn - q) (0) (by simp only [sxS, sxL, sxF, encs, sxN, sevalprocAttr, ne_eq, decide_true, decide_false] <;> (try simp) <;> (try omega)) ?_ ?_
    · omega
    rintro q hq1
    simp only [↓sxD, ↓sxP0, sxP1, sxF, sxA, sxS, sxK, encs, tys, sxN, sevalprocAttr, ne_eq, decide_true, decide_false]
    refine BrW.dec (fun hlt => ?_) (fun hlt => ?_)
    · simp only [↓sxD, ↓sxP0, sxP1, sxF, sxA, sxS, sxK, encs, tys, sxN, sevalprocAttr, ne_eq, decide_true, decide_false]
      have hq2 : q < rn := by omega
      refine LoopW.comp [1, 2, 4, 6, 7, 8] (by simp only [sxS, sxL, sxF, encs, sxN, sevalprocAttr, ne_eq, decide_true, decide_false] <;> (try simp) <;> (try omega)) ?_
      simp only [sxS, sxF, sxN, sevalprocAttr, ne_eq, decide_true, decide_false]
      refine LoopW.up Tok (fun k : Nat => [(8, (.v (.int .i64 k)))]) (fun k => []) (fun k => [(0, ((grid (2 * cn) q (cmP false cn rn l)) ++ gridRow k (cmP false cn rn l) q).map eP)]) (fun k => []) (fun k => k ≤ (2 * cn)) (fun k => (2 * cn) - k) (0) (by simp only [sxS, sxL, sxF, encs, sxN, sevalprocAttr, ne_eq, decide_true, decide_false] <;> (try simp) <;> (try omega)) ?_ ?_
      · omega
      rintro k hk1
      simp only [↓sxD, ↓sxP0, sxP1, sxF, sxA, sxS, sxK, encs, tys, sxN, sevalprocAttr, ne_eq, decide_true, decide_false]
      refine BrW.dec (fun hlt2 => ?_) (fun hlt2 => ?_)
      · have hk2' : k < (2 * cn) := by omega
        have hqk2 := cell_lt hq2 hk2'
        have hsz : rn * (2 * cn) ≤ 16 * 16 := Nat.mul_le_mul (by omega) (by omega)
        simp only [↓sxD, ↓sxP0, sxP1, sxF, sxA, sxS, sxK, encs, tys, sxN, sevalprocAttr, ne_eq, decide_true, decide_false]
        refine BrW.dec (fun ha => ?_) (fun ha => ?_)
        · have hk3 : k < cn := by omega
          simp only [↓sxD, ↓sxP0, sxP1, sxF, sxA, sxS, sxK, encs, tys, sxN, sevalprocAttr, ne_eq, decide_true, decide_false]
          refine BrW.yes (show (q : Int) < rn by omega) ?_
          · have hq3 : q < rn := hq2
            have hyes : k < cn ∧ q < rn := ⟨hk3, hq3⟩
            have hqk := cell_lt hq3 hk3
            have i1 := twGet zC h5 hq3 hk3 (j := (q : Int) * cn + k) (by push_cast; rfl)
            simp only [↓sxD, ↓sxP0, sxP1, sxF, sxA, sxS, sxK, encs, tys, sxN, sevalprocAttr, ne_eq, decide_true, decide_false]
            repeat ((with_reducible refine Vc.go ?_ fun _ => ?_); (focus (first | omega | (simp only [InK]; omega) | (simp [InK]; done) | (simp [InK]; omega))); simp only [↓sxD, ↓sxP0, sxP1, sxF, sxA, sxS, sxK, encs, tys, sxN, sevalprocAttr, ne_eq, decide_true, decide_false])
            refine IxW.map _ i1.1 i1.2 ?_
            simp only [↓sxD, ↓sxP0, sxP1, sxF, sxA, sxS, sxK, encs, tys, sxN, sevalprocAttr, ne_eq, decide_true, decide_false]
            repeat ((with_reducible refine Vc.go ?_ fun _ => ?_); (focus (first | omega | (simp only [InK]; omega) | (simp [InK]; done) | (simp [InK]; omega))); simp only [↓sxD, ↓sxP0, sxP1, sxF, sxA, sxS, sxK, encs, tys, sxN, sevalprocAttr, ne_eq, decide_true, decide_false])
            (with_reducible refine Vc.go ?_ fun _ => ?_); focus (first | omega | (simp only [InK]; omega) | (simp [grid_length, gridRow_length, InK]; done) | (simp [grid_length, gridRow_length, InK]; omega))
            simp only [↓sxD, ↓sxP0, sxP1, sxF, sxA, sxS, sxK, encs, tys, sxN, sevalprocAttr, ne_eq, decide_true, decide_false]
            repeat ((with_reducible refine Vc.go ?_ fun _ => ?_); (focus (first | omega | (simp only [InK]; omega) | (simp [InK]; done) | (simp [InK]; omega))); simp only [↓sxD, ↓sxP0, sxP1, sxF, sxA, sxS, sxK, encs, tys, sxN, sevalprocAttr, ne_eq, decide_true, decide_false])
            refine ⟨k + 1, StLe.auto (by simp only [sxS, sxL, sxF, encs, sxN, sevalprocAttr, ne_eq, decide_true, decide_false] <;> (try simp [gridRow_succ, cmP, hyes, encs]) <;> (try omega)), ?_, ?_⟩
            · omega
            · omega
        · have hno : ¬ (k < cn ∧ q < rn) := by omega
          have hk3 : 2 * cn - 1 - k < cn := by omega
          have hqk := cell_lt hq2 hk3
          have i1 := twGet zC h5 hq2 hk3 (j := (q : Int) * cn + ((2 * cn : Nat) : Int) - 1 - k) (by push_cast; omega)
          simp only [↓sxD, ↓sxP0, sxP1, sxF, sxA, sxS, sxK, encs, tys, sxN, sevalprocAttr, ne_eq, decide_true, decide_false]
          repeat ((with_reducible refine Vc.go ?_ fun _ => ?_); (focus (first | omega | (simp only [InK]; omega) | (simp [InK]; done) | (simp [InK]; omega))); simp only [↓sxD, ↓sxP0, sxP1, sxF, sxA, sxS, sxK, encs, tys, sxN, sevalprocAttr, ne_eq, decide_true, decide_false])
          refine IxW.map _ i1.1 i1.2 ?_
          simp only [↓sxD, ↓sxP0, sxP1, sxF, sxA, sxS, sxK, encs, tys, sxN, sevalprocAttr, ne_eq, decide_true, decide_false]
          repeat ((with_reducible refine Vc.go ?_ fun _ => ?_); (focus (first | omega | (simp only [InK]; omega) | (simp [InK]; done) | (simp [InK]; omega))); simp only [↓sxD, ↓sxP0, sxP1, sxF, sxA, sxS, sxK, encs, tys, sxN, sevalprocAttr, ne_eq, decide_true, decide_false])
          (with_reducible refine Vc.go ?_ fun _ => ?_); focus (first | omega | (simp only [InK]; omega) | (simp [grid_length, gridRow_length, InK]; done) | (simp [grid_length, gridRow_length, InK]; omega))
          simp only [↓sxD, ↓sxP0, sxP1, sxF, sxA, sxS, sxK, encs, tys, sxN, sevalprocAttr, ne_eq, decide_true, decide_false]
          repeat ((with_reducible refine Vc.go ?_ fun _ => ?_); (focus (first | omega | (simp only [InK]; omega) | (simp [InK]; done) | (simp [InK]; omega))); simp only [↓sxD, ↓sxP0, sxP1, sxF, sxA, sxS, sxK, encs, tys, sxN, sevalprocAttr, ne_eq, decide_true, decide_false])
          refine ⟨k + 1, StLe.auto (by simp only [sxS, sxL, sxF, encs, sxN, sevalprocAttr, ne_eq, decide_true, decide_false] <;> (try simp [gridRow_succ, cmP, hno, encs]) <;> (try omega)), ?_, ?_⟩
          · omega
          · omega
      · simp only [↓sxD, ↓sxP0, sxP1, sxF, sxA, sxS, sxK, encs, tys, sxN, sevalprocAttr, ne_eq, decide_true, decide_false]
        have : k = (2 * cn) := by omega
        subst this
        (with_reducible refine Vc.go ?_ fun _ => ?_); focus (first | omega | (simp only [InK]; omega) | (simp [InK]; done) | (simp [InK]; omega))
        simp only [↓sxD, ↓sxP0, sxP1, sxF, sxA, sxS, sxK, encs, tys, sxN, sevalprocAttr, ne_eq, decide_true, decide_false]
        refine ⟨q + 1, StLe.auto (by simp only [sxS, sxL, sxF, encs, sxN, sevalprocAttr, ne_eq, decide_true, decide_false] <;> (try simp [grid_succ, encs]) <;> (try omega)), ?_, ?_⟩
        · omega
        · omega
    · simp only [↓sxD, ↓sxP0, sxP1, sxF, sxA, sxS, sxK, encs, tys, sxN, sevalprocAttr, ne_eq, decide_true, decide_false]
      have : q = rn := by omega
      subst this
      rw [cmS_ok hk2]
      exact EndW.fn (by simp only [sxL, encs, kpLL_map, sxN, sevalprocAttr, ne_eq, decide_true, decide_false] <;> (try simp [cmC, cmR]) <;> (try omega)) (by simp only [sxL, encs, kpLL_map, sxN, sevalprocAttr, ne_eq, decide_true, decide_false] <;> (try simp) <;> (try omega))
theorem comb1D_s (b b2 b3 b4 : Bool) (cn rn k q : Nat) (l : List Cell) (hl : l.length = rn * cn) (hc : cn ≤ 8) (hr : rn ≤ 8) (_hs : (schS cn rn l).2 = 0) (hk : k < cn) (hq : q < (2 * rn)) :
    Ctr Try.prog 91 [(.v (.int .i64 k)), (.v (.int .i64 q)), .pt b2 [(.v (.int .i64 cn)), (.v (.int .i64 rn)), .sl b 4 (l.map eC)], .pt b3 [(.v (.int .i64 ((cn : Nat))))], .pt b4 [(.v (.int .i64 (((2 * rn) : Nat))))]] (fun rr => rr = ⟨.agg [(.v (.int .i64 ((cmP true cn rn l k q).page))), (.v (.int .i64 ((cmP true cn rn l k q).turn)))], []⟩) := by
  have hrc : rn * cn ≤ 8 * 8 := Nat.mul_le_mul hr hc
  refine Ctr.of (rs := [.cell 7 132]) Tok true Try.func91 rfl rfl rfl rfl (by simp [ofDL]) (fun w0 kp => ?_)
  simp only [↓sxD, ↓sxP0, sxP1, sxF, sxA, sxS, sxK, encs, tys, sxN, sevalprocAttr, ne_eq, decide_true, decide_false]
  refine BrW.dec (fun h1 => ?_) (fun h1 => ?_)
  · exfalso; omega
  · simp only [↓sxD, ↓sxP0, sxP1, sxF, sxA, sxS, sxK, encs, tys, sxN, sevalprocAttr, ne_eq, decide_true, decide_false]
    refine BrW.dec (fun h2 => ?_) (fun h2 => ?_)
    · have hk1 : k < cn := by omega
      have hq1 : 2 * rn - 1 - q < rn := by omega
      have hqk := cell_lt hq1 hk1
      have e4 : ((2 * rn : Nat) : Int) - 1 - q = ((2 * rn - 1 - q : Nat) : Int) := by omega
      have e5 : ((2 * rn - 1 - q : Nat) : Int) * cn = (((2 * rn - 1 - q) * cn : Nat) : Int) := by push_cast; rfl
      have i1 := twGet zC hl hq1 hk1 (j := (((2 * rn - 1 - q) * cn : Nat) : Int) + k) (by push_cast; rfl)
      have ht := sch_turn _hs hl hq1 hk1
      simp only [↓sxD, ↓sxP0, sxP1, sxF, sxA, sxS, sxK, encs, tys, sxN, sevalprocAttr, ne_eq, decide_true, decide_false]
      repeat ((with_reducible refine Vc.go ?_ fun _ => ?_); (focus (first | omega | (simp only [InK]; omega) | (simp [InK]; done) | (simp [InK]; omega))); simp only [↓sxD, ↓sxP0, sxP1, sxF, sxA, sxS, sxK, encs, tys, sxN, sevalprocAttr, ne_eq, decide_true, decide_false])
      rw [e4]
      repeat ((with_reducible refine Vc.go ?_ fun _ => ?_); (focus (first | omega | (simp only [InK]; omega) | (simp [InK]; done) | (simp [InK]; omega))); simp only [↓sxD, ↓sxP0, sxP1, sxF, sxA, sxS, sxK, encs, tys, sxN, sevalprocAttr, ne_eq, decide_true, decide_false])
      rw [e5]
      repeat ((with_reducible refine Vc.go ?_ fun _ => ?_); (focus (first | omega | (simp only [InK]; omega) | (simp [InK]; done) | (simp [InK]; omega))); simp only [↓sxD, ↓sxP0, sxP1, sxF, sxA, sxS, sxK, encs, tys, sxN, sevalprocAttr, ne_eq, decide_true, decide_false])
      refine IxW.map _ i1.1 i1.2 ?_
      simp only [↓sxD, ↓sxP0, sxP1, sxF, sxA, sxS, sxK, encs, tys, sxN, sevalprocAttr, ne_eq, decide_true, decide_false]
      repeat ((with_reducible refine Vc.go ?_ fun _ => ?_); (focus (first | omega | (simp only [InK]; omega) | (simp [InK]; done) | (simp [InK]; omega))); simp only [↓sxD, ↓sxP0, sxP1, sxF, sxA, sxS, sxK, encs, tys, sxN, sevalprocAttr, ne_eq, decide_true, decide_false])
      have hno : ¬ (k < cn ∧ q < rn) := by omega
      exact EndW.fn (by simp only [sxL, encs, kpLL_map, sxN, sevalprocAttr, ne_eq, decide_true, decide_false] <;> (try simp [cmP, hno]) <;> (try omega)) (by simp only [sxL, encs, kpLL_map, sxN, sevalprocAttr, ne_eq, decide_true, decide_false] <;> (try simp) <;> (try omega))
    · have hk1 : k < cn := by omega
      have hq1 : q < rn := by omega
      have hqk := cell_lt hq1 hk1
      have i1 := twGet zC hl hq1 hk1 (j := (q : Int) * cn + k) (by push_cast; rfl)
      simp only [↓sxD, ↓sxP0, sxP1, sxF, sxA, sxS, sxK, encs, tys, sxN, sevalprocAttr, ne_eq, decide_true, decide_false]
      repeat ((with_reducible refine Vc.go ?_ fun _ => ?_); (focus (first | omega | (simp only [InK]; omega) | (simp [InK]; done) | (simp [InK]; omega))); simp only [↓sxD, ↓sxP0, sxP1, sxF, sxA, sxS, sxK, encs, tys, sxN, sevalprocAttr, ne_eq, decide_true, decide_false])
      refine IxW.map _ i1.1 i1.2 ?_
      simp only [↓sxD, ↓sxP0, sxP1, sxF, sxA, sxS, sxK, encs, tys, sxN, sevalprocAttr, ne_eq, decide_true, decide_false]
      have hyes : k < cn ∧ q < rn := ⟨hk1, hq1⟩
      exact EndW.fn (by simp only [sxL, encs, kpLL_map, sxN, sevalprocAttr, ne_eq, decide_true, decide_false] <;> (try simp [cmP, hyes]) <;> (try omega)) (by simp only [sxL, encs, kpLL_map, sxN, sevalprocAttr, ne_eq, decide_true, decide_false] <;> (try simp) <;> (try omega))
theorem combD_s (b : Bool) (cn rn : Nat) (l : List Cell) (hs : (schS cn rn l).2 = 0) : Ctr Try.prog 68 [.agg [(.v (.int .i64 cn)), (.v (.int .i64 rn)), .sl b 4 (l.map eC)], (.v (.bool (true)))] (fun rr => rr = ⟨.tup [.agg [(.v (.int .i64 ((cmS true cn rn l).1))), (.v (.int .i64 ((cmS true cn rn l).2.1))), .sl true 2 ((cmS true cn rn l).2.2.1.map eP)], (.v (.int .i64 (if (cmS true cn rn l).2.2.2 = true then 0 else 8)))], []⟩) := by
  obtain ⟨cn', rn', e1, e2, h1, h2, h3, h4, h5, -⟩ := sch_fine hs
  obtain rfl : cn = cn' := by omega
  obtain rfl : rn = rn' := by omega
  refine Ctr.of (rs := [.cell 4 74, .tmp 5]) Tok true Try.func68 rfl rfl rfl rfl (by simp [ofDL]) (fun w0 kp => ?_)
  simp only [↓sxD, ↓sxP0, sxP1, sxF, sxA, sxS, sxK, encs, tys, sxN, sevalprocAttr, ne_eq, decide_true, decide_false]
  refine CallI.fn (check_s b cn rn l) (by simp only [sxA, sxL, sxF, encs, sxN, sevalprocAttr, ne_eq, decide_true, decide_false] <;> (try simp)) ?_
  simp only [↓sxD, ↓sxP0, sxP1, sxF, sxA, sxS, sxK, encs, tys, sxN, sevalprocAttr, ne_eq, decide_true, decide_false]
  refine BrW.ff (by simp [hs]) ?_
  simp only [↓sxD, ↓sxP0, sxP1, sxF, sxA, sxS, sxK, encs, tys, sxN, sevalprocAttr, ne_eq, decide_true, decide_false]
  refine DrawW.plan Tok mixed (.q 0 <| .q 1 <| .q 2 <| .q 3 <| .q 4 <| .e2 5 [1, 4] (.e 6 [1, 4] <| .e 7 [4] <| .e 8 [] <| .done) 6 [1, 4] (.e 5 [1, 4] <| .e 7 [4] <| .e 8 [] <| .done)) (by kernel_rfl) (by kernel_rfl) ?_
  simp only [↓sxD, ↓sxP0, sxP1, sxF, sxA, sxS, sxK, encs, tys, sxN, sevalprocAttr, ne_eq, decide_true, decide_false]
  repeat ((with_reducible refine Vc.go ?_ fun _ => ?_); (focus (first | omega | (simp only [InK]; omega) | (simp [InK]; done) | (simp [InK]; omega))); simp only [↓sxD, ↓sxP0, sxP1, sxF, sxA, sxS, sxK, encs, tys, sxN, sevalprocAttr, ne_eq, decide_true, decide_false])
  refine ⟨?_, ?_⟩
  all_goals
    refine DrawW.plan Tok mixed (.q 0 <| .q 1 <| .q 2 <| .q 3 <| .q 4 <| .e 5 [3] <| .e 6 [] <| .done) (by kernel_rfl) (by kernel_rfl) ?_
    simp only [↓sxD, ↓sxP0, sxP1, sxF, sxA, sxS, sxK, encs, tys, sxN, sevalprocAttr, ne_eq, decide_true, decide_false]
    repeat ((with_reducible refine Vc.go ?_ fun _ => ?_); (focus (first | omega | (simp only [InK]; omega) | (simp [InK]; done) | (simp [InK]; omega))); simp only [↓sxD, ↓sxP0, sxP1, sxF, sxA, sxS, sxK, encs, tys, sxN, sevalprocAttr, ne_eq, decide_true, decide_false])
    have e3 : (2 * (rn : Int)) = ((2 * rn : Nat) : Int) := by push_cast; rfl
    rw [e3]
    refine CallI.fn (checkSheet_s (cn : Nat) ((2 * rn) : Nat)) (by simp only [sxA, sxL, sxF, encs, sxN, sevalprocAttr, ne_eq, decide_true, decide_false] <;> (try simp)) ?_
    simp only [↓sxD, ↓sxP0, sxP1, sxF, sxA, sxS, sxK, encs, tys, sxN, sevalprocAttr, ne_eq, decide_true, decide_false]
    refine BrW.dec (fun hk => ?_) (fun hk => ?_)
    · have hk2 : ¬ sheetErr (cmC true cn : Nat) (cmR true rn : Nat) = 0 := hk
      rw [cmS_no hk2]
      simp only [↓sxD, ↓sxP0, sxP1, sxF, sxA, sxS, sxK, encs, tys, sxN, sevalprocAttr, ne_eq, decide_true, decide_false]
      exact EndW.fn (by simp only [sxL, encs, kpLL_map, sxN, sevalprocAttr, ne_eq, decide_true, decide_false] <;> (try simp) <;> (try omega)) (by simp only [sxL, encs, kpLL_map, sxN, sevalprocAttr, ne_eq, decide_true, decide_false] <;> (try simp) <;> (try omega))
    · have hk2 : sheetErr (cmC true cn : Nat) (cmR true rn : Nat) = 0 := Decidable.not_not.1 hk
      simp only [↓sxD, ↓sxP0, sxP1, sxF, sxA, sxS, sxK, encs, tys, sxN, sevalprocAttr, ne_eq, decide_true, decide_false]
      refine CallI.fn (viewOf_s 91 [.pt false [(.v (.int .i64 cn)), (.v (.int .i64 rn)), .sl b 4 (l.map eC)], .pt false [(.v (.int .i64 ((cn : Nat))))], .pt false [(.v (.int .i64 (((2 * rn) : Nat))))]] (by intro; rfl) (by intro β γ; simp [leL, leV]) (by intro rw bx; simp [argOk, lendA, lendO, argO, ofD, leV]) cn (2 * rn) (cmP true cn rn l) (fun k q h1 h2 => comb1D_s b false false false cn rn k q l h5 (by omega) (by omega) hs h1 h2) (by omega) (by omega)) (by simp only [sxA, sxL, sxF, encs, sxN, sevalprocAttr, ne_eq, decide_true, decide_false] <;> (try simp)) ?_
      simp only [↓sxD, ↓sxP0, sxP1, sxF, sxA, sxS, sxK, encs, tys, sxN, sevalprocAttr, ne_eq, decide_true, decide_false]
      rw [cmS_ok hk2]
      exact EndW.fn (by simp only [sxL, encs, kpLL_map, sxN, sevalprocAttr, ne_eq, decide_true, decide_false] <;> (try simp [cmC, cmR]) <;> (try omega)) (by simp only [sxL, encs, kpLL_map, sxN, sevalprocAttr, ne_eq, decide_true, decide_false] <;> (try simp) <;> (try omega))
theorem combRefD_s (b : Bool) (cn rn : Nat) (l : List Cell) (hs : (schS cn rn l).2 = 0) : Ctr Try.prog 69 [.agg [(.v (.int .i64 cn)), (.v (.int .i64 rn)), .sl b 4 (l.map eC)], (.v (.bool (true)))] (fun rr => rr = ⟨.tup [.agg [(.v (.int .i64 ((cmS true cn rn l).1))), (.v (.int .i64 ((cmS true cn rn l).2.1))), .sl true 2 ((cmS true cn rn l).2.2.1.map eP)], (.v (.bool ((cmS true cn rn l).2.2.2)))], []⟩) := by
  obtain ⟨cn', rn', e1, e2, h1, h2, h3, h4, h5, -⟩ := sch_fine hs
  obtain rfl : cn = cn' := by omega
  obtain rfl : rn = rn' := by omega
  have hrc : rn * cn ≤ 8 * 8 := Nat.mul_le_mul h4 h2
  have e3 : (2 * (rn : Int)) = ((2 * rn : Nat) : Int) := by push_cast; rfl
  refine Ctr.of (rs := [.cell 4 74, .tmp 5]) Tok true Try.func69 rfl rfl rfl rfl (by simp [ofDL]) (fun w0 kp => ?_)
  simp only [↓sxD, ↓sxP0, sxP1, sxF, sxA, sxS, sxK, encs, tys, sxN, sevalprocAttr, ne_eq, decide_true, decide_false]
  repeat ((with_reducible refine Vc.go ?_ fun _ => ?_); (focus (first | omega | (simp only [InK]; omega) | (simp [InK]; done) | (simp [InK]; omega))); simp only [↓sxD, ↓sxP0, sxP1, sxF, sxA, sxS, sxK, encs, tys, sxN, sevalprocAttr, ne_eq, decide_true, decide_false])
  refine DrawW.plan Tok mixed (.q 0 <| .q 1 <| .q 2 <| .q 3 <| .q 4 <| .q 5 <| .e 6 [3] <| .q 7 <| .e 8 [] <| .done) (by kernel_rfl) (by kernel_rfl) ?_
  simp only [↓sxD, ↓sxP0, sxP1, sxF, sxA, sxS, sxK, encs, tys, sxN, sevalprocAttr, ne_eq, decide_true, decide_false]
  repeat ((with_reducible refine Vc.go ?_ fun _ => ?_); (focus (first | omega | (simp only [InK]; omega) | (simp [InK]; done) | (simp [InK]; omega))); simp only [↓sxD, ↓sxP0, sxP1, sxF, sxA, sxS, sxK, encs, tys, sxN, sevalprocAttr, ne_eq, decide_true, decide_false])
  rw [e3]
  refine CallI.fn (checkSheetR_s (cn : Nat) ((2 * rn) : Nat)) (by simp only [sxA, sxL, sxF, encs, sxN, sevalprocAttr, ne_eq, decide_true, decide_false] <;> (try simp)) ?_
  simp only [↓sxD, ↓sxP0, sxP1, sxF, sxA, sxS, sxK, encs, tys, sxN, sevalprocAttr, ne_eq, decide_true, decide_false]
  refine BrW.dec (fun hk => ?_) (fun hk => ?_)
  · have hk2 : ¬ sheetErr (cmC true cn : Nat) (cmR true rn : Nat) = 0 := hk
    rw [cmS_no hk2]
    simp only [↓sxD, ↓sxP0, sxP1, sxF, sxA, sxS, sxK, encs, tys, sxN, sevalprocAttr, ne_eq, decide_true, decide_false]
    exact EndW.fn (by simp only [sxL, encs, kpLL_map, sxN, sevalprocAttr, ne_eq, decide_true, decide_false] <;> (try simp) <;> (try omega)) (by simp only [sxL, encs, kpLL_map, sxN, sevalprocAttr, ne_eq, decide_true, decide_false] <;> (try simp) <;> (try omega))
  · have hk2 : sheetErr (cmC true cn : Nat) (cmR true rn : Nat) = 0 := Decidable.not_not.1 hk
    simp only [↓sxD, ↓sxP0, sxP1, sxF, sxA, sxS, sxK, encs, tys, sxN, sevalprocAttr, ne_eq, decide_true, decide_false]
    refine LoopW.comp [1, 2, 4, 6, 7] (by simp only [sxS, sxL, sxF, encs, sxN, sevalprocAttr, ne_eq, decide_true, decide_false] <;> (try simp) <;> (try omega)) ?_
    simp only [sxS, sxF, sxN, sevalprocAttr, ne_eq, decide_true, decide_false]
    refine LoopW.up Tok (fun q : Nat => [(7, (.v (.int .i64 q)))]) (fun q => [(2, [(.v (.int .i64 ((cn : Nat)))), (.v (.int .i64 (((2 * rn) : Nat)))), .row 0])]) (fun q => []) (fun q => [.own 132 2 ((grid cn q (cmP true cn rn l)).map eP)]) (fun q => q ≤ (2 * rn)) (fun q => (2 * rn) - q) (0) (by simp only [sxS, sxL, sxF, encs, sxN, sevalprocAttr, ne_eq, decide_true, decide_false] <;> (try simp) <;> (try omega)) ?_ ?_
    · omega
    rintro q hq1
    simp only [↓sxD, ↓sxP0, sxP1, sxF, sxA, sxS, sxK, encs, tys, sxN, sevalprocAttr, ne_eq, decide_true, decide_false]
    refine BrW.dec (fun hlt => ?_) (fun hlt => ?_)
    · simp only [↓sxD, ↓sxP0, sxP1, sxF, sxA, sxS, sxK, encs, tys, sxN, sevalprocAttr, ne_eq, decide_true, decide_false]
      have hq2 : q < (2 * rn) := by omega
      refine LoopW.comp [1, 2, 4, 6, 7, 8] (by simp only [sxS, sxL, sxF, encs, sxN, sevalprocAttr, ne_eq, decide_true, decide_false] <;> (try simp) <;> (try omega)) ?_
      simp only [sxS, sxF, sxN, sevalprocAttr, ne_eq, decide_true, decide_false]
      refine LoopW.up Tok (fun k : Nat => [(8, (.v (.int .i64 k)))]) (fun k => []) (fun k => [(0, ((grid cn q (cmP true cn rn l)) ++ gridRow k (cmP true cn rn l) q).map eP)]) (fun k => []) (fun k => k ≤ cn) (fun k => cn - k) (0) (by simp only [sxS, sxL, sxF, encs, sxN, sevalprocAttr, ne_eq, decide_true, decide_false] <;> (try simp) <;> (try omega)) ?_ ?_
      · omega
      rintro k hk1
      simp only [↓sxD, ↓sxP0, sxP1, sxF, sxA, sxS, sxK, encs, tys, sxN, sevalprocAttr, ne_eq, decide_true, decide_false]
      refine BrW.dec (fun hlt2 => ?_) (fun hlt2 => ?_)
      · have hk2' : k < cn := by omega
        have hqk2 := cell_lt hq2 hk2'
        have hsz : (2 * rn) * cn ≤ 16 * 16 := Nat.mul_le_mul (by omega) (by omega)
        simp only [↓sxD, ↓sxP0, sxP1, sxF, sxA, sxS, sxK, encs, tys, sxN, sevalprocAttr, ne_eq, decide_true, decide_false]
        refine BrW.dec (fun ha => ?_) (fun ha => ?_)
        · have hk3 : k < cn := by omega
          simp only [↓sxD, ↓sxP0, sxP1, sxF, sxA, sxS, sxK, encs, tys, sxN, sevalprocAttr, ne_eq, decide_true, decide_false]
          refine BrW.dec (fun hb => ?_) (fun hb => ?_)
          · have hq3 : q < rn := by omega
            have hyes : k < cn ∧ q < rn := ⟨hk3, hq3⟩
            have hqk := cell_lt hq3 hk3
            have i1 := twGet zC h5 hq3 hk3 (j := (q : Int) * cn + k) (by push_cast; rfl)
            simp only [↓sxD, ↓sxP0, sxP1, sxF, sxA, sxS, sxK, encs, tys, sxN, sevalprocAttr, ne_eq, decide_true, decide_false]
            repeat ((with_reducible refine Vc.go ?_ fun _ => ?_); (focus (first | omega | (simp only [InK]; omega) | (simp [InK]; done) | (simp [InK]; omega))); simp only [↓sxD, ↓sxP0, sxP1, sxF, sxA, sxS, sxK, encs, tys, sxN, sevalprocAttr, ne_eq, decide_true, decide_false])
            refine IxW.map _ i1.1 i1.2 ?_
            simp only [↓sxD, ↓sxP0, sxP1, sxF, sxA, sxS, sxK, encs, tys, sxN, sevalprocAttr, ne_eq, decide_true, decide_false]
            repeat ((with_reducible refine Vc.go ?_ fun _ => ?_); (focus (first | omega | (simp only [InK]; omega) | (simp [InK]; done) | (simp [InK]; omega))); simp only [↓sxD, ↓sxP0, sxP1, sxF, sxA, sxS, sxK, encs, tys, sxN, sevalprocAttr, ne_eq, decide_true, decide_false])
            (with_reducible refine Vc.go ?_ fun _ => ?_); focus (first | omega | (simp only [InK]; omega) | (simp [grid_length, gridRow_length, InK]; done) | (simp [grid_length, gridRow_length, InK]; omega))
            simp only [↓sxD, ↓sxP0, sxP1, sxF, sxA, sxS, sxK, encs, tys, sxN, sevalprocAttr, ne_eq, decide_true, decide_false]
            repeat ((with_reducible refine Vc.go ?_ fun _ => ?_); (focus (first | omega | (simp only [InK]; omega) | (simp [InK]; done) | (simp [InK]; omega))); simp only [↓sxD, ↓sxP0, sxP1, sxF, sxA, sxS, sxK, encs, tys, sxN, sevalprocAttr, ne_eq, decide_true, decide_false])
            refine ⟨k + 1, StLe.auto (by simp only [sxS, sxL, sxF, encs, sxN, sevalprocAttr, ne_eq, decide_true, decide_false] <;> (try simp [gridRow_succ, cmP, hyes, encs]) <;> (try omega)), ?_, ?_⟩
            · omega
            · omega
          · have hno : ¬ (k < cn ∧ q < rn) := by omega
            have hq4 : 2 * rn - 1 - q < rn := by omega
            have hqk := cell_lt hq4 hk3
            have e4 : ((2 * rn : Nat) : Int) - 1 - q = ((2 * rn - 1 - q : Nat) : Int) := by omega
            have e5 : ((2 * rn - 1 - q : Nat) : Int) * cn = (((2 * rn - 1 - q) * cn : Nat) : Int) := by push_cast; rfl
            have i1 := twGet zC h5 hq4 hk3 (j := (((2 * rn - 1 - q) * cn : Nat) : Int) + k) (by push_cast; rfl)
            have ht := sch_turn hs h5 hq4 hk3
            simp only [↓sxD, ↓sxP0, sxP1, sxF, sxA, sxS, sxK, encs, tys, sxN, sevalprocAttr, ne_eq, decide_true, decide_false]
            repeat ((with_reducible refine Vc.go ?_ fun _ => ?_); (focus (first | omega | (simp only [InK]; omega) | (simp [InK]; done) | (simp [InK]; omega))); simp only [↓sxD, ↓sxP0, sxP1, sxF, sxA, sxS, sxK, encs, tys, sxN, sevalprocAttr, ne_eq, decide_true, decide_false])
            rw [e4]
            repeat ((with_reducible refine Vc.go ?_ fun _ => ?_); (focus (first | omega | (simp only [InK]; omega) | (simp [InK]; done) | (simp [InK]; omega))); simp only [↓sxD, ↓sxP0, sxP1, sxF, sxA, sxS, sxK, encs, tys, sxN, sevalprocAttr, ne_eq, decide_true, decide_false])
            rw [e5]
            repeat ((with_reducible refine Vc.go ?_ fun _ => ?_); (focus (first | omega | (simp only [InK]; omega) | (simp [InK]; done) | (simp [InK]; omega))); simp only [↓sxD, ↓sxP0, sxP1, sxF, sxA, sxS, sxK, encs, tys, sxN, sevalprocAttr, ne_eq, decide_true, decide_false])
            refine IxW.map _ i1.1 i1.2 ?_
            simp only [↓sxD, ↓sxP0, sxP1, sxF, sxA, sxS, sxK, encs, tys, sxN, sevalprocAttr, ne_eq, decide_true, decide_false]
            repeat ((with_reducible refine Vc.go ?_ fun _ => ?_); (focus (first | omega | (simp only [InK]; omega) | (simp [InK]; done) | (simp [InK]; omega))); simp only [↓sxD, ↓sxP0, sxP1, sxF, sxA, sxS, sxK, encs, tys, sxN, sevalprocAttr, ne_eq, decide_true, decide_false])
            (with_reducible refine Vc.go ?_ fun _ => ?_); focus (first | omega | (simp only [InK]; omega) | (simp [grid_length, gridRow_length, InK]; done) | (simp [grid_length, gridRow_length, InK]; omega))
            simp only [↓sxD, ↓sxP0, sxP1, sxF, sxA, sxS, sxK, encs, tys, sxN, sevalprocAttr, ne_eq, decide_true, decide_false]
            repeat ((with_reducible refine Vc.go ?_ fun _ => ?_); (focus (first | omega | (simp only [InK]; omega) | (simp [InK]; done) | (simp [InK]; omega))); simp only [↓sxD, ↓sxP0, sxP1, sxF, sxA, sxS, sxK, encs, tys, sxN, sevalprocAttr, ne_eq, decide_true, decide_false])
            refine ⟨k + 1, StLe.auto (by simp only [sxS, sxL, sxF, encs, sxN, sevalprocAttr, ne_eq, decide_true, decide_false] <;> (try simp [gridRow_succ, cmP, hno, encs]) <;> (try omega)), ?_, ?_⟩
            · omega
            · omega
        · exfalso; omega
      · simp only [↓sxD, ↓sxP0, sxP1, sxF, sxA, sxS, sxK, encs, tys, sxN, sevalprocAttr, ne_eq, decide_true, decide_false]
        have : k = cn := by omega
        subst this
        (with_reducible refine Vc.go ?_ fun _ => ?_); focus (first | omega | (simp only [InK]; omega) | (simp [InK]; done) | (simp [InK]; omega))
        simp only [↓sxD, ↓sxP0, sxP1, sxF, sxA, sxS, sxK, encs, tys, sxN, sevalprocAttr, ne_eq, decide_true, decide_false]
        refine ⟨q + 1, StLe.auto (by simp only [sxS, sxL, sxF, encs, sxN, sevalprocAttr, ne_eq, decide_true, decide_false] <;> (try simp [grid_succ, encs]) <;> (try omega)), ?_, ?_⟩
        · omega
        · omega
    · simp only [↓sxD, ↓sxP0, sxP1, sxF, sxA, sxS, sxK, encs, tys, sxN, sevalprocAttr, ne_eq, decide_true, decide_false]
      have : q = (2 * rn) := by omega
      subst this
      rw [cmS_ok hk2]
      exact EndW.fn (by simp only [sxL, encs, kpLL_map, sxN, sevalprocAttr, ne_eq, decide_true, decide_false] <;> (try simp [cmC, cmR]) <;> (try omega)) (by simp only [sxL, encs, kpLL_map, sxN, sevalprocAttr, ne_eq, decide_true, decide_false] <;> (try simp) <;> (try omega))
end Go.Proofs.Ytfpkpokkgbobmaa
