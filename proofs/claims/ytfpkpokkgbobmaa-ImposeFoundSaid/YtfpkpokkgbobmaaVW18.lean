/-
  Chapter 6, walks: printed twice.
-/
import Derived.Test.YtfpkpokkgbobmaaVW17
import Derived.Test.YtfpkpokkgbobmaaVP6Turns
namespace Go.Proofs.Ytfpkpokkgbobmaa
open Go Go.Vx
set_option linter.unusedSimpArgs false
set_option maxRecDepth 20000
def zP : Page := ⟨0, 0⟩
def pgOk (x : Page) : Bool := decide (1 ≤ x.page ∧ x.page ≤ 4000 ∧ 0 ≤ x.turn ∧ x.turn ≤ 1)
def twCell (t : Bool) (c r : Nat) (l : List Page) (k q : Nat) : Cell :=
  ⟨(l.getD (q * c + k) zP).page, (l.getD (q * c + k) zP).turn, if t then (l.getD ((r - 1 - q) * c + k) zP).page else (l.getD (q * c + (c - 1 - k)) zP).page,
    if t then 1 - (l.getD ((r - 1 - q) * c + k) zP).turn else (l.getD (q * c + (c - 1 - k)) zP).turn⟩
def twiceS (c r : Int) (l : List Page) (t : Bool) : Int × Int × List Cell × Int :=
  if sheetErr c r ≠ 0 then (0, 0, [], sheetErr c r) else if ¬ (l.length : Int) = c * r then (0, 0, [], 10) else if l.any (fun x => !pgOk x) = true then (0, 0, [], 2) else (c, r, grid c.toNat r.toNat (twCell t c.toNat r.toNat l), 0)
theorem sheet_ok {c r : Int} (h : sheetErr c r = 0) : 1 ≤ c ∧ c ≤ 8 ∧ 1 ≤ r ∧ r ≤ 8 := by
  unfold sheetErr at h
  by_cases h1 : 1 ≤ c ∧ c ≤ 8
  · by_cases h2 : 1 ≤ r ∧ r ≤ 8
    · omega
    · simp [h1, h2] at h
  · simp [h1] at h
theorem twGet {α : Type} {l : List α} {c r q k : Nat} (z : α) (hl : l.length = r * c) (hq : q < r) (hk : k < c) {j : Int} (hj : j = (q * c + k : Nat)) : 0 ≤ j ∧ l[j.toNat]? = some (l.getD (q * c + k) z) := by
  have := cell_lt hq hk
  subst hj
  refine ⟨by omega, ?_⟩
  rw [Int.toNat_natCast, List.getD_eq_getElem?_getD, List.getElem?_eq_getElem (by omega)]
  rfl
theorem pages1_s (p t : Int) : Ctr Try.prog 76 [.agg [(.v (.int .i64 p)), (.v (.int .i64 t))]] (fun rr => rr = ⟨(.v (.bool (!(pgOk ⟨p, t⟩)))), []⟩) := by
  refine Ctr.of (rs := [.tmp 2]) Tok true Try.func76 rfl rfl rfl rfl (by simp [ofDL]) (fun w0 kp => ?_)
  simp only [↓sxD, ↓sxP0, sxP1, sxF, sxA, sxS, sxK, encs, tys, sxN, sevalprocAttr, ne_eq, decide_true, decide_false]
  refine CallI.fn (isPage_s p t) (by simp only [sxA, sxL, sxF, encs, sxN, sevalprocAttr, ne_eq, decide_true, decide_false] <;> (try simp)) ?_
  simp only [↓sxD, ↓sxP0, sxP1, sxF, sxA, sxS, sxK, encs, tys, sxN, sevalprocAttr, ne_eq, decide_true, decide_false]
  exact EndW.fn (by simp only [sxL, encs, kpLL_map, sxN, sevalprocAttr, ne_eq, decide_true, decide_false] <;> (try simp [pgOk]) <;> (try omega)) (by simp only [sxL, encs, kpLL_map, sxN, sevalprocAttr, ne_eq, decide_true, decide_false] <;> (try simp) <;> (try omega))
theorem twice_s (b t : Bool) (c r : Int) (l : List Page) (_hl : l.length ≤ 1000) : Ctr Try.prog 41 [.agg [(.v (.int .i64 c)), (.v (.int .i64 r)), .sl b 2 (l.map eP)], (.v (.bool (t)))] (fun rr => rr = ⟨.tup [.agg [(.v (.int .i64 ((twiceS c r l t).1))), (.v (.int .i64 ((twiceS c r l t).2.1))), .sl true 4 ((twiceS c r l t).2.2.1.map eC)], (.v (.int .i64 ((twiceS c r l t).2.2.2)))], []⟩) := by
  refine Ctr.of (rs := [.cell 4 77, .tmp 5]) Tok true Try.func41 rfl rfl rfl rfl (by simp [ofDL]) (fun w0 kp => ?_)
  simp only [↓sxD, ↓sxP0, sxP1, sxF, sxA, sxS, sxK, encs, tys, sxN, sevalprocAttr, ne_eq, decide_true, decide_false]
  refine CallI.fn (checkSheet_s c r) (by simp only [sxA, sxL, sxF, encs, sxN, sevalprocAttr, ne_eq, decide_true, decide_false] <;> (try simp)) ?_
  simp only [↓sxD, ↓sxP0, sxP1, sxF, sxA, sxS, sxK, encs, tys, sxN, sevalprocAttr, ne_eq, decide_true, decide_false]
  refine BrW.dec (fun he => ?_) (fun he => ?_)
  · simp only [↓sxD, ↓sxP0, sxP1, sxF, sxA, sxS, sxK, encs, tys, sxN, sevalprocAttr, ne_eq, decide_true, decide_false]
    exact EndW.fn (by simp only [sxL, encs, kpLL_map, sxN, sevalprocAttr, ne_eq, decide_true, decide_false] <;> (try simp [twiceS, he]) <;> (try omega)) (by simp only [sxL, encs, kpLL_map, sxN, sevalprocAttr, ne_eq, decide_true, decide_false] <;> (try simp) <;> (try omega))
  · simp only [↓sxD, ↓sxP0, sxP1, sxF, sxA, sxS, sxK, encs, tys, sxN, sevalprocAttr, ne_eq, decide_true, decide_false]
    have he0 : sheetErr c r = 0 := Decidable.not_not.1 he
    have hsh := sheet_ok he0
    have b1 : c * r ≤ 8 * 8 := Int.mul_le_mul hsh.2.1 hsh.2.2.2 (by omega) (by omega)
    have b2 : 0 ≤ c * r := Int.mul_nonneg (by omega) (by omega)
    (with_reducible refine Vc.go ?_ fun _ => ?_); focus (first | omega | (simp only [InK]; omega) | (simp [InK]; done) | (simp [InK]; omega))
    simp only [↓sxD, ↓sxP0, sxP1, sxF, sxA, sxS, sxK, encs, tys, sxN, sevalprocAttr, ne_eq, decide_true, decide_false]
    refine BrW.dec (fun hln => ?_) (fun hln => ?_)
    · simp only [↓sxD, ↓sxP0, sxP1, sxF, sxA, sxS, sxK, encs, tys, sxN, sevalprocAttr, ne_eq, decide_true, decide_false]
      exact EndW.fn (by simp only [sxL, encs, kpLL_map, sxN, sevalprocAttr, ne_eq, decide_true, decide_false] <;> (try simp [twiceS, he0, hln]) <;> (try omega)) (by simp only [sxL, encs, kpLL_map, sxN, sevalprocAttr, ne_eq, decide_true, decide_false] <;> (try simp) <;> (try omega))
    · simp only [↓sxD, ↓sxP0, sxP1, sxF, sxA, sxS, sxK, encs, tys, sxN, sevalprocAttr, ne_eq, decide_true, decide_false]
      have hln0 := Decidable.not_not.1 hln
      refine CallI.fn (containsPages_s b 76 (fun x => !(pgOk x)) l (by omega) (fun x => pages1_s x.page x.turn)) (by simp only [sxA, sxL, sxF, encs, sxN, sevalprocAttr, ne_eq, decide_true, decide_false] <;> (try simp)) ?_
      simp only [↓sxD, ↓sxP0, sxP1, sxF, sxA, sxS, sxK, encs, tys, sxN, sevalprocAttr, ne_eq, decide_true, decide_false]
      refine BrW.of (fun hb => ?_) (fun hb => ?_)
      · simp only [↓sxD, ↓sxP0, sxP1, sxF, sxA, sxS, sxK, encs, tys, sxN, sevalprocAttr, ne_eq, decide_true, decide_false]
        exact EndW.fn (by simp only [sxL, encs, kpLL_map, sxN, sevalprocAttr, ne_eq, decide_true, decide_false] <;> (try simp [twiceS, he0, hln0, hb]) <;> (try omega)) (by simp only [sxL, encs, kpLL_map, sxN, sevalprocAttr, ne_eq, decide_true, decide_false] <;> (try simp) <;> (try omega))
      · simp only [↓sxD, ↓sxP0, sxP1, sxF, sxA, sxS, sxK, encs, tys, sxN, sevalprocAttr, ne_eq, decide_true, decide_false]
        obtain ⟨cn, rfl⟩ : ∃ cn : Nat, c = cn := ⟨c.toNat, by omega⟩
        obtain ⟨rn, rfl⟩ : ∃ rn : Nat, r = rn := ⟨r.toNat, by omega⟩
        have hlr : l.length = rn * cn := by
          have : (l.length : Int) = ((rn * cn : Nat) : Int) := by rw [hln0]; push_cast; exact Int.mul_comm _ _
          exact_mod_cast this
        refine LoopW.comp [1, 2, 4, 7, 43, 44] (by simp only [sxS, sxL, sxF, encs, sxN, sevalprocAttr, ne_eq, decide_true, decide_false] <;> (try simp) <;> (try omega)) ?_
        simp only [sxS, sxF, sxN, sevalprocAttr, ne_eq, decide_true, decide_false]
        refine LoopW.up Tok (fun q : Nat => [(44, (.v (.int .i64 q)))]) (fun q => [(2, [(.v (.int .i64 cn)), (.v (.int .i64 rn)), .row 0])]) (fun q => []) (fun q => [.own 105 4 ((grid cn q (twCell t cn rn l)).map eC)]) (fun q => q ≤ rn) (fun q => rn - q) (0) (by simp only [sxS, sxL, sxF, encs, sxN, sevalprocAttr, ne_eq, decide_true, decide_false] <;> (try simp) <;> (try omega)) ?_ ?_
        · omega
        rintro q hq1
        simp only [↓sxD, ↓sxP0, sxP1, sxF, sxA, sxS, sxK, encs, tys, sxN, sevalprocAttr, ne_eq, decide_true, decide_false]
        refine BrW.dec (fun hlt => ?_) (fun hlt => ?_)
        · simp only [↓sxD, ↓sxP0, sxP1, sxF, sxA, sxS, sxK, encs, tys, sxN, sevalprocAttr, ne_eq, decide_true, decide_false]
          have hq2 : q < rn := by omega
          refine LoopW.comp [1, 2, 4, 7, 8, 43, 44, 48, 49] (by simp only [sxS, sxL, sxF, encs, sxN, sevalprocAttr, ne_eq, decide_true, decide_false] <;> (try simp) <;> (try omega)) ?_
          simp only [sxS, sxF, sxN, sevalprocAttr, ne_eq, decide_true, decide_false]
          refine LoopW.up Tok (fun k : Nat => [(49, (.v (.int .i64 k)))]) (fun k => []) (fun k => [(0, ((grid cn q (twCell t cn rn l)) ++ gridRow k (twCell t cn rn l) q).map eC)]) (fun k => []) (fun k => k ≤ cn) (fun k => cn - k) (0) (by simp only [sxS, sxL, sxF, encs, sxN, sevalprocAttr, ne_eq, decide_true, decide_false] <;> (try simp) <;> (try omega)) ?_ ?_
          · omega
          rintro k hk1
          have hlen := cell_lt (rows := rn) (cols := cn) hq2 (c := 0) (by omega)
          simp only [↓sxD, ↓sxP0, sxP1, sxF, sxA, sxS, sxK, encs, tys, sxN, sevalprocAttr, ne_eq, decide_true, decide_false]
          refine BrW.dec (fun hlt2 => ?_) (fun hlt2 => ?_)
          · have hk2 : k < cn := by omega
            have hqk := cell_lt hq2 hk2
            have i1 := twGet zP hlr hq2 hk2 (j := (q : Int) * cn + k) (by push_cast; rfl)
            have i2 := twGet zP hlr hq2 (show cn - 1 - k < cn by omega) (j := (q : Int) * cn + cn - 1 - k) (by push_cast; omega)
            have i3 := twGet zP hlr (show rn - 1 - q < rn by omega) hk2 (j := ((rn : Int) - 1 - q) * cn + k) (by rw [show ((rn : Int) - 1 - q) = ((rn - 1 - q : Nat) : Int) by omega]; push_cast; rfl)
            simp only [↓sxD, ↓sxP0, sxP1, sxF, sxA, sxS, sxK, encs, tys, sxN, sevalprocAttr, ne_eq, decide_true, decide_false]
            refine DrawW.plan Tok mixed (.q 0 <| .q 1 <| .q 2 <| .q 3 <| .q 4 <| .q 5 <| .q 6 <| .q 7 <| .q 8 <| .q 9 <| .q 10 <| .q 11 <| .q 12 <| .q 13 <| .q 14 <| .q 15 <| .q 16 <| .q 17 <| .q 18 <| .q 19 <| .q 20 <| .q 21 <| .q 22 <| .q 23 <| .e2 24 [1, 4, 9, 11, 14, 17, 23] (.e 25 [1, 4, 9, 11, 14, 17, 23] <| .e 26 [11, 14, 17, 23] <| .e 27 [] <| .done) 25 [1, 4, 9, 11, 14, 17, 23] (.e 24 [1, 4, 9, 11, 14, 17, 23] <| .e 26 [11, 14, 17, 23] <| .e 27 [] <| .done)) (by kernel_rfl) (by kernel_rfl) ?_
            simp only [↓sxD, ↓sxP0, sxP1, sxF, sxA, sxS, sxK, encs, tys, sxN, sevalprocAttr, ne_eq, decide_true, decide_false]
            repeat ((with_reducible refine Vc.go ?_ fun _ => ?_); (focus (first | omega | (simp only [InK]; omega) | (simp [InK]; done) | (simp [InK]; omega))); simp only [↓sxD, ↓sxP0, sxP1, sxF, sxA, sxS, sxK, encs, tys, sxN, sevalprocAttr, ne_eq, decide_true, decide_false])
            refine IxW.map _ i1.1 i1.2 ?_
            simp only [↓sxD, ↓sxP0, sxP1, sxF, sxA, sxS, sxK, encs, tys, sxN, sevalprocAttr, ne_eq, decide_true, decide_false]
            repeat ((with_reducible refine Vc.go ?_ fun _ => ?_); (focus (first | omega | (simp only [InK]; omega) | (simp [InK]; done) | (simp [InK]; omega))); simp only [↓sxD, ↓sxP0, sxP1, sxF, sxA, sxS, sxK, encs, tys, sxN, sevalprocAttr, ne_eq, decide_true, decide_false])
            refine IxW.map _ i2.1 i2.2 ?_
            have h4 := cell_lt (show rn - 1 - q < rn by omega) hk2
            have e4 : ((rn : Int) - 1 - q) * cn = (((rn - 1 - q) * cn : Nat) : Int) := by rw [show ((rn : Int) - 1 - q) = ((rn - 1 - q : Nat) : Int) by omega]; push_cast; rfl
            have h5 : rn * cn ≤ 1000 := by omega
            have hp3 : 0 ≤ (l.getD ((rn - 1 - q) * cn + k) zP).turn ∧ (l.getD ((rn - 1 - q) * cn + k) zP).turn ≤ 1 := by
              have hm := List.mem_of_getElem? i3.2
              have := List.any_eq_false.1 hb _ hm
              simp only [pgOk, Bool.not_eq_true, Bool.not_eq_false', decide_eq_true_eq] at this
              omega
            simp only [↓sxD, ↓sxP0, sxP1, sxF, sxA, sxS, sxK, encs, tys, sxN, sevalprocAttr, ne_eq, decide_true, decide_false]
            refine ⟨?_, ?_⟩
            · refine BrW.of (fun ht => ?_) (fun ht => ?_)
              · subst ht
                simp only [↓sxD, ↓sxP0, sxP1, sxF, sxA, sxS, sxK, encs, tys, sxN, sevalprocAttr, ne_eq, decide_true, decide_false]
                repeat ((with_reducible refine Vc.go ?_ fun _ => ?_); (focus (first | omega | (simp only [InK]; omega) | (simp [InK]; done) | (simp [InK]; omega))); simp only [↓sxD, ↓sxP0, sxP1, sxF, sxA, sxS, sxK, encs, tys, sxN, sevalprocAttr, ne_eq, decide_true, decide_false])
                refine IxW.map _ i3.1 i3.2 ?_
                simp only [↓sxD, ↓sxP0, sxP1, sxF, sxA, sxS, sxK, encs, tys, sxN, sevalprocAttr, ne_eq, decide_true, decide_false]
                repeat ((with_reducible refine Vc.go ?_ fun _ => ?_); (focus (first | omega | (simp only [InK]; omega) | (simp [InK]; done) | (simp [InK]; omega))); simp only [↓sxD, ↓sxP0, sxP1, sxF, sxA, sxS, sxK, encs, tys, sxN, sevalprocAttr, ne_eq, decide_true, decide_false])
                (with_reducible refine Vc.go ?_ fun _ => ?_); focus (first | omega | (simp only [InK]; omega) | (simp [grid_length, gridRow_length, InK]; done) | (simp [grid_length, gridRow_length, InK]; omega))
                simp only [↓sxD, ↓sxP0, sxP1, sxF, sxA, sxS, sxK, encs, tys, sxN, sevalprocAttr, ne_eq, decide_true, decide_false]
                (with_reducible refine Vc.go ?_ fun _ => ?_); focus (first | omega | (simp only [InK]; omega) | (simp [InK]; done) | (simp [InK]; omega))
                simp only [↓sxD, ↓sxP0, sxP1, sxF, sxA, sxS, sxK, encs, tys, sxN, sevalprocAttr, ne_eq, decide_true, decide_false]
                refine ⟨k + 1, StLe.auto (by simp only [sxS, sxL, sxF, encs, sxN, sevalprocAttr, ne_eq, decide_true, decide_false] <;> (try simp [gridRow_succ, twCell, encs]) <;> (try omega)), ?_, ?_⟩
                · omega
                · omega
              · subst ht
                simp only [↓sxD, ↓sxP0, sxP1, sxF, sxA, sxS, sxK, encs, tys, sxN, sevalprocAttr, ne_eq, decide_true, decide_false]
                (with_reducible refine Vc.go ?_ fun _ => ?_); focus (first | omega | (simp only [InK]; omega) | (simp [grid_length, gridRow_length, InK]; done) | (simp [grid_length, gridRow_length, InK]; omega))
                simp only [↓sxD, ↓sxP0, sxP1, sxF, sxA, sxS, sxK, encs, tys, sxN, sevalprocAttr, ne_eq, decide_true, decide_false]
                (with_reducible refine Vc.go ?_ fun _ => ?_); focus (first | omega | (simp only [InK]; omega) | (simp [InK]; done) | (simp [InK]; omega))
                simp only [↓sxD, ↓sxP0, sxP1, sxF, sxA, sxS, sxK, encs, tys, sxN, sevalprocAttr, ne_eq, decide_true, decide_false]
                refine ⟨k + 1, StLe.auto (by simp only [sxS, sxL, sxF, encs, sxN, sevalprocAttr, ne_eq, decide_true, decide_false] <;> (try simp [gridRow_succ, twCell, encs]) <;> (try omega)), ?_, ?_⟩
                · omega
                · omega
            · refine BrW.of (fun ht => ?_) (fun ht => ?_)
              · subst ht
                simp only [↓sxD, ↓sxP0, sxP1, sxF, sxA, sxS, sxK, encs, tys, sxN, sevalprocAttr, ne_eq, decide_true, decide_false]
                repeat ((with_reducible refine Vc.go ?_ fun _ => ?_); (focus (first | omega | (simp only [InK]; omega) | (simp [InK]; done) | (simp [InK]; omega))); simp only [↓sxD, ↓sxP0, sxP1, sxF, sxA, sxS, sxK, encs, tys, sxN, sevalprocAttr, ne_eq, decide_true, decide_false])
                refine IxW.map _ i3.1 i3.2 ?_
                simp only [↓sxD, ↓sxP0, sxP1, sxF, sxA, sxS, sxK, encs, tys, sxN, sevalprocAttr, ne_eq, decide_true, decide_false]
                repeat ((with_reducible refine Vc.go ?_ fun _ => ?_); (focus (first | omega | (simp only [InK]; omega) | (simp [InK]; done) | (simp [InK]; omega))); simp only [↓sxD, ↓sxP0, sxP1, sxF, sxA, sxS, sxK, encs, tys, sxN, sevalprocAttr, ne_eq, decide_true, decide_false])
                (with_reducible refine Vc.go ?_ fun _ => ?_); focus (first | omega | (simp only [InK]; omega) | (simp [grid_length, gridRow_length, InK]; done) | (simp [grid_length, gridRow_length, InK]; omega))
                simp only [↓sxD, ↓sxP0, sxP1, sxF, sxA, sxS, sxK, encs, tys, sxN, sevalprocAttr, ne_eq, decide_true, decide_false]
                (with_reducible refine Vc.go ?_ fun _ => ?_); focus (first | omega | (simp only [InK]; omega) | (simp [InK]; done) | (simp [InK]; omega))
                simp only [↓sxD, ↓sxP0, sxP1, sxF, sxA, sxS, sxK, encs, tys, sxN, sevalprocAttr, ne_eq, decide_true, decide_false]
                refine ⟨k + 1, StLe.auto (by simp only [sxS, sxL, sxF, encs, sxN, sevalprocAttr, ne_eq, decide_true, decide_false] <;> (try simp [gridRow_succ, twCell, encs]) <;> (try omega)), ?_, ?_⟩
                · omega
                · omega
              · subst ht
                simp only [↓sxD, ↓sxP0, sxP1, sxF, sxA, sxS, sxK, encs, tys, sxN, sevalprocAttr, ne_eq, decide_true, decide_false]
                (with_reducible refine Vc.go ?_ fun _ => ?_); focus (first | omega | (simp only [InK]; omega) | (simp [grid_length, gridRow_length, InK]; done) | (simp [grid_length, gridRow_length, InK]; omega))
                simp only [↓sxD, ↓sxP0, sxP1, sxF, sxA, sxS, sxK, encs, tys, sxN, sevalprocAttr, ne_eq, decide_true, decide_false]
                (with_reducible refine Vc.go ?_ fun _ => ?_); focus (first | omega | (simp only [InK]; omega) | (simp [InK]; done) | (simp [InK]; omega))
                simp only [↓sxD, ↓sxP0, sxP1, sxF, sxA, sxS, sxK, encs, tys, sxN, sevalprocAttr, ne_eq, decide_true, decide_false]
                refine ⟨k + 1, StLe.auto (by simp only [sxS, sxL, sxF, encs, sxN, sevalprocAttr, ne_eq, decide_true, decide_false] <;> (try simp [gridRow_succ, twCell, encs]) <;> (try omega)), ?_, ?_⟩
                · omega
                · omega
          · simp only [↓sxD, ↓sxP0, sxP1, sxF, sxA, sxS, sxK, encs, tys, sxN, sevalprocAttr, ne_eq, decide_true, decide_false]
            have : k = cn := by omega
            subst this
            (with_reducible refine Vc.go ?_ fun _ => ?_); focus (first | omega | (simp only [InK]; omega) | (simp [InK]; done) | (simp [InK]; omega))
            simp only [↓sxD, ↓sxP0, sxP1, sxF, sxA, sxS, sxK, encs, tys, sxN, sevalprocAttr, ne_eq, decide_true, decide_false]
            refine ⟨q + 1, StLe.auto (by simp only [sxS, sxL, sxF, encs, sxN, sevalprocAttr, ne_eq, decide_true, decide_false] <;> (try simp [grid_succ, encs]) <;> (try omega)), ?_, ?_⟩
            · omega
            · omega
        · simp only [↓sxD, ↓sxP0, sxP1, sxF, sxA, sxS, sxK, encs, tys, sxN, sevalprocAttr, ne_eq, decide_true, decide_false]
          have : q = rn := by omega
          subst this
          exact EndW.fn (by simp only [sxL, encs, kpLL_map, sxN, sevalprocAttr, ne_eq, decide_true, decide_false] <;> (try simp [twiceS, he0, hln0, hb]) <;> (try omega)) (by simp only [sxL, encs, kpLL_map, sxN, sevalprocAttr, ne_eq, decide_true, decide_false] <;> (try simp) <;> (try omega))
end Go.Proofs.Ytfpkpokkgbobmaa
