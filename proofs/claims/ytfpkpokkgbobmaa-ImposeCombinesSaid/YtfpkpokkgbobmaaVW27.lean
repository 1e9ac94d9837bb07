/-
  Chapter 6, walks: the law of halves.
-/
import Derived.Test.YtfpkpokkgbobmaaVW26
namespace Go.Proofs.Ytfpkpokkgbobmaa
open Go Go.Vx
set_option linter.unusedSimpArgs false
set_option maxRecDepth 20000
theorem halves_s (b d : Bool) (c r : Int) (l : List Cell) : Ctr Try.prog 58 [.agg [(.v (.int .i64 c)), (.v (.int .i64 r)), .sl b 4 (l.map eC)], (.v (.bool (d)))] (fun rr => rr = ⟨.tup [.agg [(.v (.int .i64 ((halvesS d c r l).1))), (.v (.int .i64 ((halvesS d c r l).2.1))), .sl true 4 ((halvesS d c r l).2.2.1.map eC), (.v (.int .i64 ((halvesS d c r l).1))), (.v (.int .i64 ((halvesS d c r l).2.1))), .sl true 4 ((halvesS d c r l).2.2.2.1.map eC)], (.v (.int .i64 ((halvesS d c r l).2.2.2.2)))], []⟩) := by
  cases d
  · exact halvesR_s b c r l
  · exact halvesD_s b c r l
theorem halvesRef_s (b d : Bool) (c r : Int) (l : List Cell) : Ctr Try.prog 59 [.agg [(.v (.int .i64 c)), (.v (.int .i64 r)), .sl b 4 (l.map eC)], (.v (.bool (d)))] (fun rr => rr = ⟨.tup [.agg [(.v (.int .i64 ((halvesS d c r l).1))), (.v (.int .i64 ((halvesS d c r l).2.1))), .sl true 4 ((halvesS d c r l).2.2.1.map eC), (.v (.int .i64 ((halvesS d c r l).1))), (.v (.int .i64 ((halvesS d c r l).2.1))), .sl true 4 ((halvesS d c r l).2.2.2.1.map eC)], (.v (.int .i64 ((halvesS d c r l).2.2.2.2)))], []⟩) := by
  cases d
  · exact halvesRefR_s b c r l
  · exact halvesRefD_s b c r l
theorem halves_fine {d : Bool} {c r : Int} {l : List Cell} (h : (halvesS d c r l).2.2.2.2 = 0) : ∃ cn rn : Nat, c = cn ∧ r = rn ∧ 1 ≤ cn ∧ cn ≤ 8 ∧ 1 ≤ rn ∧ rn ≤ 8 ∧ l.length = rn * cn ∧ sheetErr c r = 0 ∧ l.any (fun x => !ceOk x) = false ∧ hvOdd d cn rn = false := by
  unfold halvesS at h
  by_cases h1 : sheetErr c r = 0
  · have hs := sheet_ok h1
    by_cases h2 : (l.length : Int) = c * r
    · by_cases h3 : l.any (fun x => !ceOk x) = true
      · simp only [h1, h2, h3, ne_eq, not_true_eq_false, if_false, if_true] at h; omega
      · by_cases h4 : hvOdd d c.toNat r.toNat = true
        · simp only [h1, h2, h3, h4, ne_eq, not_true_eq_false, if_false, if_true, Bool.false_eq_true] at h; omega
        · refine ⟨c.toNat, r.toNat, by omega, by omega, by omega, by omega, by omega, by omega, ?_, h1, by simpa using h3, by simpa using h4⟩
          have : (l.length : Int) = ((r.toNat * c.toNat : Nat) : Int) := by
            rw [h2]; push_cast; rw [Int.toNat_of_nonneg (by omega), Int.toNat_of_nonneg (by omega)]; exact Int.mul_comm _ _
          exact_mod_cast this
    · simp only [h1, h2, ne_eq, not_true_eq_false, not_false_eq_true, if_false, if_true] at h; omega
  · simp only [h1, ne_eq, not_false_eq_true, if_true] at h
theorem halves_eq {d : Bool} {cn rn : Nat} {l : List Cell} (h0 : sheetErr cn rn = 0) (h1 : l.length = rn * cn) (h2 : l.any (fun x => !ceOk x) = false) (h3 : hvOdd d cn rn = false) :
    halvesS d cn rn l = (((hvC d cn : Nat) : Int), ((hvR d rn : Nat) : Int), grid (hvC d cn) (hvR d rn) (hvA cn l), grid (hvC d cn) (hvR d rn) (hvB d cn rn l), 0) := by
  have e : (l.length : Int) = (cn : Int) * rn := by rw [h1]; push_cast; exact Int.mul_comm _ _
  simp only [halvesS, h0, e, h2, h3, Int.toNat_natCast, ne_eq, not_true_eq_false, if_false, Bool.false_eq_true]
theorem halves_len (d : Bool) (c r : Int) (l : List Cell) : (halvesS d c r l).2.2.1.length ≤ 1000000000 ∧ (halvesS d c r l).2.2.2.1.length ≤ 1000000000 := by
  unfold halvesS
  by_cases h1 : sheetErr c r = 0
  · have := sheet_ok h1
    by_cases h2 : (l.length : Int) = c * r
    · by_cases h3 : l.any (fun x => !ceOk x) = true
      · simp [h1, h2, h3]
      · by_cases h4 : hvOdd d c.toNat r.toNat = true
        · simp [h1, h2, h3, h4]
        · have : hvR d r.toNat * hvC d c.toNat ≤ 8 * 8 := Nat.mul_le_mul (by unfold hvR; split <;> omega) (by unfold hvC; split <;> omega)
          simp only [h1, h2, h3, h4, ne_eq, not_true_eq_false, if_false, Bool.false_eq_true, grid_length]
          omega
    · simp [h1, h2]
  · simp [h1]
theorem swp_ok (x : Cell) : ceOk (swp x) = ceOk x := by simp only [ceOk, swp]; exact Bool.and_comm _ _
def ovC (cn : Nat) (l : List Cell) (k q : Nat) : Cell := swp (l.getD (q * cn + (cn - 1 - k)) zC)
theorem grid_getD {α : Type} (z : α) {cols rows c r : Nat} (f : Nat → Nat → α) (hr : r < rows) (hc : c < cols) : (grid cols rows f).getD (r * cols + c) z = f c r := by
  rw [List.getD_eq_getElem?_getD, grid_get cols f rows r c hr hc]; rfl
theorem grid_mem {α : Type} {cols rows : Nat} {f : Nat → Nat → α} {x : α} (h : x ∈ grid cols rows f) : ∃ c r, c < cols ∧ r < rows ∧ x = f c r := by
  simp only [grid, gridRow, List.mem_flatMap, List.mem_map, List.mem_range] at h
  obtain ⟨r, hr, c, hc, rfl⟩ := h
  exact ⟨c, r, hc, hr, rfl⟩
theorem ov_ok {cn rn : Nat} {l : List Cell} (h1 : l.length = rn * cn) (h2 : l.any (fun x => !ceOk x) = false) : (grid cn rn (ovC cn l)).any (fun x => !ceOk x) = false := by
  refine List.any_eq_false.2 fun x hx => ?_
  obtain ⟨k, q, hk, hq, rfl⟩ := grid_mem hx
  have i := (twGet zC h1 hq (show cn - 1 - k < cn by omega) rfl).2
  have := List.any_eq_false.1 h2 _ (List.mem_of_getElem? i)
  simpa [ovC, swp_ok] using this
theorem ov_a {cn rn : Nat} {l : List Cell} : grid (hvC false cn) (hvR false rn) (hvA cn (grid cn rn (ovC cn l))) = grid (hvC false cn) (hvR false rn) (hvB false cn rn l) := by
  show grid (cn / 2) rn _ = grid (cn / 2) rn _
  refine grid_ext fun k q hk hq => ?_
  simp only [hvA, hvB, grid_getD zC (ovC cn l) hq (show k < cn by omega), ovC, Bool.false_eq_true, if_false]
theorem ov_b {cn rn : Nat} {l : List Cell} : grid (hvC false cn) (hvR false rn) (hvB false cn rn (grid cn rn (ovC cn l))) = grid (hvC false cn) (hvR false rn) (hvA cn l) := by
  show grid (cn / 2) rn _ = grid (cn / 2) rn _
  refine grid_ext fun k q hk hq => ?_
  simp only [hvA, hvB, grid_getD zC (ovC cn l) hq (show cn - 1 - k < cn by omega), ovC, Bool.false_eq_true, if_false, swp, show cn - 1 - (cn - 1 - k) = k by omega]
theorem ov_step {l p : List Cell} {m : Nat} (hp : p.length = m) (hm : m < l.length) (x : Cell) :
    ((p ++ l.drop m).map eC).modify m (modE · 0 [.v (.int .i64 x.front), .v (.int .i64 x.fturn), .v (.int .i64 x.back), .v (.int .i64 x.bturn)]) = (p ++ [x] ++ l.drop (m + 1)).map eC := by
  have h : (p ++ l.drop m)[m]? = some l[m] := by rw [List.getElem?_append_right (by omega), List.getElem?_drop, show m + (m - p.length) = m by omega]; exact List.getElem?_eq_getElem hm
  rw [modify_map h x rfl]
  congr 1
  rw [List.set_append_right _ _ (by omega), hp, Nat.sub_self, List.drop_eq_getElem_cons hm, List.set_cons_zero, List.append_assoc]; rfl
set_option maxHeartbeats 1000000 in
theorem halvesLaw_s (b t : Bool) (c r : Int) (l : List Cell) : Ctr Try.prog 10 [.agg [(.v (.int .i64 c)), (.v (.int .i64 r)), .sl b 4 (l.map eC)], (.v (.bool (t)))] (fun rr => rr = ⟨(.v (.bool (true))), []⟩) := by
  have hlen := halves_len t c r l
  refine Ctr.of (rs := [.tmp 4]) Tok true Try.func10 rfl rfl rfl rfl (by simp [ofDL]) (fun w0 kp => ?_)
  simp only [↓sxD, ↓sxP0, sxP1, sxF, sxA, sxS, sxK, encs, tys, sxN, sevalprocAttr, ne_eq, decide_true, decide_false]
  refine CallI.fn (awake_s) (by simp only [sxA, sxL, sxF, encs, sxN, sevalprocAttr, ne_eq, decide_true, decide_false] <;> (try simp)) ?_
  simp only [↓sxD, ↓sxP0, sxP1, sxF, sxA, sxS, sxK, encs, tys, sxN, sevalprocAttr, ne_eq, decide_true, decide_false]
  refine CallI.fn (light_s b c r l) (by simp only [sxA, sxL, sxF, encs, sxN, sevalprocAttr, ne_eq, decide_true, decide_false] <;> (try simp)) ?_
  simp only [↓sxD, ↓sxP0, sxP1, sxF, sxA, sxS, sxK, encs, tys, sxN, sevalprocAttr, ne_eq, decide_true, decide_false]
  refine BrW.dec (fun hn => ?_) (fun hn => ?_)
  · simp only [↓sxD, ↓sxP0, sxP1, sxF, sxA, sxS, sxK, encs, tys, sxN, sevalprocAttr, ne_eq, decide_true, decide_false]
    have hl : l.length ≤ 40 := by omega
    refine CallI.ctr (copy_s b c r l (by omega)) (by simp only [sxA, sxL, sxF, encs, sxN, sevalprocAttr, ne_eq, decide_true, decide_false] <;> (try simp)) ?_
    rintro _ rfl
    simp only [↓sxD, ↓sxP0, sxP1, sxF, sxA, sxS, sxK, encs, tys, sxN, sevalprocAttr, ne_eq, decide_true, decide_false]
    refine CallI.fn (halves_s false t c r l) (by simp only [sxA, sxL, sxF, encs, sxN, sevalprocAttr, ne_eq, decide_true, decide_false] <;> (try simp)) ?_
    simp only [↓sxD, ↓sxP0, sxP1, sxF, sxA, sxS, sxK, encs, tys, sxN, sevalprocAttr, ne_eq, decide_true, decide_false]
    refine CallI.fn (halvesRef_s b t c r l) (by simp only [sxA, sxL, sxF, encs, sxN, sevalprocAttr, ne_eq, decide_true, decide_false] <;> (try simp)) ?_
    simp only [↓sxD, ↓sxP0, sxP1, sxF, sxA, sxS, sxK, encs, tys, sxN, sevalprocAttr, ne_eq, decide_true, decide_false]
    refine BrW.ff (by simp) ?_
    simp only [↓sxD, ↓sxP0, sxP1, sxF, sxA, sxS, sxK, encs, tys, sxN, sevalprocAttr, ne_eq, decide_true, decide_false]
    repeat ((with_reducible refine Vc.go ?_ fun _ => ?_); (focus (first | omega | (simp only [InK]; omega) | (simp [InK]; done) | (simp [InK]; omega))); simp only [↓sxD, ↓sxP0, sxP1, sxF, sxA, sxS, sxK, encs, tys, sxN, sevalprocAttr, ne_eq, decide_true, decide_false])
    refine CallI.fn (same_s true true (halvesS t c r l).1 (halvesS t c r l).2.1 (halvesS t c r l).1 (halvesS t c r l).2.1 (halvesS t c r l).2.2.1 (halvesS t c r l).2.2.1 hlen.1) (by simp only [sxA, sxL, sxF, encs, sxN, sevalprocAttr, ne_eq, decide_true, decide_false] <;> (try simp)) ?_
    simp only [↓sxD, ↓sxP0, sxP1, sxF, sxA, sxS, sxK, encs, tys, sxN, sevalprocAttr, ne_eq, decide_true, decide_false]
    repeat ((with_reducible refine Vc.go ?_ fun _ => ?_); (focus (first | omega | (simp only [InK]; omega) | (simp [InK]; done) | (simp [InK]; omega))); simp only [↓sxD, ↓sxP0, sxP1, sxF, sxA, sxS, sxK, encs, tys, sxN, sevalprocAttr, ne_eq, decide_true, decide_false])
    refine CallI.fn (same_s true true (halvesS t c r l).1 (halvesS t c r l).2.1 (halvesS t c r l).1 (halvesS t c r l).2.1 (halvesS t c r l).2.2.2.1 (halvesS t c r l).2.2.2.1 hlen.2) (by simp only [sxA, sxL, sxF, encs, sxN, sevalprocAttr, ne_eq, decide_true, decide_false] <;> (try simp)) ?_
    simp only [↓sxD, ↓sxP0, sxP1, sxF, sxA, sxS, sxK, encs, tys, sxN, sevalprocAttr, ne_eq, decide_true, decide_false]
    refine BrW.dec (fun he => ?_) (fun he => ?_)
    · simp only [↓sxD, ↓sxP0, sxP1, sxF, sxA, sxS, sxK, encs, tys, sxN, sevalprocAttr, ne_eq, decide_true, decide_false]
      exact EndW.fn (by simp only [sxL, encs, kpLL_map, sxN, sevalprocAttr, ne_eq, decide_true, decide_false] <;> (try simp) <;> (try omega)) (by simp only [sxL, encs, kpLL_map, sxN, sevalprocAttr, ne_eq, decide_true, decide_false] <;> (try simp) <;> (try omega))
    · have he0 : (halvesS t c r l).2.2.2.2 = 0 := Decidable.not_not.1 he
      obtain ⟨cn, rn, rfl, rfl, h1, h2, h3, h4, h5, h6, h7, h8⟩ := halves_fine he0
      simp only [↓sxD, ↓sxP0, sxP1, sxF, sxA, sxS, sxK, encs, tys, sxN, sevalprocAttr, ne_eq, decide_true, decide_false]
      refine BrW.of (fun ht => ?_) (fun ht => ?_)
      · simp only [↓sxD, ↓sxP0, sxP1, sxF, sxA, sxS, sxK, encs, tys, sxN, sevalprocAttr, ne_eq, decide_true, decide_false]
        exact EndW.fn (by simp only [sxL, encs, kpLL_map, sxN, sevalprocAttr, ne_eq, decide_true, decide_false] <;> (try simp) <;> (try omega)) (by simp only [sxL, encs, kpLL_map, sxN, sevalprocAttr, ne_eq, decide_true, decide_false] <;> (try simp) <;> (try omega))
      · subst ht
        rw [halves_eq h6 h5 h7 h8]
        simp only [↓sxD, ↓sxP0, sxP1, sxF, sxA, sxS, sxK, encs, tys, sxN, sevalprocAttr, ne_eq, decide_true, decide_false]
        refine CallI.ctr (copy_s b cn rn l (by omega)) (by simp only [sxA, sxL, sxF, encs, sxN, sevalprocAttr, ne_eq, decide_true, decide_false] <;> (try simp)) ?_
        rintro _ rfl
        simp only [↓sxD, ↓sxP0, sxP1, sxF, sxA, sxS, sxK, encs, tys, sxN, sevalprocAttr, ne_eq, decide_true, decide_false]
        refine LoopW.comp [1, 2, 5, 9, 10] (by simp only [sxS, sxL, sxF, encs, sxN, sevalprocAttr, ne_eq, decide_true, decide_false] <;> (try simp) <;> (try omega)) ?_
        simp only [sxS, sxF, sxN, sevalprocAttr, ne_eq, decide_true, decide_false]
        refine LoopW.up Tok (fun q : Nat => [(10, (.v (.int .i64 q)))]) (fun q => []) (fun q => [(0, (grid cn q (ovC cn l) ++ l.drop (q * cn)).map eC)]) (fun q => []) (fun q => q ≤ rn) (fun q => rn - q) (0) (by simp only [sxS, sxL, sxF, encs, sxN, sevalprocAttr, ne_eq, decide_true, decide_false] <;> (try simp) <;> (try omega)) ?_ ?_
        · omega
        rintro q hq1
        simp only [↓sxD, ↓sxP0, sxP1, sxF, sxA, sxS, sxK, encs, tys, sxN, sevalprocAttr, ne_eq, decide_true, decide_false]
        refine BrW.dec (fun hlt => ?_) (fun hlt => ?_)
        · simp only [↓sxD, ↓sxP0, sxP1, sxF, sxA, sxS, sxK, encs, tys, sxN, sevalprocAttr, ne_eq, decide_true, decide_false]
          have hq2 : q < rn := by omega
          refine LoopW.comp [1, 2, 5, 9, 10, 11] (by simp only [sxS, sxL, sxF, encs, sxN, sevalprocAttr, ne_eq, decide_true, decide_false] <;> (try simp) <;> (try omega)) ?_
          simp only [sxS, sxF, sxN, sevalprocAttr, ne_eq, decide_true, decide_false]
          refine LoopW.up Tok (fun k : Nat => [(11, (.v (.int .i64 k)))]) (fun k => []) (fun k => [(0, ((grid cn q (ovC cn l) ++ gridRow k (ovC cn l) q) ++ l.drop (q * cn + k)).map eC)]) (fun k => []) (fun k => k ≤ cn) (fun k => cn - k) (0) (by simp only [sxS, sxL, sxF, encs, sxN, sevalprocAttr, ne_eq, decide_true, decide_false] <;> (try simp) <;> (try omega)) ?_ ?_
          · omega
          rintro k hk1
          simp only [↓sxD, ↓sxP0, sxP1, sxF, sxA, sxS, sxK, encs, tys, sxN, sevalprocAttr, ne_eq, decide_true, decide_false]
          refine BrW.dec (fun hlt2 => ?_) (fun hlt2 => ?_)
          · have hk2 : k < cn := by omega
            have hqk := cell_lt hq2 hk2
            have i2 := twGet zC h5 hq2 (show cn - 1 - k < cn by omega) (j := (q : Int) * cn + cn - 1 - k) (by push_cast; omega)
            have hlen2 := cell_lt (rows := rn) (cols := cn) hq2 (c := 0) (by omega)
            have hp : (grid cn q (ovC cn l) ++ gridRow k (ovC cn l) q).length = q * cn + k := by rw [List.length_append, grid_length, gridRow_length]
            have hs := ov_step (l := l) hp (by omega) (ovC cn l k q)
            have hw : (grid cn q (ovC cn l) ++ gridRow k (ovC cn l) q ++ l.drop (q * cn + k)).length = rn * cn := by rw [List.length_append, hp, List.length_drop]; omega
            have e7 : ((q : Int) * cn + k).toNat = q * cn + k := by push_cast; omega
            simp only [↓sxD, ↓sxP0, sxP1, sxF, sxA, sxS, sxK, encs, tys, sxN, sevalprocAttr, ne_eq, decide_true, decide_false]
            repeat ((with_reducible refine Vc.go ?_ fun _ => ?_); (focus (first | omega | (simp only [InK]; omega) | (simp [InK]; done) | (simp [InK]; omega))); simp only [↓sxD, ↓sxP0, sxP1, sxF, sxA, sxS, sxK, encs, tys, sxN, sevalprocAttr, ne_eq, decide_true, decide_false])
            refine IxW.map _ i2.1 i2.2 ?_
            simp only [↓sxD, ↓sxP0, sxP1, sxF, sxA, sxS, sxK, encs, tys, sxN, sevalprocAttr, ne_eq, decide_true, decide_false]
            repeat ((with_reducible refine Vc.go ?_ fun _ => ?_); (focus (first | omega | (simp only [InK]; omega) | (simp [InK]; done) | (simp [InK]; omega))); simp only [↓sxD, ↓sxP0, sxP1, sxF, sxA, sxS, sxK, encs, tys, sxN, sevalprocAttr, ne_eq, decide_true, decide_false])
            (with_reducible refine Vc.go ?_ fun _ => ?_); focus (first | omega | (simp only [InK]; omega) | (simp [grid_length, gridRow_length, InK]; done) | (simp [grid_length, gridRow_length, InK]; omega))
            simp only [↓sxD, ↓sxP0, sxP1, sxF, sxA, sxS, sxK, encs, tys, sxN, sevalprocAttr, ne_eq, decide_true, decide_false]
            (with_reducible refine Vc.go ?_ fun _ => ?_); focus (first | omega | (simp only [InK]; omega) | (simp [grid_length, gridRow_length, InK]; done) | (simp [grid_length, gridRow_length, InK]; omega))
            simp only [↓sxD, ↓sxP0, sxP1, sxF, sxA, sxS, sxK, encs, tys, sxN, sevalprocAttr, ne_eq, decide_true, decide_false]
            (with_reducible refine Vc.go ?_ fun _ => ?_); focus (first | omega | (simp only [InK]; omega) | (simp [InK]; done) | (simp [InK]; omega))
            simp only [↓sxD, ↓sxP0, sxP1, sxF, sxA, sxS, sxK, encs, tys, sxN, sevalprocAttr, ne_eq, decide_true, decide_false]
            have hs2 : _ = _ := hs
            simp only [ovC, swp] at hs2
            rw [e7, hs2]
            refine ⟨k + 1, StLe.auto (by simp only [sxS, sxL, sxF, encs, sxN, sevalprocAttr, ne_eq, decide_true, decide_false] <;> (try simp [gridRow_succ, ovC, swp, ← Nat.add_assoc, encs]) <;> (try omega)), ?_, ?_⟩
            · omega
            · omega
          · simp only [↓sxD, ↓sxP0, sxP1, sxF, sxA, sxS, sxK, encs, tys, sxN, sevalprocAttr, ne_eq, decide_true, decide_false]
            have : k = cn := by omega
            subst this
            (with_reducible refine Vc.go ?_ fun _ => ?_); focus (first | omega | (simp only [InK]; omega) | (simp [InK]; done) | (simp [InK]; omega))
            simp only [↓sxD, ↓sxP0, sxP1, sxF, sxA, sxS, sxK, encs, tys, sxN, sevalprocAttr, ne_eq, decide_true, decide_false]
            refine ⟨q + 1, StLe.auto (by simp only [sxS, sxL, sxF, encs, sxN, sevalprocAttr, ne_eq, decide_true, decide_false] <;> (try simp [grid_succ, Nat.succ_mul, encs]) <;> (try omega)), ?_, ?_⟩
            · omega
            · omega
        · simp only [↓sxD, ↓sxP0, sxP1, sxF, sxA, sxS, sxK, encs, tys, sxN, sevalprocAttr, ne_eq, decide_true, decide_false]
          have : q = rn := by omega
          subst this
          rw [show q * cn = l.length by omega, List.drop_length, List.append_nil]
          refine CallI.fn (halves_s false false cn q (grid cn q (ovC cn l))) (by simp only [sxA, sxL, sxF, encs, sxN, sevalprocAttr, ne_eq, decide_true, decide_false] <;> (try simp)) ?_
          simp only [↓sxD, ↓sxP0, sxP1, sxF, sxA, sxS, sxK, encs, tys, sxN, sevalprocAttr, ne_eq, decide_true, decide_false]
          rw [halves_eq h6 (grid_length _ _ _) (ov_ok h5 h7) h8, ov_a, ov_b]
          have hla : (grid (hvC false cn) (hvR false q) (hvA cn l)).length ≤ 1000000000 := by
            have : q * (cn / 2) ≤ 8 * 8 := Nat.mul_le_mul (by omega) (by omega)
            rw [grid_length]; simp only [hvC, hvR, Bool.false_eq_true, if_false]; omega
          have hlb : (grid (hvC false cn) (hvR false q) (hvB false cn q l)).length ≤ 1000000000 := by rw [grid_length]; rwa [grid_length] at hla
          simp only [↓sxD, ↓sxP0, sxP1, sxF, sxA, sxS, sxK, encs, tys, sxN, sevalprocAttr, ne_eq, decide_true, decide_false]
          repeat ((with_reducible refine Vc.go ?_ fun _ => ?_); (focus (first | omega | (simp only [InK]; omega) | (simp [InK]; done) | (simp [InK]; omega))); simp only [↓sxD, ↓sxP0, sxP1, sxF, sxA, sxS, sxK, encs, tys, sxN, sevalprocAttr, ne_eq, decide_true, decide_false])
          refine CallI.fn (same_s true true (hvC false cn : Nat) (hvR false q : Nat) (hvC false cn : Nat) (hvR false q : Nat) _ (grid (hvC false cn) (hvR false q) (hvB false cn q l)) hlb) (by simp only [sxA, sxL, sxF, encs, sxN, sevalprocAttr, ne_eq, decide_true, decide_false] <;> (try simp)) ?_
          simp only [↓sxD, ↓sxP0, sxP1, sxF, sxA, sxS, sxK, encs, tys, sxN, sevalprocAttr, ne_eq, decide_true, decide_false]
          repeat ((with_reducible refine Vc.go ?_ fun _ => ?_); (focus (first | omega | (simp only [InK]; omega) | (simp [InK]; done) | (simp [InK]; omega))); simp only [↓sxD, ↓sxP0, sxP1, sxF, sxA, sxS, sxK, encs, tys, sxN, sevalprocAttr, ne_eq, decide_true, decide_false])
          refine CallI.fn (same_s true true (hvC false cn : Nat) (hvR false q : Nat) (hvC false cn : Nat) (hvR false q : Nat) _ (grid (hvC false cn) (hvR false q) (hvA cn l)) hla) (by simp only [sxA, sxL, sxF, encs, sxN, sevalprocAttr, ne_eq, decide_true, decide_false] <;> (try simp)) ?_
          simp only [↓sxD, ↓sxP0, sxP1, sxF, sxA, sxS, sxK, encs, tys, sxN, sevalprocAttr, ne_eq, decide_true, decide_false]
          exact EndW.fn (by simp only [sxL, encs, kpLL_map, sxN, sevalprocAttr, ne_eq, decide_true, decide_false] <;> (try simp) <;> (try omega)) (by simp only [sxL, encs, kpLL_map, sxN, sevalprocAttr, ne_eq, decide_true, decide_false] <;> (try simp) <;> (try omega))
  · simp only [↓sxD, ↓sxP0, sxP1, sxF, sxA, sxS, sxK, encs, tys, sxN, sevalprocAttr, ne_eq, decide_true, decide_false]
    exact EndW.fn (by simp only [sxL, encs, kpLL_map, sxN, sevalprocAttr, ne_eq, decide_true, decide_false] <;> (try simp) <;> (try omega)) (by simp only [sxL, encs, kpLL_map, sxN, sevalprocAttr, ne_eq, decide_true, decide_false] <;> (try simp) <;> (try omega))
end Go.Proofs.Ytfpkpokkgbobmaa
