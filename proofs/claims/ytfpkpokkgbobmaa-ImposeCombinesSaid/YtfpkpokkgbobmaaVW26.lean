/-
  Chapter 6, walks: halves of a sheet (the document's answer).
-/
import Derived.Test.YtfpkpokkgbobmaaVW25
namespace Go.Proofs.Ytfpkpokkgbobmaa
open Go Go.Vx
set_option linter.unusedSimpArgs false
set_option maxRecDepth 20000
theorem any_no {p : Cell → Bool} {l : List Cell} {k : Nat} (h1 : ∀ x ∈ l.take k, p x = false) (hk : k = l.length) : l.any p = false := by
  subst hk; rw [List.take_length] at h1; exact List.any_eq_false.2 fun x hx => by simp [h1 x hx]
theorem any_at {p : Cell → Bool} {l : List Cell} {k : Nat} (h : k < l.length) (h2 : p l[k] = true) : l.any p = true := List.any_eq_true.2 ⟨l[k], List.getElem_mem h, h2⟩
theorem ceOk_iff {x : Cell} : ceOk x = true ↔ (1 ≤ x.front ∧ x.front ≤ 4000) ∧ (1 ≤ x.back ∧ x.back ≤ 4000) ∧ (x.fturn = 0 ∨ x.fturn = 1) ∧ (x.bturn = 0 ∨ x.bturn = 1) := by
  simp only [ceOk, pgOk, Bool.and_eq_true, decide_eq_true_eq]; omega
def zc (p : Prop) [Decidable p] (n : Nat) : Int := if p then (n : Int) else 0
set_option maxHeartbeats 1000000 in
theorem halvesRefR_s (b : Bool) (c r : Int) (l : List Cell) : Ctr Try.prog 59 [.agg [(.v (.int .i64 c)), (.v (.int .i64 r)), .sl b 4 (l.map eC)], (.v (.bool (false)))] (fun rr => rr = ⟨.tup [.agg [(.v (.int .i64 ((halvesS false c r l).1))), (.v (.int .i64 ((halvesS false c r l).2.1))), .sl true 4 ((halvesS false c r l).2.2.1.map eC), (.v (.int .i64 ((halvesS false c r l).1))), (.v (.int .i64 ((halvesS false c r l).2.1))), .sl true 4 ((halvesS false c r l).2.2.2.1.map eC)], (.v (.int .i64 ((halvesS false c r l).2.2.2.2)))], []⟩) := by
  refine Ctr.of (rs := [.cell 4 99, .tmp 5]) Tok true Try.func59 rfl rfl rfl rfl (by simp [ofDL]) (fun w0 kp => ?_)
  simp only [↓sxD, ↓sxP0, sxP1, sxF, sxA, sxS, sxK, encs, tys, sxN, sevalprocAttr, ne_eq, decide_true, decide_false]
  refine CallI.fn (checkSheetR_s c r) (by simp only [sxA, sxL, sxF, encs, sxN, sevalprocAttr, ne_eq, decide_true, decide_false] <;> (try simp)) ?_
  simp only [↓sxD, ↓sxP0, sxP1, sxF, sxA, sxS, sxK, encs, tys, sxN, sevalprocAttr, ne_eq, decide_true, decide_false]
  refine BrW.dec (fun he => ?_) (fun he => ?_)
  · simp only [↓sxD, ↓sxP0, sxP1, sxF, sxA, sxS, sxK, encs, tys, sxN, sevalprocAttr, ne_eq, decide_true, decide_false]
    exact EndW.fn (by simp only [sxL, encs, kpLL_map, sxN, sevalprocAttr, ne_eq, decide_true, decide_false] <;> (try simp [halvesS, he]) <;> (try omega)) (by simp only [sxL, encs, kpLL_map, sxN, sevalprocAttr, ne_eq, decide_true, decide_false] <;> (try simp) <;> (try omega))
  · have he0 : sheetErr c r = 0 := Decidable.not_not.1 he
    have hsh := sheet_ok he0
    have b1 : c * r ≤ 8 * 8 := Int.mul_le_mul hsh.2.1 hsh.2.2.2 (by omega) (by omega)
    have b2 : 0 ≤ c * r := Int.mul_nonneg (by omega) (by omega)
    obtain ⟨cn, rfl⟩ : ∃ cn : Nat, c = cn := ⟨c.toNat, by omega⟩
    obtain ⟨rn, rfl⟩ : ∃ rn : Nat, r = rn := ⟨r.toNat, by omega⟩
    simp only [↓sxD, ↓sxP0, sxP1, sxF, sxA, sxS, sxK, encs, tys, sxN, sevalprocAttr, ne_eq, decide_true, decide_false]
    repeat ((with_reducible refine Vc.go ?_ fun _ => ?_); (focus (first | omega | (simp only [InK]; omega) | (simp [InK]; done) | (simp [InK]; omega))); simp only [↓sxD, ↓sxP0, sxP1, sxF, sxA, sxS, sxK, encs, tys, sxN, sevalprocAttr, ne_eq, decide_true, decide_false])
    refine BrW.dec (fun hln => ?_) (fun hln => ?_)
    · simp only [↓sxD, ↓sxP0, sxP1, sxF, sxA, sxS, sxK, encs, tys, sxN, sevalprocAttr, ne_eq, decide_true, decide_false]
      exact EndW.fn (by simp only [sxL, encs, kpLL_map, sxN, sevalprocAttr, ne_eq, decide_true, decide_false] <;> (try simp [halvesS, he0, hln]) <;> (try omega)) (by simp only [sxL, encs, kpLL_map, sxN, sevalprocAttr, ne_eq, decide_true, decide_false] <;> (try simp) <;> (try omega))
    · simp only [↓sxD, ↓sxP0, sxP1, sxF, sxA, sxS, sxK, encs, tys, sxN, sevalprocAttr, ne_eq, decide_true, decide_false]
      have hln0 := Decidable.not_not.1 hln
      have hlr : l.length = rn * cn := by
        have : (l.length : Int) = ((rn * cn : Nat) : Int) := by rw [hln0]; push_cast; exact Int.mul_comm _ _
        exact_mod_cast this
      refine LoopW.comp [1, 2, 4, 6, 7, 9] (by simp only [sxS, sxL, sxF, encs, sxN, sevalprocAttr, ne_eq, decide_true, decide_false] <;> (try simp) <;> (try omega)) ?_
      simp only [sxS, sxF, sxN, sevalprocAttr, ne_eq, decide_true, decide_false]
      refine LoopW.up Tok (fun k : Nat => [(9, (.v (.int .i64 k)))]) (fun k => []) (fun k => []) (fun k => []) (fun k => k ≤ l.length ∧ ∀ x ∈ l.take k, (!ceOk x) = false) (fun k => l.length - k) (0) (by simp only [sxS, sxL, sxF, encs, sxN, sevalprocAttr, ne_eq, decide_true, decide_false] <;> (try simp) <;> (try omega)) ?_ ?_
      · exact ⟨by omega, by simp⟩
      rintro k ⟨hk, hp⟩
      simp only [↓sxD, ↓sxP0, sxP1, sxF, sxA, sxS, sxK, encs, tys, sxN, sevalprocAttr, ne_eq, decide_true, decide_false]
      refine BrW.dec (fun hlt => ?_) (fun hlt => ?_)
      · simp only [↓sxD, ↓sxP0, sxP1, sxF, sxA, sxS, sxK, encs, tys, sxN, sevalprocAttr, ne_eq, decide_true, decide_false]
        have hk2 : k < l.length := by omega
        refine IxW.nat hk2 ?_
        simp only [↓sxD, ↓sxP0, sxP1, sxF, sxA, sxS, sxK, encs, tys, sxN, sevalprocAttr, ne_eq, decide_true, decide_false]
        refine CallI.fn (isPageR_s l[k].front) (by simp only [sxA, sxL, sxF, encs, sxN, sevalprocAttr, ne_eq, decide_true, decide_false] <;> (try simp)) ?_
        simp only [↓sxD, ↓sxP0, sxP1, sxF, sxA, sxS, sxK, encs, tys, sxN, sevalprocAttr, ne_eq, decide_true, decide_false]
        refine BrW.dec (fun g1 => ?_) (fun g1 => ?_)
        · simp only [↓sxD, ↓sxP0, sxP1, sxF, sxA, sxS, sxK, encs, tys, sxN, sevalprocAttr, ne_eq, decide_true, decide_false]
          refine CallI.fn (isPageR_s l[k].back) (by simp only [sxA, sxL, sxF, encs, sxN, sevalprocAttr, ne_eq, decide_true, decide_false] <;> (try simp)) ?_
          simp only [↓sxD, ↓sxP0, sxP1, sxF, sxA, sxS, sxK, encs, tys, sxN, sevalprocAttr, ne_eq, decide_true, decide_false]
          refine BrW.dec (fun g2 => ?_) (fun g2 => ?_)
          · simp only [↓sxD, ↓sxP0, sxP1, sxF, sxA, sxS, sxK, encs, tys, sxN, sevalprocAttr, ne_eq, decide_true, decide_false]
            refine CallI.fn (isTurn_s l[k].fturn) (by simp only [sxA, sxL, sxF, encs, sxN, sevalprocAttr, ne_eq, decide_true, decide_false] <;> (try simp)) ?_
            simp only [↓sxD, ↓sxP0, sxP1, sxF, sxA, sxS, sxK, encs, tys, sxN, sevalprocAttr, ne_eq, decide_true, decide_false]
            refine BrW.dec (fun g3 => ?_) (fun g3 => ?_)
            · simp only [↓sxD, ↓sxP0, sxP1, sxF, sxA, sxS, sxK, encs, tys, sxN, sevalprocAttr, ne_eq, decide_true, decide_false]
              refine CallI.fn (isTurn_s l[k].bturn) (by simp only [sxA, sxL, sxF, encs, sxN, sevalprocAttr, ne_eq, decide_true, decide_false] <;> (try simp)) ?_
              simp only [↓sxD, ↓sxP0, sxP1, sxF, sxA, sxS, sxK, encs, tys, sxN, sevalprocAttr, ne_eq, decide_true, decide_false]
              refine BrW.dec (fun g4 => ?_) (fun g4 => ?_)
              · simp only [↓sxD, ↓sxP0, sxP1, sxF, sxA, sxS, sxK, encs, tys, sxN, sevalprocAttr, ne_eq, decide_true, decide_false]
                have hc : ceOk l[k] = true := by rw [ceOk_iff]; omega
                repeat ((with_reducible refine Vc.go ?_ fun _ => ?_); (focus (first | omega | (simp only [InK]; omega) | (simp [InK]; done) | (simp [InK]; omega))); simp only [↓sxD, ↓sxP0, sxP1, sxF, sxA, sxS, sxK, encs, tys, sxN, sevalprocAttr, ne_eq, decide_true, decide_false])
                refine ⟨k + 1, StLe.auto (by simp only [sxS, sxL, sxF, encs, sxN, sevalprocAttr, ne_eq, decide_true, decide_false] <;> (try simp) <;> (try omega)), ?_, ?_⟩
                · refine ⟨hk2, fun x hx => ?_⟩
                  rw [List.take_succ_eq_append_getElem hk2, List.mem_append, List.mem_singleton] at hx
                  rcases hx with hx | rfl
                  · exact hp x hx
                  · rw [hc]; rfl
                · omega
              · simp only [↓sxD, ↓sxP0, sxP1, sxF, sxA, sxS, sxK, encs, tys, sxN, sevalprocAttr, ne_eq, decide_true, decide_false]
                have hb := any_at (p := fun x => !ceOk x) hk2 (by simp only [Bool.not_eq_true']; rw [← Bool.not_eq_true, ceOk_iff]; omega)
                exact EndW.fn (by simp only [sxL, encs, kpLL_map, sxN, sevalprocAttr, ne_eq, decide_true, decide_false] <;> (try simp [halvesS, he0, hln0, hb]) <;> (try omega)) (by simp only [sxL, encs, kpLL_map, sxN, sevalprocAttr, ne_eq, decide_true, decide_false] <;> (try simp) <;> (try omega))
            · simp only [↓sxD, ↓sxP0, sxP1, sxF, sxA, sxS, sxK, encs, tys, sxN, sevalprocAttr, ne_eq, decide_true, decide_false]
              have hb := any_at (p := fun x => !ceOk x) hk2 (by simp only [Bool.not_eq_true']; rw [← Bool.not_eq_true, ceOk_iff]; omega)
              exact EndW.fn (by simp only [sxL, encs, kpLL_map, sxN, sevalprocAttr, ne_eq, decide_true, decide_false] <;> (try simp [halvesS, he0, hln0, hb]) <;> (try omega)) (by simp only [sxL, encs, kpLL_map, sxN, sevalprocAttr, ne_eq, decide_true, decide_false] <;> (try simp) <;> (try omega))
          · simp only [↓sxD, ↓sxP0, sxP1, sxF, sxA, sxS, sxK, encs, tys, sxN, sevalprocAttr, ne_eq, decide_true, decide_false]
            have hb := any_at (p := fun x => !ceOk x) hk2 (by simp only [Bool.not_eq_true']; rw [← Bool.not_eq_true, ceOk_iff]; omega)
            exact EndW.fn (by simp only [sxL, encs, kpLL_map, sxN, sevalprocAttr, ne_eq, decide_true, decide_false] <;> (try simp [halvesS, he0, hln0, hb]) <;> (try omega)) (by simp only [sxL, encs, kpLL_map, sxN, sevalprocAttr, ne_eq, decide_true, decide_false] <;> (try simp) <;> (try omega))
        · simp only [↓sxD, ↓sxP0, sxP1, sxF, sxA, sxS, sxK, encs, tys, sxN, sevalprocAttr, ne_eq, decide_true, decide_false]
          have hb := any_at (p := fun x => !ceOk x) hk2 (by simp only [Bool.not_eq_true']; rw [← Bool.not_eq_true, ceOk_iff]; omega)
          exact EndW.fn (by simp only [sxL, encs, kpLL_map, sxN, sevalprocAttr, ne_eq, decide_true, decide_false] <;> (try simp [halvesS, he0, hln0, hb]) <;> (try omega)) (by simp only [sxL, encs, kpLL_map, sxN, sevalprocAttr, ne_eq, decide_true, decide_false] <;> (try simp) <;> (try omega))
      · simp only [↓sxD, ↓sxP0, sxP1, sxF, sxA, sxS, sxK, encs, tys, sxN, sevalprocAttr, ne_eq, decide_true, decide_false]
        have hb := any_no hp (by omega)
        refine DrawW.plan Tok mixed (.q 0 <| .q 1 <| .q 2 <| .q 3 <| .q 4 <| .q 5 <| .done) (by kernel_rfl) (by kernel_rfl) ?_
        simp only [↓sxD, ↓sxP0, sxP1, sxF, sxA, sxS, sxK, encs, tys, sxN, sevalprocAttr, ne_eq, decide_true, decide_false]
        rw [quo2]
        repeat ((with_reducible refine Vc.go ?_ fun _ => ?_); (focus (first | omega | (simp only [InK]; omega) | (simp [InK]; done) | (simp [InK]; omega))); simp only [↓sxD, ↓sxP0, sxP1, sxF, sxA, sxS, sxK, encs, tys, sxN, sevalprocAttr, ne_eq, decide_true, decide_false])
        rw [rem2]
        repeat ((with_reducible refine Vc.go ?_ fun _ => ?_); (focus (first | omega | (simp only [InK]; omega) | (simp [InK]; done) | (simp [InK]; omega))); simp only [↓sxD, ↓sxP0, sxP1, sxF, sxA, sxS, sxK, encs, tys, sxN, sevalprocAttr, ne_eq, decide_true, decide_false])
        refine BrW.dec (fun hod => ?_) (fun hod => ?_)
        · have hod2 : hvOdd false cn rn = true := by simp only [hvOdd, Bool.false_eq_true, if_false, if_true, decide_eq_true_eq]; omega
          simp only [↓sxD, ↓sxP0, sxP1, sxF, sxA, sxS, sxK, encs, tys, sxN, sevalprocAttr, ne_eq, decide_true, decide_false]
          exact EndW.fn (by simp only [sxL, encs, kpLL_map, sxN, sevalprocAttr, ne_eq, decide_true, decide_false] <;> (try simp [halvesS, he0, hln0, hb, hod2]) <;> (try omega)) (by simp only [sxL, encs, kpLL_map, sxN, sevalprocAttr, ne_eq, decide_true, decide_false] <;> (try simp) <;> (try omega))
        · have hod2 : hvOdd false cn rn = false := by simp only [hvOdd, Bool.false_eq_true, if_false, if_true, decide_eq_false_iff_not]; omega
          simp only [↓sxD, ↓sxP0, sxP1, sxF, sxA, sxS, sxK, encs, tys, sxN, sevalprocAttr, ne_eq, decide_true, decide_false]
          refine LoopW.comp [1, 2, 4, 7, 11, 12, 13] (by simp only [sxS, sxL, sxF, encs, sxN, sevalprocAttr, ne_eq, decide_true, decide_false] <;> (try simp) <;> (try omega)) ?_
          simp only [sxS, sxF, sxN, sevalprocAttr, ne_eq, decide_true, decide_false]
          refine LoopW.up Tok (fun i : Nat => [(13, (.v (.int .i64 i)))]) (fun i => [(3, [(.v (.int .i64 (zc (0 < i) (cn / 2)))), (.v (.int .i64 (zc (0 < i) rn))), .v (.slice none 0 0), (.v (.int .i64 (zc (1 < i) (cn / 2)))), (.v (.int .i64 (zc (1 < i) rn))), .v (.slice none 0 0)])]) (fun i => []) (fun i => []) (fun i => i ≤ 2) (fun i => 2 - i) (0) (by simp only [sxS, sxL, sxF, encs, sxN, sevalprocAttr, ne_eq, decide_true, decide_false] <;> (try simp [zc, encs]) <;> (try omega)) ?_ ?_
          · omega
          rintro i hi
          simp only [↓sxD, ↓sxP0, sxP1, sxF, sxA, sxS, sxK, encs, tys, sxN, sevalprocAttr, ne_eq, decide_true, decide_false]
          refine BrW.dec (fun hi2 => ?_) (fun hi2 => ?_)
          · have h01 : i = 0 ∨ i = 1 := by omega
            rcases h01 with rfl | rfl
            · have encs := And.intro encs (show ((0 : Nat) : Int) = 0 from rfl)
              simp only [↓sxD, ↓sxP0, sxP1, sxF, sxA, sxS, sxK, encs, tys, sxN, sevalprocAttr, ne_eq, decide_true, decide_false]
              repeat ((with_reducible refine Vc.go ?_ fun _ => ?_); (focus (first | omega | (simp only [InK]; omega) | (simp [InK]; done) | (simp [InK]; omega))); simp only [↓sxD, ↓sxP0, sxP1, sxF, sxA, sxS, sxK, encs, tys, sxN, sevalprocAttr, ne_eq, decide_true, decide_false])
              refine ⟨1, StLe.auto (by simp only [sxS, sxL, sxF, encs, sxN, sevalprocAttr, ne_eq, decide_true, decide_false] <;> (try simp [zc, encs]) <;> (try omega)), ?_, ?_⟩
              · omega
              · omega
            · have encs := And.intro encs (show ((1 : Nat) : Int) = 1 from rfl)
              simp only [↓sxD, ↓sxP0, sxP1, sxF, sxA, sxS, sxK, encs, tys, sxN, sevalprocAttr, ne_eq, decide_true, decide_false]
              repeat ((with_reducible refine Vc.go ?_ fun _ => ?_); (focus (first | omega | (simp only [InK]; omega) | (simp [InK]; done) | (simp [InK]; omega))); simp only [↓sxD, ↓sxP0, sxP1, sxF, sxA, sxS, sxK, encs, tys, sxN, sevalprocAttr, ne_eq, decide_true, decide_false])
              refine ⟨2, StLe.auto (by simp only [sxS, sxL, sxF, encs, sxN, sevalprocAttr, ne_eq, decide_true, decide_false] <;> (try simp [zc, encs]) <;> (try omega)), ?_, ?_⟩
              · omega
              · omega
          · have hie : i = 2 := by omega
            subst hie
            simp only [↓sxD, ↓sxP0, sxP1, sxF, sxA, sxS, sxK, encs, tys, sxN, sevalprocAttr, ne_eq, decide_true, decide_false]
            refine LoopW.comp [1, 2, 4, 7, 11, 12, 14] (by simp only [sxS, sxL, sxF, encs, sxN, sevalprocAttr, ne_eq, decide_true, decide_false] <;> (try simp) <;> (try omega)) ?_
            simp only [sxS, sxF, sxN, sevalprocAttr, ne_eq, decide_true, decide_false]
            refine LoopW.up Tok (fun q : Nat => [(14, (.v (.int .i64 q)))]) (fun q => [(3, [(.v (.int .i64 ((cn / 2)))), (.v (.int .i64 rn)), .row 0, (.v (.int .i64 ((cn / 2)))), (.v (.int .i64 rn)), .row 1])]) (fun q => []) (fun q => [.own 105 4 ((grid (cn / 2) q (hvA cn l)).map eC), .own 105 4 ((grid (cn / 2) q (hvB false cn rn l)).map eC)]) (fun q => q ≤ rn) (fun q => rn - q) (0) (by simp only [sxS, sxL, sxF, encs, sxN, sevalprocAttr, ne_eq, decide_true, decide_false] <;> (try simp [zc, encs]) <;> (try omega)) ?_ ?_
            · omega
            rintro q hq1
            simp only [↓sxD, ↓sxP0, sxP1, sxF, sxA, sxS, sxK, encs, tys, sxN, sevalprocAttr, ne_eq, decide_true, decide_false]
            refine BrW.dec (fun hlt => ?_) (fun hlt => ?_)
            · simp only [↓sxD, ↓sxP0, sxP1, sxF, sxA, sxS, sxK, encs, tys, sxN, sevalprocAttr, ne_eq, decide_true, decide_false]
              have hq2 : q < rn := by omega
              have hq3 : q < rn := by omega
              refine LoopW.comp [1, 2, 4, 7, 11, 12, 14, 15] (by simp only [sxS, sxL, sxF, encs, sxN, sevalprocAttr, ne_eq, decide_true, decide_false] <;> (try simp) <;> (try omega)) ?_
              simp only [sxS, sxF, sxN, sevalprocAttr, ne_eq, decide_true, decide_false]
              refine LoopW.up Tok (fun k : Nat => [(15, (.v (.int .i64 k)))]) (fun k => []) (fun k => [(0, ((grid (cn / 2) q (hvA cn l)) ++ gridRow k (hvA cn l) q).map eC), (1, ((grid (cn / 2) q (hvB false cn rn l)) ++ gridRow k (hvB false cn rn l) q).map eC)]) (fun k => []) (fun k => k ≤ (cn / 2)) (fun k => (cn / 2) - k) (0) (by simp only [sxS, sxL, sxF, encs, sxN, sevalprocAttr, ne_eq, decide_true, decide_false] <;> (try simp) <;> (try omega)) ?_ ?_
              · omega
              rintro k hk1
              have hlen := cell_lt (rows := rn) (cols := cn) hq3 (c := 0) (by omega)
              simp only [↓sxD, ↓sxP0, sxP1, sxF, sxA, sxS, sxK, encs, tys, sxN, sevalprocAttr, ne_eq, decide_true, decide_false]
              refine BrW.dec (fun hlt2 => ?_) (fun hlt2 => ?_)
              · have hk2 : k < (cn / 2) := by omega
                have hk3 : k < cn := by omega
                have hqk := cell_lt hq3 hk3
                have hqk2 := cell_lt hq2 hk2
                have hsz : rn * (cn / 2) ≤ 8 * 8 := Nat.mul_le_mul (by omega) (by omega)
                have i1 := twGet zC hlr hq3 hk3 (j := (q : Int) * cn + k) (by push_cast; rfl)
                have i2 := twGet zC hlr hq3 (show cn - 1 - k < cn by omega) (j := (q : Int) * cn + cn - 1 - k) (by push_cast; omega)
                have i3 := twGet zC hlr (show rn - 1 - q < rn by omega) hk3 (j := ((rn : Int) - 1 - q) * cn + k) (by rw [show ((rn : Int) - 1 - q) = ((rn - 1 - q : Nat) : Int) by omega]; push_cast; rfl)
                simp only [↓sxD, ↓sxP0, sxP1, sxF, sxA, sxS, sxK, encs, tys, sxN, sevalprocAttr, ne_eq, decide_true, decide_false]
                refine DrawW.plan Tok mixed (.q 0 <| .q 1 <| .q 2 <| .q 3 <| .q 4 <| .q 5 <| .q 6 <| .q 7 <| .q 8 <| .q 9 <| .q 10 <| .q 11 <| .q 12 <| .e 13 [2] <| .e 14 [] <| .q 15 <| .q 16 <| .e 17 [] <| .done) (by kernel_rfl) (by kernel_rfl) ?_
                simp only [↓sxD, ↓sxP0, sxP1, sxF, sxA, sxS, sxK, encs, tys, sxN, sevalprocAttr, ne_eq, decide_true, decide_false]
                repeat ((with_reducible refine Vc.go ?_ fun _ => ?_); (focus (first | omega | (simp only [InK]; omega) | (simp [InK]; done) | (simp [InK]; omega))); simp only [↓sxD, ↓sxP0, sxP1, sxF, sxA, sxS, sxK, encs, tys, sxN, sevalprocAttr, ne_eq, decide_true, decide_false])
                refine IxW.map _ i1.1 i1.2 ?_
                simp only [↓sxD, ↓sxP0, sxP1, sxF, sxA, sxS, sxK, encs, tys, sxN, sevalprocAttr, ne_eq, decide_true, decide_false]
                (with_reducible refine Vc.go ?_ fun hvx => ?_); focus (simp only [grid_length, gridRow_length, InK]; omega)
                clear hvx
                simp only [↓sxD, ↓sxP0, sxP1, sxF, sxA, sxS, sxK, encs, tys, sxN, sevalprocAttr, ne_eq, decide_true, decide_false]
                repeat ((with_reducible refine Vc.go ?_ fun _ => ?_); (focus (first | omega | (simp only [InK]; omega) | (simp [InK]; done) | (simp [InK]; omega))); simp only [↓sxD, ↓sxP0, sxP1, sxF, sxA, sxS, sxK, encs, tys, sxN, sevalprocAttr, ne_eq, decide_true, decide_false])
                refine IxW.map _ i2.1 i2.2 ?_
                simp only [↓sxD, ↓sxP0, sxP1, sxF, sxA, sxS, sxK, encs, tys, sxN, sevalprocAttr, ne_eq, decide_true, decide_false]
                repeat ((with_reducible refine Vc.go ?_ fun _ => ?_); (focus (first | omega | (simp only [InK]; omega) | (simp [InK]; done) | (simp [InK]; omega))); simp only [↓sxD, ↓sxP0, sxP1, sxF, sxA, sxS, sxK, encs, tys, sxN, sevalprocAttr, ne_eq, decide_true, decide_false])
                (with_reducible refine Vc.go ?_ fun hvx => ?_); focus (simp only [grid_length, gridRow_length, InK]; omega)
                clear hvx
                simp only [↓sxD, ↓sxP0, sxP1, sxF, sxA, sxS, sxK, encs, tys, sxN, sevalprocAttr, ne_eq, decide_true, decide_false]
                repeat ((with_reducible refine Vc.go ?_ fun _ => ?_); (focus (first | omega | (simp only [InK]; omega) | (simp [InK]; done) | (simp [InK]; omega))); simp only [↓sxD, ↓sxP0, sxP1, sxF, sxA, sxS, sxK, encs, tys, sxN, sevalprocAttr, ne_eq, decide_true, decide_false])
                refine ⟨k + 1, StLe.auto (by simp only [sxS, sxL, sxF, encs, sxN, sevalprocAttr, ne_eq, decide_true, decide_false] <;> (try simp [gridRow_succ, hvA, hvB, swp, swd, encs]) <;> (try omega)), ?_, ?_⟩
                · omega
                · omega
              · simp only [↓sxD, ↓sxP0, sxP1, sxF, sxA, sxS, sxK, encs, tys, sxN, sevalprocAttr, ne_eq, decide_true, decide_false]
                have : k = (cn / 2) := by omega
                subst this
                repeat ((with_reducible refine Vc.go ?_ fun _ => ?_); (focus (first | omega | (simp only [InK]; omega) | (simp [InK]; done) | (simp [InK]; omega))); simp only [↓sxD, ↓sxP0, sxP1, sxF, sxA, sxS, sxK, encs, tys, sxN, sevalprocAttr, ne_eq, decide_true, decide_false])
                refine ⟨q + 1, StLe.auto (by simp only [sxS, sxL, sxF, encs, sxN, sevalprocAttr, ne_eq, decide_true, decide_false] <;> (try simp [grid_succ, encs]) <;> (try omega)), ?_, ?_⟩
                · omega
                · omega
            · simp only [↓sxD, ↓sxP0, sxP1, sxF, sxA, sxS, sxK, encs, tys, sxN, sevalprocAttr, ne_eq, decide_true, decide_false]
              have : q = rn := by omega
              subst this
              exact EndW.fn (by simp only [sxL, encs, kpLL_map, sxN, sevalprocAttr, ne_eq, decide_true, decide_false] <;> (try simp [halvesS, he0, hln0, hb, hod2, hvC, hvR]) <;> (try omega)) (by simp only [sxL, encs, kpLL_map, sxN, sevalprocAttr, ne_eq, decide_true, decide_false] <;> (try simp) <;> (try omega))
set_option maxHeartbeats 1000000 in
theorem halvesRefD_s (b : Bool) (c r : Int) (l : List Cell) : Ctr Try.prog 59 [.agg [(.v (.int .i64 c)), (.v (.int .i64 r)), .sl b 4 (l.map eC)], (.v (.bool (true)))] (fun rr => rr = ⟨.tup [.agg [(.v (.int .i64 ((halvesS true c r l).1))), (.v (.int .i64 ((halvesS true c r l).2.1))), .sl true 4 ((halvesS true c r l).2.2.1.map eC), (.v (.int .i64 ((halvesS true c r l).1))), (.v (.int .i64 ((halvesS true c r l).2.1))), .sl true 4 ((halvesS true c r l).2.2.2.1.map eC)], (.v (.int .i64 ((halvesS true c r l).2.2.2.2)))], []⟩) := by
  refine Ctr.of (rs := [.cell 4 99, .tmp 5]) Tok true Try.func59 rfl rfl rfl rfl (by simp [ofDL]) (fun w0 kp => ?_)
  simp only [↓sxD, ↓sxP0, sxP1, sxF, sxA, sxS, sxK, encs, tys, sxN, sevalprocAttr, ne_eq, decide_true, decide_false]
  refine CallI.fn (checkSheetR_s c r) (by simp only [sxA, sxL, sxF, encs, sxN, sevalprocAttr, ne_eq, decide_true, decide_false] <;> (try simp)) ?_
  simp only [↓sxD, ↓sxP0, sxP1, sxF, sxA, sxS, sxK, encs, tys, sxN, sevalprocAttr, ne_eq, decide_true, decide_false]
  refine BrW.dec (fun he => ?_) (fun he => ?_)
  · simp only [↓sxD, ↓sxP0, sxP1, sxF, sxA, sxS, sxK, encs, tys, sxN, sevalprocAttr, ne_eq, decide_true, decide_false]
    exact EndW.fn (by simp only [sxL, encs, kpLL_map, sxN, sevalprocAttr, ne_eq, decide_true, decide_false] <;> (try simp [halvesS, he]) <;> (try omega)) (by simp only [sxL, encs, kpLL_map, sxN, sevalprocAttr, ne_eq, decide_true, decide_false] <;> (try simp) <;> (try omega))
  · have he0 : sheetErr c r = 0 := Decidable.not_not.1 he
    have hsh := sheet_ok he0
    have b1 : c * r ≤ 8 * 8 := Int.mul_le_mul hsh.2.1 hsh.2.2.2 (by omega) (by omega)
    have b2 : 0 ≤ c * r := Int.mul_nonneg (by omega) (by omega)
    obtain ⟨cn, rfl⟩ : ∃ cn : Nat, c = cn := ⟨c.toNat, by omega⟩
    obtain ⟨rn, rfl⟩ : ∃ rn : Nat, r = rn := ⟨r.toNat, by omega⟩
    simp only [↓sxD, ↓sxP0, sxP1, sxF, sxA, sxS, sxK, encs, tys, sxN, sevalprocAttr, ne_eq, decide_true, decide_false]
    repeat ((with_reducible refine Vc.go ?_ fun _ => ?_); (focus (first | omega | (simp only [InK]; omega) | (simp [InK]; done) | (simp [InK]; omega))); simp only [↓sxD, ↓sxP0, sxP1, sxF, sxA, sxS, sxK, encs, tys, sxN, sevalprocAttr, ne_eq, decide_true, decide_false])
    refine BrW.dec (fun hln => ?_) (fun hln => ?_)
    · simp only [↓sxD, ↓sxP0, sxP1, sxF, sxA, sxS, sxK, encs, tys, sxN, sevalprocAttr, ne_eq, decide_true, decide_false]
      exact EndW.fn (by simp only [sxL, encs, kpLL_map, sxN, sevalprocAttr, ne_eq, decide_true, decide_false] <;> (try simp [halvesS, he0, hln]) <;> (try omega)) (by simp only [sxL, encs, kpLL_map, sxN, sevalprocAttr, ne_eq, decide_true, decide_false] <;> (try simp) <;> (try omega))
    · simp only [↓sxD, ↓sxP0, sxP1, sxF, sxA, sxS, sxK, encs, tys, sxN, sevalprocAttr, ne_eq, decide_true, decide_false]
      have hln0 := Decidable.not_not.1 hln
      have hlr : l.length = rn * cn := by
        have : (l.length : Int) = ((rn * cn : Nat) : Int) := by rw [hln0]; push_cast; exact Int.mul_comm _ _
        exact_mod_cast this
      refine LoopW.comp [1, 2, 4, 6, 7, 9] (by simp only [sxS, sxL, sxF, encs, sxN, sevalprocAttr, ne_eq, decide_true, decide_false] <;> (try simp) <;> (try omega)) ?_
      simp only [sxS, sxF, sxN, sevalprocAttr, ne_eq, decide_true, decide_false]
      refine LoopW.up Tok (fun k : Nat => [(9, (.v (.int .i64 k)))]) (fun k => []) (fun k => []) (fun k => []) (fun k => k ≤ l.length ∧ ∀ x ∈ l.take k, (!ceOk x) = false) (fun k => l.length - k) (0) (by simp only [sxS, sxL, sxF, encs, sxN, sevalprocAttr, ne_eq, decide_true, decide_false] <;> (try simp) <;> (try omega)) ?_ ?_
      · exact ⟨by omega, by simp⟩
      rintro k ⟨hk, hp⟩
      simp only [↓sxD, ↓sxP0, sxP1, sxF, sxA, sxS, sxK, encs, tys, sxN, sevalprocAttr, ne_eq, decide_true, decide_false]
      refine BrW.dec (fun hlt => ?_) (fun hlt => ?_)
      · simp only [↓sxD, ↓sxP0, sxP1, sxF, sxA, sxS, sxK, encs, tys, sxN, sevalprocAttr, ne_eq, decide_true, decide_false]
        have hk2 : k < l.length := by omega
        refine IxW.nat hk2 ?_
        simp only [↓sxD, ↓sxP0, sxP1, sxF, sxA, sxS, sxK, encs, tys, sxN, sevalprocAttr, ne_eq, decide_true, decide_false]
        refine CallI.fn (isPageR_s l[k].front) (by simp only [sxA, sxL, sxF, encs, sxN, sevalprocAttr, ne_eq, decide_true, decide_false] <;> (try simp)) ?_
        simp only [↓sxD, ↓sxP0, sxP1, sxF, sxA, sxS, sxK, encs, tys, sxN, sevalprocAttr, ne_eq, decide_true, decide_false]
        refine BrW.dec (fun g1 => ?_) (fun g1 => ?_)
        · simp only [↓sxD, ↓sxP0, sxP1, sxF, sxA, sxS, sxK, encs, tys, sxN, sevalprocAttr, ne_eq, decide_true, decide_false]
          refine CallI.fn (isPageR_s l[k].back) (by simp only [sxA, sxL, sxF, encs, sxN, sevalprocAttr, ne_eq, decide_true, decide_false] <;> (try simp)) ?_
          simp only [↓sxD, ↓sxP0, sxP1, sxF, sxA, sxS, sxK, encs, tys, sxN, sevalprocAttr, ne_eq, decide_true, decide_false]
          refine BrW.dec (fun g2 => ?_) (fun g2 => ?_)
          · simp only [↓sxD, ↓sxP0, sxP1, sxF, sxA, sxS, sxK, encs, tys, sxN, sevalprocAttr, ne_eq, decide_true, decide_false]
            refine CallI.fn (isTurn_s l[k].fturn) (by simp only [sxA, sxL, sxF, encs, sxN, sevalprocAttr, ne_eq, decide_true, decide_false] <;> (try simp)) ?_
            simp only [↓sxD, ↓sxP0, sxP1, sxF, sxA, sxS, sxK, encs, tys, sxN, sevalprocAttr, ne_eq, decide_true, decide_false]
            refine BrW.dec (fun g3 => ?_) (fun g3 => ?_)
            · simp only [↓sxD, ↓sxP0, sxP1, sxF, sxA, sxS, sxK, encs, tys, sxN, sevalprocAttr, ne_eq, decide_true, decide_false]
              refine CallI.fn (isTurn_s l[k].bturn) (by simp only [sxA, sxL, sxF, encs, sxN, sevalprocAttr, ne_eq, decide_true, decide_false] <;> (try simp)) ?_
              simp only [↓sxD, ↓sxP0, sxP1, sxF, sxA, sxS, sxK, encs, tys, sxN, sevalprocAttr, ne_eq, decide_true, decide_false]
              refine BrW.dec (fun g4 => ?_) (fun g4 => ?_)
              · simp only [↓sxD, ↓sxP0, sxP1, sxF, sxA, sxS, sxK, encs, tys, sxN, sevalprocAttr, ne_eq, decide_true, decide_false]
                have hc : ceOk l[k] = true := by rw [ceOk_iff]; omega
                repeat ((with_reducible refine Vc.go ?_ fun _ => ?_); (focus (first | omega | (simp only [InK]; omega) | (simp [InK]; done) | (simp [InK]; omega))); simp only [↓sxD, ↓sxP0, sxP1, sxF, sxA, sxS, sxK, encs, tys, sxN, sevalprocAttr, ne_eq, decide_true, decide_false])
                refine ⟨k + 1, StLe.auto (by simp only [sxS, sxL, sxF, encs, sxN, sevalprocAttr, ne_eq, decide_true, decide_false] <;> (try simp) <;> (try omega)), ?_, ?_⟩
                · refine ⟨hk2, fun x hx => ?_⟩
                  rw [List.take_succ_eq_append_getElem hk2, List.mem_append, List.mem_singleton] at hx
                  rcases hx with hx | rfl
                  · exact hp x hx
                  · rw [hc]; rfl
                · omega
              · simp only [↓sxD, ↓sxP0, sxP1, sxF, sxA, sxS, sxK, encs, tys, sxN, sevalprocAttr, ne_eq, decide_true, decide_false]
                have hb := any_at (p := fun x => !ceOk x) hk2 (by simp only [Bool.not_eq_true']; rw [← Bool.not_eq_true, ceOk_iff]; omega)
                exact EndW.fn (by simp only [sxL, encs, kpLL_map, sxN, sevalprocAttr, ne_eq, decide_true, decide_false] <;> (try simp [halvesS, he0, hln0, hb]) <;> (try omega)) (by simp only [sxL, encs, kpLL_map, sxN, sevalprocAttr, ne_eq, decide_true, decide_false] <;> (try simp) <;> (try omega))
            · simp only [↓sxD, ↓sxP0, sxP1, sxF, sxA, sxS, sxK, encs, tys, sxN, sevalprocAttr, ne_eq, decide_true, decide_false]
              have hb := any_at (p := fun x => !ceOk x) hk2 (by simp only [Bool.not_eq_true']; rw [← Bool.not_eq_true, ceOk_iff]; omega)
              exact EndW.fn (by simp only [sxL, encs, kpLL_map, sxN, sevalprocAttr, ne_eq, decide_true, decide_false] <;> (try simp [halvesS, he0, hln0, hb]) <;> (try omega)) (by simp only [sxL, encs, kpLL_map, sxN, sevalprocAttr, ne_eq, decide_true, decide_false] <;> (try simp) <;> (try omega))
          · simp only [↓sxD, ↓sxP0, sxP1, sxF, sxA, sxS, sxK, encs, tys, sxN, sevalprocAttr, ne_eq, decide_true, decide_false]
            have hb := any_at (p := fun x => !ceOk x) hk2 (by simp only [Bool.not_eq_true']; rw [← Bool.not_eq_true, ceOk_iff]; omega)
            exact EndW.fn (by simp only [sxL, encs, kpLL_map, sxN, sevalprocAttr, ne_eq, decide_true, decide_false] <;> (try simp [halvesS, he0, hln0, hb]) <;> (try omega)) (by simp only [sxL, encs, kpLL_map, sxN, sevalprocAttr, ne_eq, decide_true, decide_false] <;> (try simp) <;> (try omega))
        · simp only [↓sxD, ↓sxP0, sxP1, sxF, sxA, sxS, sxK, encs, tys, sxN, sevalprocAttr, ne_eq, decide_true, decide_false]
          have hb := any_at (p := fun x => !ceOk x) hk2 (by simp only [Bool.not_eq_true']; rw [← Bool.not_eq_true, ceOk_iff]; omega)
          exact EndW.fn (by simp only [sxL, encs, kpLL_map, sxN, sevalprocAttr, ne_eq, decide_true, decide_false] <;> (try simp [halvesS, he0, hln0, hb]) <;> (try omega)) (by simp only [sxL, encs, kpLL_map, sxN, sevalprocAttr, ne_eq, decide_true, decide_false] <;> (try simp) <;> (try omega))
      · simp only [↓sxD, ↓sxP0, sxP1, sxF, sxA, sxS, sxK, encs, tys, sxN, sevalprocAttr, ne_eq, decide_true, decide_false]
        have hb := any_no hp (by omega)
        refine DrawW.plan Tok mixed (.q 0 <| .q 1 <| .q 2 <| .q 3 <| .q 4 <| .q 5 <| .done) (by kernel_rfl) (by kernel_rfl) ?_
        simp only [↓sxD, ↓sxP0, sxP1, sxF, sxA, sxS, sxK, encs, tys, sxN, sevalprocAttr, ne_eq, decide_true, decide_false]
        rw [quo2]
        repeat ((with_reducible refine Vc.go ?_ fun _ => ?_); (focus (first | omega | (simp only [InK]; omega) | (simp [InK]; done) | (simp [InK]; omega))); simp only [↓sxD, ↓sxP0, sxP1, sxF, sxA, sxS, sxK, encs, tys, sxN, sevalprocAttr, ne_eq, decide_true, decide_false])
        rw [rem2]
        repeat ((with_reducible refine Vc.go ?_ fun _ => ?_); (focus (first | omega | (simp only [InK]; omega) | (simp [InK]; done) | (simp [InK]; omega))); simp only [↓sxD, ↓sxP0, sxP1, sxF, sxA, sxS, sxK, encs, tys, sxN, sevalprocAttr, ne_eq, decide_true, decide_false])
        refine BrW.dec (fun hod => ?_) (fun hod => ?_)
        · have hod2 : hvOdd true cn rn = true := by simp only [hvOdd, Bool.false_eq_true, if_false, if_true, decide_eq_true_eq]; omega
          simp only [↓sxD, ↓sxP0, sxP1, sxF, sxA, sxS, sxK, encs, tys, sxN, sevalprocAttr, ne_eq, decide_true, decide_false]
          exact EndW.fn (by simp only [sxL, encs, kpLL_map, sxN, sevalprocAttr, ne_eq, decide_true, decide_false] <;> (try simp [halvesS, he0, hln0, hb, hod2]) <;> (try omega)) (by simp only [sxL, encs, kpLL_map, sxN, sevalprocAttr, ne_eq, decide_true, decide_false] <;> (try simp) <;> (try omega))
        · have hod2 : hvOdd true cn rn = false := by simp only [hvOdd, Bool.false_eq_true, if_false, if_true, decide_eq_false_iff_not]; omega
          simp only [↓sxD, ↓sxP0, sxP1, sxF, sxA, sxS, sxK, encs, tys, sxN, sevalprocAttr, ne_eq, decide_true, decide_false]
          refine LoopW.comp [1, 2, 4, 7, 11, 12, 13] (by simp only [sxS, sxL, sxF, encs, sxN, sevalprocAttr, ne_eq, decide_true, decide_false] <;> (try simp) <;> (try omega)) ?_
          simp only [sxS, sxF, sxN, sevalprocAttr, ne_eq, decide_true, decide_false]
          refine LoopW.up Tok (fun i : Nat => [(13, (.v (.int .i64 i)))]) (fun i => [(3, [(.v (.int .i64 (zc (0 < i) cn))), (.v (.int .i64 (zc (0 < i) (rn / 2)))), .v (.slice none 0 0), (.v (.int .i64 (zc (1 < i) cn))), (.v (.int .i64 (zc (1 < i) (rn / 2)))), .v (.slice none 0 0)])]) (fun i => []) (fun i => []) (fun i => i ≤ 2) (fun i => 2 - i) (0) (by simp only [sxS, sxL, sxF, encs, sxN, sevalprocAttr, ne_eq, decide_true, decide_false] <;> (try simp [zc, encs]) <;> (try omega)) ?_ ?_
          · omega
          rintro i hi
          simp only [↓sxD, ↓sxP0, sxP1, sxF, sxA, sxS, sxK, encs, tys, sxN, sevalprocAttr, ne_eq, decide_true, decide_false]
          refine BrW.dec (fun hi2 => ?_) (fun hi2 => ?_)
          · have h01 : i = 0 ∨ i = 1 := by omega
            rcases h01 with rfl | rfl
            · have encs := And.intro encs (show ((0 : Nat) : Int) = 0 from rfl)
              simp only [↓sxD, ↓sxP0, sxP1, sxF, sxA, sxS, sxK, encs, tys, sxN, sevalprocAttr, ne_eq, decide_true, decide_false]
              repeat ((with_reducible refine Vc.go ?_ fun _ => ?_); (focus (first | omega | (simp only [InK]; omega) | (simp [InK]; done) | (simp [InK]; omega))); simp only [↓sxD, ↓sxP0, sxP1, sxF, sxA, sxS, sxK, encs, tys, sxN, sevalprocAttr, ne_eq, decide_true, decide_false])
              refine ⟨1, StLe.auto (by simp only [sxS, sxL, sxF, encs, sxN, sevalprocAttr, ne_eq, decide_true, decide_false] <;> (try simp [zc, encs]) <;> (try omega)), ?_, ?_⟩
              · omega
              · omega
            · have encs := And.intro encs (show ((1 : Nat) : Int) = 1 from rfl)
              simp only [↓sxD, ↓sxP0, sxP1, sxF, sxA, sxS, sxK, encs, tys, sxN, sevalprocAttr, ne_eq, decide_true, decide_false]
              repeat ((with_reducible refine Vc.go ?_ fun _ => ?_); (focus (first | omega | (simp only [InK]; omega) | (simp [InK]; done) | (simp [InK]; omega))); simp only [↓sxD, ↓sxP0, sxP1, sxF, sxA, sxS, sxK, encs, tys, sxN, sevalprocAttr, ne_eq, decide_true, decide_false])
              refine ⟨2, StLe.auto (by simp only [sxS, sxL, sxF, encs, sxN, sevalprocAttr, ne_eq, decide_true, decide_false] <;> (try simp [zc, encs]) <;> (try omega)), ?_, ?_⟩
              · omega
              · omega
          · have hie : i = 2 := by omega
            subst hie
            simp only [↓sxD, ↓sxP0, sxP1, sxF, sxA, sxS, sxK, encs, tys, sxN, sevalprocAttr, ne_eq, decide_true, decide_false]
            refine LoopW.comp [1, 2, 4, 7, 11, 12, 14] (by simp only [sxS, sxL, sxF, encs, sxN, sevalprocAttr, ne_eq, decide_true, decide_false] <;> (try simp) <;> (try omega)) ?_
            simp only [sxS, sxF, sxN, sevalprocAttr, ne_eq, decide_true, decide_false]
            refine LoopW.up Tok (fun q : Nat => [(14, (.v (.int .i64 q)))]) (fun q => [(3, [(.v (.int .i64 cn)), (.v (.int .i64 ((rn / 2)))), .row 0, (.v (.int .i64 cn)), (.v (.int .i64 ((rn / 2)))), .row 1])]) (fun q => []) (fun q => [.own 105 4 ((grid cn q (hvA cn l)).map eC), .own 105 4 ((grid cn q (hvB true cn rn l)).map eC)]) (fun q => q ≤ (rn / 2)) (fun q => (rn / 2) - q) (0) (by simp only [sxS, sxL, sxF, encs, sxN, sevalprocAttr, ne_eq, decide_true, decide_false] <;> (try simp [zc, encs]) <;> (try omega)) ?_ ?_
            · omega
            rintro q hq1
            simp only [↓sxD, ↓sxP0, sxP1, sxF, sxA, sxS, sxK, encs, tys, sxN, sevalprocAttr, ne_eq, decide_true, decide_false]
            refine BrW.dec (fun hlt => ?_) (fun hlt => ?_)
            · simp only [↓sxD, ↓sxP0, sxP1, sxF, sxA, sxS, sxK, encs, tys, sxN, sevalprocAttr, ne_eq, decide_true, decide_false]
              have hq2 : q < (rn / 2) := by omega
              have hq3 : q < rn := by omega
              refine LoopW.comp [1, 2, 4, 7, 11, 12, 14, 15] (by simp only [sxS, sxL, sxF, encs, sxN, sevalprocAttr, ne_eq, decide_true, decide_false] <;> (try simp) <;> (try omega)) ?_
              simp only [sxS, sxF, sxN, sevalprocAttr, ne_eq, decide_true, decide_false]
              refine LoopW.up Tok (fun k : Nat => [(15, (.v (.int .i64 k)))]) (fun k => []) (fun k => [(0, ((grid cn q (hvA cn l)) ++ gridRow k (hvA cn l) q).map eC), (1, ((grid cn q (hvB true cn rn l)) ++ gridRow k (hvB true cn rn l) q).map eC)]) (fun k => []) (fun k => k ≤ cn) (fun k => cn - k) (0) (by simp only [sxS, sxL, sxF, encs, sxN, sevalprocAttr, ne_eq, decide_true, decide_false] <;> (try simp) <;> (try omega)) ?_ ?_
              · omega
              rintro k hk1
              have hlen := cell_lt (rows := rn) (cols := cn) hq3 (c := 0) (by omega)
              simp only [↓sxD, ↓sxP0, sxP1, sxF, sxA, sxS, sxK, encs, tys, sxN, sevalprocAttr, ne_eq, decide_true, decide_false]
              refine BrW.dec (fun hlt2 => ?_) (fun hlt2 => ?_)
              · have hk2 : k < cn := by omega
                have hk3 : k < cn := by omega
                have hqk := cell_lt hq3 hk3
                have hqk2 := cell_lt hq2 hk2
                have hsz : (rn / 2) * cn ≤ 8 * 8 := Nat.mul_le_mul (by omega) (by omega)
                have i1 := twGet zC hlr hq3 hk3 (j := (q : Int) * cn + k) (by push_cast; rfl)
                have i2 := twGet zC hlr hq3 (show cn - 1 - k < cn by omega) (j := (q : Int) * cn + cn - 1 - k) (by push_cast; omega)
                have i3 := twGet zC hlr (show rn - 1 - q < rn by omega) hk3 (j := ((rn : Int) - 1 - q) * cn + k) (by rw [show ((rn : Int) - 1 - q) = ((rn - 1 - q : Nat) : Int) by omega]; push_cast; rfl)
                simp only [↓sxD, ↓sxP0, sxP1, sxF, sxA, sxS, sxK, encs, tys, sxN, sevalprocAttr, ne_eq, decide_true, decide_false]
                refine DrawW.plan Tok mixed (.q 0 <| .q 1 <| .q 2 <| .q 3 <| .q 4 <| .q 5 <| .q 6 <| .q 7 <| .q 8 <| .q 9 <| .q 10 <| .q 11 <| .q 12 <| .e 13 [2] <| .e 14 [] <| .q 15 <| .q 16 <| .e 17 [] <| .done) (by kernel_rfl) (by kernel_rfl) ?_
                simp only [↓sxD, ↓sxP0, sxP1, sxF, sxA, sxS, sxK, encs, tys, sxN, sevalprocAttr, ne_eq, decide_true, decide_false]
                repeat ((with_reducible refine Vc.go ?_ fun _ => ?_); (focus (first | omega | (simp only [InK]; omega) | (simp [InK]; done) | (simp [InK]; omega))); simp only [↓sxD, ↓sxP0, sxP1, sxF, sxA, sxS, sxK, encs, tys, sxN, sevalprocAttr, ne_eq, decide_true, decide_false])
                refine IxW.map _ i1.1 i1.2 ?_
                simp only [↓sxD, ↓sxP0, sxP1, sxF, sxA, sxS, sxK, encs, tys, sxN, sevalprocAttr, ne_eq, decide_true, decide_false]
                (with_reducible refine Vc.go ?_ fun hvx => ?_); focus (simp only [grid_length, gridRow_length, InK]; omega)
                clear hvx
                simp only [↓sxD, ↓sxP0, sxP1, sxF, sxA, sxS, sxK, encs, tys, sxN, sevalprocAttr, ne_eq, decide_true, decide_false]
                repeat ((with_reducible refine Vc.go ?_ fun _ => ?_); (focus (first | omega | (simp only [InK]; omega) | (simp [InK]; done) | (simp [InK]; omega))); simp only [↓sxD, ↓sxP0, sxP1, sxF, sxA, sxS, sxK, encs, tys, sxN, sevalprocAttr, ne_eq, decide_true, decide_false])
                refine IxW.map _ i2.1 i2.2 ?_
                simp only [↓sxD, ↓sxP0, sxP1, sxF, sxA, sxS, sxK, encs, tys, sxN, sevalprocAttr, ne_eq, decide_true, decide_false]
                have h4 := cell_lt (show rn - 1 - q < rn by omega) hk3
                have e4 : ((rn : Int) - 1 - q) * cn = (((rn - 1 - q) * cn : Nat) : Int) := by rw [show ((rn : Int) - 1 - q) = ((rn - 1 - q : Nat) : Int) by omega]; push_cast; rfl
                have hp3 := turns_ok hb i3.2
                repeat ((with_reducible refine Vc.go ?_ fun _ => ?_); (focus (first | omega | (simp only [InK]; omega) | (simp [InK]; done) | (simp [InK]; omega))); simp only [↓sxD, ↓sxP0, sxP1, sxF, sxA, sxS, sxK, encs, tys, sxN, sevalprocAttr, ne_eq, decide_true, decide_false])
                refine IxW.map _ i3.1 i3.2 ?_
                simp only [↓sxD, ↓sxP0, sxP1, sxF, sxA, sxS, sxK, encs, tys, sxN, sevalprocAttr, ne_eq, decide_true, decide_false]
                repeat ((with_reducible refine Vc.go ?_ fun _ => ?_); (focus (first | omega | (simp only [InK]; omega) | (simp [InK]; done) | (simp [InK]; omega))); simp only [↓sxD, ↓sxP0, sxP1, sxF, sxA, sxS, sxK, encs, tys, sxN, sevalprocAttr, ne_eq, decide_true, decide_false])
                (with_reducible refine Vc.go ?_ fun hvx => ?_); focus (simp only [grid_length, gridRow_length, InK]; omega)
                clear hvx
                simp only [↓sxD, ↓sxP0, sxP1, sxF, sxA, sxS, sxK, encs, tys, sxN, sevalprocAttr, ne_eq, decide_true, decide_false]
                repeat ((with_reducible refine Vc.go ?_ fun _ => ?_); (focus (first | omega | (simp only [InK]; omega) | (simp [InK]; done) | (simp [InK]; omega))); simp only [↓sxD, ↓sxP0, sxP1, sxF, sxA, sxS, sxK, encs, tys, sxN, sevalprocAttr, ne_eq, decide_true, decide_false])
                refine ⟨k + 1, StLe.auto (by simp only [sxS, sxL, sxF, encs, sxN, sevalprocAttr, ne_eq, decide_true, decide_false] <;> (try simp [gridRow_succ, hvA, hvB, swp, swd, encs]) <;> (try omega)), ?_, ?_⟩
                · omega
                · omega
              · simp only [↓sxD, ↓sxP0, sxP1, sxF, sxA, sxS, sxK, encs, tys, sxN, sevalprocAttr, ne_eq, decide_true, decide_false]
                have : k = cn := by omega
                subst this
                repeat ((with_reducible refine Vc.go ?_ fun _ => ?_); (focus (first | omega | (simp only [InK]; omega) | (simp [InK]; done) | (simp [InK]; omega))); simp only [↓sxD, ↓sxP0, sxP1, sxF, sxA, sxS, sxK, encs, tys, sxN, sevalprocAttr, ne_eq, decide_true, decide_false])
                refine ⟨q + 1, StLe.auto (by simp only [sxS, sxL, sxF, encs, sxN, sevalprocAttr, ne_eq, decide_true, decide_false] <;> (try simp [grid_succ, encs]) <;> (try omega)), ?_, ?_⟩
                · omega
                · omega
            · simp only [↓sxD, ↓sxP0, sxP1, sxF, sxA, sxS, sxK, encs, tys, sxN, sevalprocAttr, ne_eq, decide_true, decide_false]
              have : q = (rn / 2) := by omega
              subst this
              exact EndW.fn (by simp only [sxL, encs, kpLL_map, sxN, sevalprocAttr, ne_eq, decide_true, decide_false] <;> (try simp [halvesS, he0, hln0, hb, hod2, hvC, hvR]) <;> (try omega)) (by simp only [sxL, encs, kpLL_map, sxN, sevalprocAttr, ne_eq, decide_true, decide_false] <;> (try simp) <;> (try omega))
end Go.Proofs.Ytfpkpokkgbobmaa
