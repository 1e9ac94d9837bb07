/-
  Chapter 6, walks: halves of a sheet (the program).
-/
import Derived.Test.YtfpkpokkgbobmaaVW21
namespace Go.Proofs.Ytfpkpokkgbobmaa
open Go Go.Vx
set_option linter.unusedSimpArgs false
set_option maxRecDepth 20000
theorem indexCells_s (b : Bool) (f : Nat) (p : Cell → Bool) (l : List Cell) (hl : l.length ≤ 1000000000) (hof : ∀ x : Cell, Ctr Try.prog f [.agg [(.v (.int .i64 x.front)), (.v (.int .i64 x.fturn)), (.v (.int .i64 x.back)), (.v (.int .i64 x.bturn))]] (fun rr => rr = ⟨(.v (.bool (p x))), []⟩)) : Ctr Try.prog 96 [.sl b 4 (l.map eC), .clo f []] (fun rr => rr = ⟨(.v (.int .i64 (ixS p l))), []⟩) := by
  refine Ctr.of (rs := [.tmp 4]) Tok true Try.func96 rfl rfl rfl rfl (by simp [ofDL]) (fun w0 kp => ?_)
  simp only [↓sxD, ↓sxP0, sxP1, sxF, sxA, sxS, sxK, encs, tys, sxN, sevalprocAttr, ne_eq, decide_true, decide_false]
  refine LoopW.comp [0, 1, 7, 8] (by simp only [sxS, sxL, sxF, encs, sxN, sevalprocAttr, ne_eq, decide_true, decide_false] <;> (try simp) <;> (try omega)) ?_
  simp only [sxS, sxF, sxN, sevalprocAttr, ne_eq, decide_true, decide_false]
  refine LoopW.up Tok (fun k : Nat => [(8, (.v (.int .i64 k)))]) (fun k => []) (fun k => []) (fun k => []) (fun k => k ≤ l.length ∧ ∀ x ∈ l.take k, p x = false) (fun k => l.length - k) (0) (by simp only [sxS, sxL, sxF, encs, sxN, sevalprocAttr, ne_eq, decide_true, decide_false] <;> (try simp) <;> (try omega)) ?_ ?_
  · exact ⟨by omega, by simp⟩
  rintro k ⟨hk, hp⟩
  simp only [↓sxD, ↓sxP0, sxP1, sxF, sxA, sxS, sxK, encs, tys, sxN, sevalprocAttr, ne_eq, decide_true, decide_false]
  refine BrW.dec (fun hlt => ?_) (fun hlt => ?_)
  · simp only [↓sxD, ↓sxP0, sxP1, sxF, sxA, sxS, sxK, encs, tys, sxN, sevalprocAttr, ne_eq, decide_true, decide_false]
    have hk2 : k < l.length := by omega
    refine IxW.nat hk2 ?_
    simp only [↓sxD, ↓sxP0, sxP1, sxF, sxA, sxS, sxK, encs, tys, sxN, sevalprocAttr, ne_eq, decide_true, decide_false]
    refine CallI.fn (hof l[k]) (by simp only [sxA, sxL, sxF, encs, sxN, sevalprocAttr, ne_eq, decide_true, decide_false] <;> (try simp)) ?_
    simp only [↓sxD, ↓sxP0, sxP1, sxF, sxA, sxS, sxK, encs, tys, sxN, sevalprocAttr, ne_eq, decide_true, decide_false]
    refine BrW.of (fun hb => ?_) (fun hb => ?_)
    · simp only [↓sxD, ↓sxP0, sxP1, sxF, sxA, sxS, sxK, encs, tys, sxN, sevalprocAttr, ne_eq, decide_true, decide_false]
      exact EndW.fn (by simp only [sxL, encs, kpLL_map, sxN, sevalprocAttr, ne_eq, decide_true, decide_false] <;> (try simp [ixS_at hk2 hp hb]) <;> (try omega)) (by simp only [sxL, encs, kpLL_map, sxN, sevalprocAttr, ne_eq, decide_true, decide_false] <;> (try simp) <;> (try omega))
    · simp only [↓sxD, ↓sxP0, sxP1, sxF, sxA, sxS, sxK, encs, tys, sxN, sevalprocAttr, ne_eq, decide_true, decide_false]
      (with_reducible refine Vc.go ?_ fun _ => ?_); focus (first | omega | (simp only [InK]; omega) | (simp [InK]; done) | (simp [InK]; omega))
      simp only [↓sxD, ↓sxP0, sxP1, sxF, sxA, sxS, sxK, encs, tys, sxN, sevalprocAttr, ne_eq, decide_true, decide_false]
      refine ⟨k + 1, StLe.auto (by simp only [sxS, sxL, sxF, encs, sxN, sevalprocAttr, ne_eq, decide_true, decide_false] <;> (try simp) <;> (try omega)), ?_, ?_⟩
      · refine ⟨hk2, fun x hx => ?_⟩
        rw [List.take_succ_eq_append_getElem hk2, List.mem_append, List.mem_singleton] at hx
        rcases hx with hx | rfl
        · exact hp x hx
        · exact hb
      · omega
  · simp only [↓sxD, ↓sxP0, sxP1, sxF, sxA, sxS, sxK, encs, tys, sxN, sevalprocAttr, ne_eq, decide_true, decide_false]
    have hke : k = l.length := by omega
    subst hke
    rw [List.take_length] at hp
    exact EndW.fn (by simp only [sxL, encs, kpLL_map, sxN, sevalprocAttr, ne_eq, decide_true, decide_false] <;> (try simp [ixS_no hp]) <;> (try omega)) (by simp only [sxL, encs, kpLL_map, sxN, sevalprocAttr, ne_eq, decide_true, decide_false] <;> (try simp) <;> (try omega))
theorem containsCells_s (b : Bool) (f : Nat) (p : Cell → Bool) (l : List Cell) (hl : l.length ≤ 1000000000) (hof : ∀ x : Cell, Ctr Try.prog f [.agg [(.v (.int .i64 x.front)), (.v (.int .i64 x.fturn)), (.v (.int .i64 x.back)), (.v (.int .i64 x.bturn))]] (fun rr => rr = ⟨(.v (.bool (p x))), []⟩)) : Ctr Try.prog 82 [.sl b 4 (l.map eC), .clo f []] (fun rr => rr = ⟨(.v (.bool (l.any p))), []⟩) := by
  refine Ctr.of (rs := [.tmp 4]) Tok true Try.func82 rfl rfl rfl rfl (by simp [ofDL]) (fun w0 kp => ?_)
  simp only [↓sxD, ↓sxP0, sxP1, sxF, sxA, sxS, sxK, encs, tys, sxN, sevalprocAttr, ne_eq, decide_true, decide_false]
  refine CallI.fn (indexCells_s b f p l hl hof) (by simp only [sxA, sxL, sxF, encs, sxN, sevalprocAttr, ne_eq, decide_true, decide_false] <;> (try simp)) ?_
  simp only [↓sxD, ↓sxP0, sxP1, sxF, sxA, sxS, sxK, encs, tys, sxN, sevalprocAttr, ne_eq, decide_true, decide_false]
  exact EndW.fn (by simp only [sxL, encs, kpLL_map, sxN, sevalprocAttr, ne_eq, decide_true, decide_false] <;> (try simp [ixS_any]) <;> (try omega)) (by simp only [sxL, encs, kpLL_map, sxN, sevalprocAttr, ne_eq, decide_true, decide_false] <;> (try simp) <;> (try omega))
def ceOk (x : Cell) : Bool := pgOk ⟨x.front, x.fturn⟩ && pgOk ⟨x.back, x.bturn⟩
theorem halves1_s (f ft k kt : Int) : Ctr Try.prog 83 [.agg [(.v (.int .i64 f)), (.v (.int .i64 ft)), (.v (.int .i64 k)), (.v (.int .i64 kt))]] (fun rr => rr = ⟨(.v (.bool (!(ceOk ⟨f, ft, k, kt⟩)))), []⟩) := by
  refine Ctr.of (rs := [.tmp 2]) Tok true Try.func83 rfl rfl rfl rfl (by simp [ofDL]) (fun w0 kp => ?_)
  simp only [↓sxD, ↓sxP0, sxP1, sxF, sxA, sxS, sxK, encs, tys, sxN, sevalprocAttr, ne_eq, decide_true, decide_false]
  refine CallI.fn (isPage_s f ft) (by simp only [sxA, sxL, sxF, encs, sxN, sevalprocAttr, ne_eq, decide_true, decide_false] <;> (try simp)) ?_
  simp only [↓sxD, ↓sxP0, sxP1, sxF, sxA, sxS, sxK, encs, tys, sxN, sevalprocAttr, ne_eq, decide_true, decide_false]
  refine BrW.dec (fun h => ?_) (fun h => ?_)
  · simp only [↓sxD, ↓sxP0, sxP1, sxF, sxA, sxS, sxK, encs, tys, sxN, sevalprocAttr, ne_eq, decide_true, decide_false]
    refine CallI.fn (isPage_s k kt) (by simp only [sxA, sxL, sxF, encs, sxN, sevalprocAttr, ne_eq, decide_true, decide_false] <;> (try simp)) ?_
    simp only [↓sxD, ↓sxP0, sxP1, sxF, sxA, sxS, sxK, encs, tys, sxN, sevalprocAttr, ne_eq, decide_true, decide_false]
    exact EndW.fn (by simp only [sxL, encs, kpLL_map, sxN, sevalprocAttr, ne_eq, decide_true, decide_false] <;> (try simp [ceOk, pgOk, h]) <;> (try omega)) (by simp only [sxL, encs, kpLL_map, sxN, sevalprocAttr, ne_eq, decide_true, decide_false] <;> (try simp) <;> (try omega))
  · simp only [↓sxD, ↓sxP0, sxP1, sxF, sxA, sxS, sxK, encs, tys, sxN, sevalprocAttr, ne_eq, decide_true, decide_false]
    exact EndW.fn (by simp only [sxL, encs, kpLL_map, sxN, sevalprocAttr, ne_eq, decide_true, decide_false] <;> (try simp [ceOk, pgOk, h]) <;> (try omega)) (by simp only [sxL, encs, kpLL_map, sxN, sevalprocAttr, ne_eq, decide_true, decide_false] <;> (try simp) <;> (try omega))
def swp (x : Cell) : Cell := ⟨x.back, x.bturn, x.front, x.fturn⟩
def swd (x : Cell) : Cell := ⟨x.back, 1 - x.bturn, x.front, 1 - x.fturn⟩
def hvA (c : Nat) (l : List Cell) (k q : Nat) : Cell := l.getD (q * c + k) zC
def hvB (d : Bool) (c r : Nat) (l : List Cell) (k q : Nat) : Cell := if d then swd (l.getD ((r - 1 - q) * c + k) zC) else swp (l.getD (q * c + (c - 1 - k)) zC)
def hvC (d : Bool) (c : Nat) : Nat := if d then c else c / 2
def hvR (d : Bool) (r : Nat) : Nat := if d then r / 2 else r
def hvOdd (d : Bool) (c r : Nat) : Bool := decide ((if d then r else c) % 2 ≠ 0)
/-- columns, rows, both halves, the error. -/
def halvesS (d : Bool) (c r : Int) (l : List Cell) : Int × Int × List Cell × List Cell × Int :=
  if sheetErr c r ≠ 0 then (0, 0, [], [], sheetErr c r) else if ¬ (l.length : Int) = c * r then (0, 0, [], [], 10) else if l.any (fun x => !ceOk x) = true then (0, 0, [], [], 2) else
    if hvOdd d c.toNat r.toNat = true then (0, 0, [], [], 25) else (hvC d c.toNat, hvR d r.toNat, grid (hvC d c.toNat) (hvR d r.toNat) (hvA c.toNat l), grid (hvC d c.toNat) (hvR d r.toNat) (hvB d c.toNat r.toNat l), 0)
theorem turns_ok {l : List Cell} {i : Nat} {x : Cell} (h : l.any (fun x => !ceOk x) = false) (hi : l[i]? = some x) : 0 ≤ x.fturn ∧ x.fturn ≤ 1 ∧ 0 ≤ x.bturn ∧ x.bturn ≤ 1 := by
  have := List.any_eq_false.1 h _ (List.mem_of_getElem? hi)
  simp only [ceOk, pgOk, Bool.not_eq_true, Bool.not_eq_false', Bool.and_eq_true, decide_eq_true_eq] at this
  omega
theorem quo2 (n : Nat) : (n : Int).tdiv 2 = ((n / 2 : Nat) : Int) := rfl
theorem rem2 (n : Nat) : (n : Int).tmod 2 = ((n % 2 : Nat) : Int) := rfl
set_option maxHeartbeats 1000000 in
theorem halvesR_s (b : Bool) (c r : Int) (l : List Cell) : Ctr Try.prog 58 [.agg [(.v (.int .i64 c)), (.v (.int .i64 r)), .sl b 4 (l.map eC)], (.v (.bool (false)))] (fun rr => rr = ⟨.tup [.agg [(.v (.int .i64 ((halvesS false c r l).1))), (.v (.int .i64 ((halvesS false c r l).2.1))), .sl true 4 ((halvesS false c r l).2.2.1.map eC), (.v (.int .i64 ((halvesS false c r l).1))), (.v (.int .i64 ((halvesS false c r l).2.1))), .sl true 4 ((halvesS false c r l).2.2.2.1.map eC)], (.v (.int .i64 ((halvesS false c r l).2.2.2.2)))], []⟩) := by
  refine Ctr.of (rs := [.cell 4 99, .tmp 5]) Tok true Try.func58 rfl rfl rfl rfl (by simp [ofDL]) (fun w0 kp => ?_)
  simp only [↓sxD, ↓sxP0, sxP1, sxF, sxA, sxS, sxK, encs, tys, sxN, sevalprocAttr, ne_eq, decide_true, decide_false]
  refine CallI.fn (checkSheet_s c r) (by simp only [sxA, sxL, sxF, encs, sxN, sevalprocAttr, ne_eq, decide_true, decide_false] <;> (try simp)) ?_
  simp only [↓sxD, ↓sxP0, sxP1, sxF, sxA, sxS, sxK, encs, tys, sxN, sevalprocAttr, ne_eq, decide_true, decide_false]
  refine BrW.dec (fun he => ?_) (fun he => ?_)
  · simp only [↓sxD, ↓sxP0, sxP1, sxF, sxA, sxS, sxK, encs, tys, sxN, sevalprocAttr, ne_eq, decide_true, decide_false]
    exact EndW.fn (by simp only [sxL, encs, kpLL_map, sxN, sevalprocAttr, ne_eq, decide_true, decide_false] <;> (try simp [halvesS, he]) <;> (try omega)) (by simp only [sxL, encs, kpLL_map, sxN, sevalprocAttr, ne_eq, decide_true, decide_false] <;> (try simp) <;> (try omega))
  · have he0 : sheetErr c r = 0 := Decidable.not_not.1 he
    have hsh := sheet_ok he0
    have b1 : c * r ≤ 8 * 8 := Int.mul_le_mul hsh.2.1 hsh.2.2.2 (by omega) (by omega)
    have b2 : 0 ≤ c * r := Int.mul_nonneg (by omega) (by omega)
    obtain ⟨cn, rfl⟩ : ∃ cn : Nat, c = cn := ⟨c.toNat, by omega⟩
    obtain ⟨rn, rfl⟩ : ∃ rn : Nat, r = rn := ⟨r.toNat, by omega⟩
    simp only [↓sxD, ↓sxP0, sxP1, sxF, sxA, sxS, sxK, encs, tys, sxN, sevalprocAttr, ne_eq, decide_true, decide_false]
    refine DrawW.plan Tok mixed (.q 0 <| .q 1 <| .q 2 <| .q 3 <| .q 4 <| .q 5 <| .q 6 <| .done) (by kernel_rfl) (by kernel_rfl) ?_
    simp only [↓sxD, ↓sxP0, sxP1, sxF, sxA, sxS, sxK, encs, tys, sxN, sevalprocAttr, ne_eq, decide_true, decide_false]
    rw [quo2]
    (with_reducible refine Vc.go ?_ fun _ => ?_); focus (first | omega | (simp only [InK]; omega) | (simp [InK]; done) | (simp [InK]; omega))
    simp only [↓sxD, ↓sxP0, sxP1, sxF, sxA, sxS, sxK, encs, tys, sxN, sevalprocAttr, ne_eq, decide_true, decide_false]
    rw [rem2]
    repeat ((with_reducible refine Vc.go ?_ fun _ => ?_); (focus (first | omega | (simp only [InK]; omega) | (simp [InK]; done) | (simp [InK]; omega))); simp only [↓sxD, ↓sxP0, sxP1, sxF, sxA, sxS, sxK, encs, tys, sxN, sevalprocAttr, ne_eq, decide_true, decide_false])
    refine BrW.dec (fun hln => ?_) (fun hln => ?_)
    · simp only [↓sxD, ↓sxP0, sxP1, sxF, sxA, sxS, sxK, encs, tys, sxN, sevalprocAttr, ne_eq, decide_true, decide_false]
      exact EndW.fn (by simp only [sxL, encs, kpLL_map, sxN, sevalprocAttr, ne_eq, decide_true, decide_false] <;> (try simp [halvesS, he0, hln]) <;> (try omega)) (by simp only [sxL, encs, kpLL_map, sxN, sevalprocAttr, ne_eq, decide_true, decide_false] <;> (try simp) <;> (try omega))
    · simp only [↓sxD, ↓sxP0, sxP1, sxF, sxA, sxS, sxK, encs, tys, sxN, sevalprocAttr, ne_eq, decide_true, decide_false]
      have hln0 := Decidable.not_not.1 hln
      refine CallI.fn (containsCells_s b 83 (fun x => !(ceOk x)) l (by omega) (fun x => halves1_s x.front x.fturn x.back x.bturn)) (by simp only [sxA, sxL, sxF, encs, sxN, sevalprocAttr, ne_eq, decide_true, decide_false] <;> (try simp)) ?_
      simp only [↓sxD, ↓sxP0, sxP1, sxF, sxA, sxS, sxK, encs, tys, sxN, sevalprocAttr, ne_eq, decide_true, decide_false]
      refine BrW.of (fun hb => ?_) (fun hb => ?_)
      · simp only [↓sxD, ↓sxP0, sxP1, sxF, sxA, sxS, sxK, encs, tys, sxN, sevalprocAttr, ne_eq, decide_true, decide_false]
        exact EndW.fn (by simp only [sxL, encs, kpLL_map, sxN, sevalprocAttr, ne_eq, decide_true, decide_false] <;> (try simp [halvesS, he0, hln0, hb]) <;> (try omega)) (by simp only [sxL, encs, kpLL_map, sxN, sevalprocAttr, ne_eq, decide_true, decide_false] <;> (try simp) <;> (try omega))
      · simp only [↓sxD, ↓sxP0, sxP1, sxF, sxA, sxS, sxK, encs, tys, sxN, sevalprocAttr, ne_eq, decide_true, decide_false]
        have hlr : l.length = rn * cn := by
          have : (l.length : Int) = ((rn * cn : Nat) : Int) := by rw [hln0]; push_cast; exact Int.mul_comm _ _
          exact_mod_cast this
        refine BrW.dec (fun hod => ?_) (fun hod => ?_)
        · have hod2 : hvOdd false cn rn = true := by simp only [hvOdd, Bool.false_eq_true, if_false, if_true, decide_eq_true_eq]; omega
          simp only [↓sxD, ↓sxP0, sxP1, sxF, sxA, sxS, sxK, encs, tys, sxN, sevalprocAttr, ne_eq, decide_true, decide_false]
          exact EndW.fn (by simp only [sxL, encs, kpLL_map, sxN, sevalprocAttr, ne_eq, decide_true, decide_false] <;> (try simp [halvesS, he0, hln0, hb, hod2]) <;> (try omega)) (by simp only [sxL, encs, kpLL_map, sxN, sevalprocAttr, ne_eq, decide_true, decide_false] <;> (try simp) <;> (try omega))
        · have hod2 : hvOdd false cn rn = false := by simp only [hvOdd, Bool.false_eq_true, if_false, if_true, decide_eq_false_iff_not]; omega
          simp only [↓sxD, ↓sxP0, sxP1, sxF, sxA, sxS, sxK, encs, tys, sxN, sevalprocAttr, ne_eq, decide_true, decide_false]
          refine LoopW.comp [1, 2, 4, 8, 11, 70, 71] (by simp only [sxS, sxL, sxF, encs, sxN, sevalprocAttr, ne_eq, decide_true, decide_false] <;> (try simp) <;> (try omega)) ?_
          simp only [sxS, sxF, sxN, sevalprocAttr, ne_eq, decide_true, decide_false]
          refine LoopW.up Tok (fun q : Nat => [(71, (.v (.int .i64 q)))]) (fun q => [(3, [(.v (.int .i64 ((cn / 2)))), (.v (.int .i64 rn)), .row 0, (.v (.int .i64 ((cn / 2)))), (.v (.int .i64 rn)), .row 1])]) (fun q => []) (fun q => [.own 105 4 ((grid (cn / 2) q (hvA cn l)).map eC), .own 105 4 ((grid (cn / 2) q (hvB false cn rn l)).map eC)]) (fun q => q ≤ rn) (fun q => rn - q) (0) (by simp only [sxS, sxL, sxF, encs, sxN, sevalprocAttr, ne_eq, decide_true, decide_false] <;> (try simp) <;> (try omega)) ?_ ?_
          · omega
          rintro q hq1
          simp only [↓sxD, ↓sxP0, sxP1, sxF, sxA, sxS, sxK, encs, tys, sxN, sevalprocAttr, ne_eq, decide_true, decide_false]
          refine BrW.dec (fun hlt => ?_) (fun hlt => ?_)
          · simp only [↓sxD, ↓sxP0, sxP1, sxF, sxA, sxS, sxK, encs, tys, sxN, sevalprocAttr, ne_eq, decide_true, decide_false]
            have hq2 : q < rn := by omega
            have hq3 : q < rn := by omega
            refine LoopW.comp [1, 2, 4, 8, 11, 12, 70, 71, 74, 75] (by simp only [sxS, sxL, sxF, encs, sxN, sevalprocAttr, ne_eq, decide_true, decide_false] <;> (try simp) <;> (try omega)) ?_
            simp only [sxS, sxF, sxN, sevalprocAttr, ne_eq, decide_true, decide_false]
            refine LoopW.up Tok (fun k : Nat => [(75, (.v (.int .i64 k)))]) (fun k => []) (fun k => [(0, ((grid (cn / 2) q (hvA cn l)) ++ gridRow k (hvA cn l) q).map eC), (1, ((grid (cn / 2) q (hvB false cn rn l)) ++ gridRow k (hvB false cn rn l) q).map eC)]) (fun k => []) (fun k => k ≤ (cn / 2)) (fun k => (cn / 2) - k) (0) (by simp only [sxS, sxL, sxF, encs, sxN, sevalprocAttr, ne_eq, decide_true, decide_false] <;> (try simp) <;> (try omega)) ?_ ?_
            · omega
            rintro k hk1
            have hlen := cell_lt (rows := rn) (cols := cn) hq3 (c := 0) (by omega)
            simp only [↓sxD, ↓sxP0, sxP1, sxF, sxA, sxS, sxK, encs, tys, sxN, sevalprocAttr, ne_eq, decide_true, decide_false]
            refine BrW.dec (fun hlt2 => ?_) (fun hlt2 => ?_)
            · have hk2 : k < (cn / 2) := by omega
              have hk3 : k < cn := by omega
              have hqk := cell_lt hq3 hk3
              have hqk2 := cell_lt hq2 hk2
              have hsz : rn * (cn / 2) ≤ 8 * 8 := Nat.mul_le_mul (by omega) (by omega)
              have i1 := twGet zC hlr hq3 hk3 (j := (q : Int) * cn + k) (by push_cast; rfl)
              have i2 := twGet zC hlr hq3 (show cn - 1 - k < cn by omega) (j := (q : Int) * cn + cn - 1 - k) (by push_cast; omega)
              have i3 := twGet zC hlr (show rn - 1 - q < rn by omega) hk3 (j := ((rn : Int) - 1 - q) * cn + k) (by rw [show ((rn : Int) - 1 - q) = ((rn - 1 - q : Nat) : Int) by omega]; push_cast; rfl)
              simp only [↓sxD, ↓sxP0, sxP1, sxF, sxA, sxS, sxK, encs, tys, sxN, sevalprocAttr, ne_eq, decide_true, decide_false]
              refine DrawW.plan Tok mixed (.q 0 <| .q 1 <| .q 2 <| .q 3 <| .q 4 <| .q 5 <| .q 6 <| .q 7 <| .q 8 <| .q 9 <| .q 10 <| .q 11 <| .q 12 <| .e 13 [2] <| .e 14 [] <| .q 15 <| .q 16 <| .e 17 [] <| .done) (by kernel_rfl) (by kernel_rfl) ?_
              simp only [↓sxD, ↓sxP0, sxP1, sxF, sxA, sxS, sxK, encs, tys, sxN, sevalprocAttr, ne_eq, decide_true, decide_false]
              repeat ((with_reducible refine Vc.go ?_ fun _ => ?_); (focus (first | omega | (simp only [InK]; omega) | (simp [InK]; done) | (simp [InK]; omega))); simp only [↓sxD, ↓sxP0, sxP1, sxF, sxA, sxS, sxK, encs, tys, sxN, sevalprocAttr, ne_eq, decide_true, decide_false])
              refine IxW.map _ i1.1 i1.2 ?_
              simp only [↓sxD, ↓sxP0, sxP1, sxF, sxA, sxS, sxK, encs, tys, sxN, sevalprocAttr, ne_eq, decide_true, decide_false]
              (with_reducible refine Vc.go ?_ fun hvx => ?_); focus (simp only [grid_length, gridRow_length, InK]; omega)
              clear hvx
              simp only [↓sxD, ↓sxP0, sxP1, sxF, sxA, sxS, sxK, encs, tys, sxN, sevalprocAttr, ne_eq, decide_true, decide_false]
              repeat ((with_reducible refine Vc.go ?_ fun _ => ?_); (focus (first | omega | (simp only [InK]; omega) | (simp [InK]; done) | (simp [InK]; omega))); simp only [↓sxD, ↓sxP0, sxP1, sxF, sxA, sxS, sxK, encs, tys, sxN, sevalprocAttr, ne_eq, decide_true, decide_false])
              refine IxW.map _ i2.1 i2.2 ?_
              simp only [↓sxD, ↓sxP0, sxP1, sxF, sxA, sxS, sxK, encs, tys, sxN, sevalprocAttr, ne_eq, decide_true, decide_false]
              repeat ((with_reducible refine Vc.go ?_ fun _ => ?_); (focus (first | omega | (simp only [InK]; omega) | (simp [InK]; done) | (simp [InK]; omega))); simp only [↓sxD, ↓sxP0, sxP1, sxF, sxA, sxS, sxK, encs, tys, sxN, sevalprocAttr, ne_eq, decide_true, decide_false])
              (with_reducible refine Vc.go ?_ fun hvx => ?_); focus (simp only [grid_length, gridRow_length, InK]; omega)
              clear hvx
              simp only [↓sxD, ↓sxP0, sxP1, sxF, sxA, sxS, sxK, encs, tys, sxN, sevalprocAttr, ne_eq, decide_true, decide_false]
              repeat ((with_reducible refine Vc.go ?_ fun _ => ?_); (focus (first | omega | (simp only [InK]; omega) | (simp [InK]; done) | (simp [InK]; omega))); simp only [↓sxD, ↓sxP0, sxP1, sxF, sxA, sxS, sxK, encs, tys, sxN, sevalprocAttr, ne_eq, decide_true, decide_false])
              refine ⟨k + 1, StLe.auto (by simp only [sxS, sxL, sxF, encs, sxN, sevalprocAttr, ne_eq, decide_true, decide_false] <;> (try simp [gridRow_succ, hvA, hvB, swp, swd, encs]) <;> (try omega)), ?_, ?_⟩
              · omega
              · omega
            · simp only [↓sxD, ↓sxP0, sxP1, sxF, sxA, sxS, sxK, encs, tys, sxN, sevalprocAttr, ne_eq, decide_true, decide_false]
              have : k = (cn / 2) := by omega
              subst this
              repeat ((with_reducible refine Vc.go ?_ fun _ => ?_); (focus (first | omega | (simp only [InK]; omega) | (simp [InK]; done) | (simp [InK]; omega))); simp only [↓sxD, ↓sxP0, sxP1, sxF, sxA, sxS, sxK, encs, tys, sxN, sevalprocAttr, ne_eq, decide_true, decide_false])
              refine ⟨q + 1, StLe.auto (by simp only [sxS, sxL, sxF, encs, sxN, sevalprocAttr, ne_eq, decide_true, decide_false] <;> (try simp [grid_succ, encs]) <;> (try omega)), ?_, ?_⟩
              · omega
              · omega
          · simp only [↓sxD, ↓sxP0, sxP1, sxF, sxA, sxS, sxK, encs, tys, sxN, sevalprocAttr, ne_eq, decide_true, decide_false]
            have : q = rn := by omega
            subst this
            exact EndW.fn (by simp only [sxL, encs, kpLL_map, sxN, sevalprocAttr, ne_eq, decide_true, decide_false] <;> (try simp [halvesS, he0, hln0, hb, hod2, hvC, hvR]) <;> (try omega)) (by simp only [sxL, encs, kpLL_map, sxN, sevalprocAttr, ne_eq, decide_true, decide_false] <;> (try simp) <;> (try omega))
set_option maxHeartbeats 1000000 in
theorem halvesD_s (b : Bool) (c r : Int) (l : List Cell) : Ctr Try.prog 58 [.agg [(.v (.int .i64 c)), (.v (.int .i64 r)), .sl b 4 (l.map eC)], (.v (.bool (true)))] (fun rr => rr = ⟨.tup [.agg [(.v (.int .i64 ((halvesS true c r l).1))), (.v (.int .i64 ((halvesS true c r l).2.1))), .sl true 4 ((halvesS true c r l).2.2.1.map eC), (.v (.int .i64 ((halvesS true c r l).1))), (.v (.int .i64 ((halvesS true c r l).2.1))), .sl true 4 ((halvesS true c r l).2.2.2.1.map eC)], (.v (.int .i64 ((halvesS true c r l).2.2.2.2)))], []⟩) := by
  refine Ctr.of (rs := [.cell 4 99, .tmp 5]) Tok true Try.func58 rfl rfl rfl rfl (by simp [ofDL]) (fun w0 kp => ?_)
  simp only [↓sxD, ↓sxP0, sxP1, sxF, sxA, sxS, sxK, encs, tys, sxN, sevalprocAttr, ne_eq, decide_true, decide_false]
  refine CallI.fn (checkSheet_s c r) (by simp only [sxA, sxL, sxF, encs, sxN, sevalprocAttr, ne_eq, decide_true, decide_false] <;> (try simp)) ?_
  simp only [↓sxD, ↓sxP0, sxP1, sxF, sxA, sxS, sxK, encs, tys, sxN, sevalprocAttr, ne_eq, decide_true, decide_false]
  refine BrW.dec (fun he => ?_) (fun he => ?_)
  · simp only [↓sxD, ↓sxP0, sxP1, sxF, sxA, sxS, sxK, encs, tys, sxN, sevalprocAttr, ne_eq, decide_true, decide_false]
    exact EndW.fn (by simp only [sxL, encs, kpLL_map, sxN, sevalprocAttr, ne_eq, decide_true, decide_false] <;> (try simp [halvesS, he]) <;> (try omega)) (by simp only [sxL, encs, kpLL_map, sxN, sevalprocAttr, ne_eq, decide_true, decide_false] <;> (try simp) <;> (try omega))
  · have he0 : sheetErr c r = 0 := Decidable.not_not.1 he
    have hsh := sheet_ok he0
    have b1 : c * r ≤ 8 * 8 := Int.mul_le_mul hsh.2.1 hsh.2.2.2 (by omega) (by omega)
    have b2 : 0 ≤ c * r := Int.mul_nonneg (by omega) (by omega)
    obtain ⟨cn, rfl⟩ : ∃ cn : Nat, c = cn := ⟨c.toNat, by omega⟩
    obtain ⟨rn, rfl⟩ : ∃ rn : Nat, r = rn := ⟨r.toNat, by omega⟩
    simp only [↓sxD, ↓sxP0, sxP1, sxF, sxA, sxS, sxK, encs, tys, sxN, sevalprocAttr, ne_eq, decide_true, decide_false]
    refine DrawW.plan Tok mixed (.q 0 <| .q 1 <| .q 2 <| .q 3 <| .q 4 <| .q 5 <| .q 6 <| .done) (by kernel_rfl) (by kernel_rfl) ?_
    simp only [↓sxD, ↓sxP0, sxP1, sxF, sxA, sxS, sxK, encs, tys, sxN, sevalprocAttr, ne_eq, decide_true, decide_false]
    rw [quo2]
    (with_reducible refine Vc.go ?_ fun _ => ?_); focus (first | omega | (simp only [InK]; omega) | (simp [InK]; done) | (simp [InK]; omega))
    simp only [↓sxD, ↓sxP0, sxP1, sxF, sxA, sxS, sxK, encs, tys, sxN, sevalprocAttr, ne_eq, decide_true, decide_false]
    rw [rem2]
    repeat ((with_reducible refine Vc.go ?_ fun _ => ?_); (focus (first | omega | (simp only [InK]; omega) | (simp [InK]; done) | (simp [InK]; omega))); simp only [↓sxD, ↓sxP0, sxP1, sxF, sxA, sxS, sxK, encs, tys, sxN, sevalprocAttr, ne_eq, decide_true, decide_false])
    refine DrawW.plan Tok mixed (.q 0 <| .q 1 <| .q 2 <| .q 3 <| .q 4 <| .q 5 <| .q 6 <| .q 7 <| .q 8 <| .q 9 <| .q 10 <| .q 11 <| .done) (by kernel_rfl) (by kernel_rfl) ?_
    simp only [↓sxD, ↓sxP0, sxP1, sxF, sxA, sxS, sxK, encs, tys, sxN, sevalprocAttr, ne_eq, decide_true, decide_false]
    rw [quo2]
    (with_reducible refine Vc.go ?_ fun _ => ?_); focus (first | omega | (simp only [InK]; omega) | (simp [InK]; done) | (simp [InK]; omega))
    simp only [↓sxD, ↓sxP0, sxP1, sxF, sxA, sxS, sxK, encs, tys, sxN, sevalprocAttr, ne_eq, decide_true, decide_false]
    rw [rem2]
    repeat ((with_reducible refine Vc.go ?_ fun _ => ?_); (focus (first | omega | (simp only [InK]; omega) | (simp [InK]; done) | (simp [InK]; omega))); simp only [↓sxD, ↓sxP0, sxP1, sxF, sxA, sxS, sxK, encs, tys, sxN, sevalprocAttr, ne_eq, decide_true, decide_false])
    refine BrW.dec (fun hln => ?_) (fun hln => ?_)
    · simp only [↓sxD, ↓sxP0, sxP1, sxF, sxA, sxS, sxK, encs, tys, sxN, sevalprocAttr, ne_eq, decide_true, decide_false]
      exact EndW.fn (by simp only [sxL, encs, kpLL_map, sxN, sevalprocAttr, ne_eq, decide_true, decide_false] <;> (try simp [halvesS, he0, hln]) <;> (try omega)) (by simp only [sxL, encs, kpLL_map, sxN, sevalprocAttr, ne_eq, decide_true, decide_false] <;> (try simp) <;> (try omega))
    · simp only [↓sxD, ↓sxP0, sxP1, sxF, sxA, sxS, sxK, encs, tys, sxN, sevalprocAttr, ne_eq, decide_true, decide_false]
      have hln0 := Decidable.not_not.1 hln
      refine CallI.fn (containsCells_s b 83 (fun x => !(ceOk x)) l (by omega) (fun x => halves1_s x.front x.fturn x.back x.bturn)) (by simp only [sxA, sxL, sxF, encs, sxN, sevalprocAttr, ne_eq, decide_true, decide_false] <;> (try simp)) ?_
      simp only [↓sxD, ↓sxP0, sxP1, sxF, sxA, sxS, sxK, encs, tys, sxN, sevalprocAttr, ne_eq, decide_true, decide_false]
      refine BrW.of (fun hb => ?_) (fun hb => ?_)
      · simp only [↓sxD, ↓sxP0, sxP1, sxF, sxA, sxS, sxK, encs, tys, sxN, sevalprocAttr, ne_eq, decide_true, decide_false]
        exact EndW.fn (by simp only [sxL, encs, kpLL_map, sxN, sevalprocAttr, ne_eq, decide_true, decide_false] <;> (try simp [halvesS, he0, hln0, hb]) <;> (try omega)) (by simp only [sxL, encs, kpLL_map, sxN, sevalprocAttr, ne_eq, decide_true, decide_false] <;> (try simp) <;> (try omega))
      · simp only [↓sxD, ↓sxP0, sxP1, sxF, sxA, sxS, sxK, encs, tys, sxN, sevalprocAttr, ne_eq, decide_true, decide_false]
        have hlr : l.length = rn * cn := by
          have : (l.length : Int) = ((rn * cn : Nat) : Int) := by rw [hln0]; push_cast; exact Int.mul_comm _ _
          exact_mod_cast this
        refine BrW.dec (fun hod => ?_) (fun hod => ?_)
        · have hod2 : hvOdd true cn rn = true := by simp only [hvOdd, Bool.false_eq_true, if_false, if_true, decide_eq_true_eq]; omega
          simp only [↓sxD, ↓sxP0, sxP1, sxF, sxA, sxS, sxK, encs, tys, sxN, sevalprocAttr, ne_eq, decide_true, decide_false]
          exact EndW.fn (by simp only [sxL, encs, kpLL_map, sxN, sevalprocAttr, ne_eq, decide_true, decide_false] <;> (try simp [halvesS, he0, hln0, hb, hod2]) <;> (try omega)) (by simp only [sxL, encs, kpLL_map, sxN, sevalprocAttr, ne_eq, decide_true, decide_false] <;> (try simp) <;> (try omega))
        · have hod2 : hvOdd true cn rn = false := by simp only [hvOdd, Bool.false_eq_true, if_false, if_true, decide_eq_false_iff_not]; omega
          simp only [↓sxD, ↓sxP0, sxP1, sxF, sxA, sxS, sxK, encs, tys, sxN, sevalprocAttr, ne_eq, decide_true, decide_false]
          refine LoopW.comp [1, 2, 4, 8, 11, 70, 71] (by simp only [sxS, sxL, sxF, encs, sxN, sevalprocAttr, ne_eq, decide_true, decide_false] <;> (try simp) <;> (try omega)) ?_
          simp only [sxS, sxF, sxN, sevalprocAttr, ne_eq, decide_true, decide_false]
          refine LoopW.up Tok (fun q : Nat => [(71, (.v (.int .i64 q)))]) (fun q => [(3, [(.v (.int .i64 cn)), (.v (.int .i64 ((rn / 2)))), .row 0, (.v (.int .i64 cn)), (.v (.int .i64 ((rn / 2)))), .row 1])]) (fun q => []) (fun q => [.own 105 4 ((grid cn q (hvA cn l)).map eC), .own 105 4 ((grid cn q (hvB true cn rn l)).map eC)]) (fun q => q ≤ (rn / 2)) (fun q => (rn / 2) - q) (0) (by simp only [sxS, sxL, sxF, encs, sxN, sevalprocAttr, ne_eq, decide_true, decide_false] <;> (try simp) <;> (try omega)) ?_ ?_
          · omega
          rintro q hq1
          simp only [↓sxD, ↓sxP0, sxP1, sxF, sxA, sxS, sxK, encs, tys, sxN, sevalprocAttr, ne_eq, decide_true, decide_false]
          refine BrW.dec (fun hlt => ?_) (fun hlt => ?_)
          · simp only [↓sxD, ↓sxP0, sxP1, sxF, sxA, sxS, sxK, encs, tys, sxN, sevalprocAttr, ne_eq, decide_true, decide_false]
            have hq2 : q < (rn / 2) := by omega
            have hq3 : q < rn := by omega
            refine LoopW.comp [1, 2, 4, 8, 11, 12, 70, 71, 74, 75] (by simp only [sxS, sxL, sxF, encs, sxN, sevalprocAttr, ne_eq, decide_true, decide_false] <;> (try simp) <;> (try omega)) ?_
            simp only [sxS, sxF, sxN, sevalprocAttr, ne_eq, decide_true, decide_false]
            refine LoopW.up Tok (fun k : Nat => [(75, (.v (.int .i64 k)))]) (fun k => []) (fun k => [(0, ((grid cn q (hvA cn l)) ++ gridRow k (hvA cn l) q).map eC), (1, ((grid cn q (hvB true cn rn l)) ++ gridRow k (hvB true cn rn l) q).map eC)]) (fun k => []) (fun k => k ≤ cn) (fun k => cn - k) (0) (by simp only [sxS, sxL, sxF, encs, sxN, sevalprocAttr, ne_eq, decide_true, decide_false] <;> (try simp) <;> (try omega)) ?_ ?_
            · omega
            rintro k hk1
            have hlen := cell_lt (rows := rn) (cols := cn) hq3 (c := 0) (by omega)
            simp only [↓sxD, ↓sxP0, sxP1, sxF, sxA, sxS, sxK, encs, tys, sxN, sevalprocAttr, ne_eq, decide_true, decide_false]
            refine BrW.dec (fun hlt2 => ?_) (fun hlt2 => ?_)
            · have hk2 : k < cn := by omega
              have hk3 : k < cn := by omega
              have hqk := cell_lt hq3 hk3
              have hqk2 := cell_lt hq2 hk2
              have hsz : (rn / 2) * cn ≤ 8 * 8 := Nat.mul_le_mul (by omega) (by omega)
              have i1 := twGet zC hlr hq3 hk3 (j := (q : Int) * cn + k) (by push_cast; rfl)
              have i2 := twGet zC hlr hq3 (show cn - 1 - k < cn by omega) (j := (q : Int) * cn + cn - 1 - k) (by push_cast; omega)
              have i3 := twGet zC hlr (show rn - 1 - q < rn by omega) hk3 (j := ((rn : Int) - 1 - q) * cn + k) (by rw [show ((rn : Int) - 1 - q) = ((rn - 1 - q : Nat) : Int) by omega]; push_cast; rfl)
              simp only [↓sxD, ↓sxP0, sxP1, sxF, sxA, sxS, sxK, encs, tys, sxN, sevalprocAttr, ne_eq, decide_true, decide_false]
              refine DrawW.plan Tok mixed (.q 0 <| .q 1 <| .q 2 <| .q 3 <| .q 4 <| .q 5 <| .q 6 <| .q 7 <| .q 8 <| .q 9 <| .q 10 <| .q 11 <| .q 12 <| .e 13 [2] <| .e 14 [] <| .q 15 <| .q 16 <| .e 17 [] <| .done) (by kernel_rfl) (by kernel_rfl) ?_
              simp only [↓sxD, ↓sxP0, sxP1, sxF, sxA, sxS, sxK, encs, tys, sxN, sevalprocAttr, ne_eq, decide_true, decide_false]
              repeat ((with_reducible refine Vc.go ?_ fun _ => ?_); (focus (first | omega | (simp only [InK]; omega) | (simp [InK]; done) | (simp [InK]; omega))); simp only [↓sxD, ↓sxP0, sxP1, sxF, sxA, sxS, sxK, encs, tys, sxN, sevalprocAttr, ne_eq, decide_true, decide_false])
              refine IxW.map _ i1.1 i1.2 ?_
              simp only [↓sxD, ↓sxP0, sxP1, sxF, sxA, sxS, sxK, encs, tys, sxN, sevalprocAttr, ne_eq, decide_true, decide_false]
              (with_reducible refine Vc.go ?_ fun hvx => ?_); focus (simp only [grid_length, gridRow_length, InK]; omega)
              clear hvx
              simp only [↓sxD, ↓sxP0, sxP1, sxF, sxA, sxS, sxK, encs, tys, sxN, sevalprocAttr, ne_eq, decide_true, decide_false]
              repeat ((with_reducible refine Vc.go ?_ fun _ => ?_); (focus (first | omega | (simp only [InK]; omega) | (simp [InK]; done) | (simp [InK]; omega))); simp only [↓sxD, ↓sxP0, sxP1, sxF, sxA, sxS, sxK, encs, tys, sxN, sevalprocAttr, ne_eq, decide_true, decide_false])
              refine IxW.map _ i2.1 i2.2 ?_
              simp only [↓sxD, ↓sxP0, sxP1, sxF, sxA, sxS, sxK, encs, tys, sxN, sevalprocAttr, ne_eq, decide_true, decide_false]
              have h4 := cell_lt (show rn - 1 - q < rn by omega) hk3
              have e4 : ((rn : Int) - 1 - q) * cn = (((rn - 1 - q) * cn : Nat) : Int) := by rw [show ((rn : Int) - 1 - q) = ((rn - 1 - q : Nat) : Int) by omega]; push_cast; rfl
              have hp3 := turns_ok hb i3.2
              repeat ((with_reducible refine Vc.go ?_ fun _ => ?_); (focus (first | omega | (simp only [InK]; omega) | (simp [InK]; done) | (simp [InK]; omega))); simp only [↓sxD, ↓sxP0, sxP1, sxF, sxA, sxS, sxK, encs, tys, sxN, sevalprocAttr, ne_eq, decide_true, decide_false])
              refine IxW.map _ i3.1 i3.2 ?_
              simp only [↓sxD, ↓sxP0, sxP1, sxF, sxA, sxS, sxK, encs, tys, sxN, sevalprocAttr, ne_eq, decide_true, decide_false]
              repeat ((with_reducible refine Vc.go ?_ fun _ => ?_); (focus (first | omega | (simp only [InK]; omega) | (simp [InK]; done) | (simp [InK]; omega))); simp only [↓sxD, ↓sxP0, sxP1, sxF, sxA, sxS, sxK, encs, tys, sxN, sevalprocAttr, ne_eq, decide_true, decide_false])
              (with_reducible refine Vc.go ?_ fun hvx => ?_); focus (simp only [grid_length, gridRow_length, InK]; omega)
              clear hvx
              simp only [↓sxD, ↓sxP0, sxP1, sxF, sxA, sxS, sxK, encs, tys, sxN, sevalprocAttr, ne_eq, decide_true, decide_false]
              repeat ((with_reducible refine Vc.go ?_ fun _ => ?_); (focus (first | omega | (simp only [InK]; omega) | (simp [InK]; done) | (simp [InK]; omega))); simp only [↓sxD, ↓sxP0, sxP1, sxF, sxA, sxS, sxK, encs, tys, sxN, sevalprocAttr, ne_eq, decide_true, decide_false])
              refine ⟨k + 1, StLe.auto (by simp only [sxS, sxL, sxF, encs, sxN, sevalprocAttr, ne_eq, decide_true, decide_false] <;> (try simp [gridRow_succ, hvA, hvB, swp, swd, encs]) <;> (try omega)), ?_, ?_⟩
              · omega
              · omega
            · simp only [↓sxD, ↓sxP0, sxP1, sxF, sxA, sxS, sxK, encs, tys, sxN, sevalprocAttr, ne_eq, decide_true, decide_false]
              have : k = cn := by omega
              subst this
              repeat ((with_reducible refine Vc.go ?_ fun _ => ?_); (focus (first | omega | (simp only [InK]; omega) | (simp [InK]; done) | (simp [InK]; omega))); simp only [↓sxD, ↓sxP0, sxP1, sxF, sxA, sxS, sxK, encs, tys, sxN, sevalprocAttr, ne_eq, decide_true, decide_false])
              refine ⟨q + 1, StLe.auto (by simp only [sxS, sxL, sxF, encs, sxN, sevalprocAttr, ne_eq, decide_true, decide_false] <;> (try simp [grid_succ, encs]) <;> (try omega)), ?_, ?_⟩
              · omega
              · omega
          · simp only [↓sxD, ↓sxP0, sxP1, sxF, sxA, sxS, sxK, encs, tys, sxN, sevalprocAttr, ne_eq, decide_true, decide_false]
            have : q = (rn / 2) := by omega
            subst this
            exact EndW.fn (by simp only [sxL, encs, kpLL_map, sxN, sevalprocAttr, ne_eq, decide_true, decide_false] <;> (try simp [halvesS, he0, hln0, hb, hod2, hvC, hvR]) <;> (try omega)) (by simp only [sxL, encs, kpLL_map, sxN, sevalprocAttr, ne_eq, decide_true, decide_false] <;> (try simp) <;> (try omega))
end Go.Proofs.Ytfpkpokkgbobmaa
