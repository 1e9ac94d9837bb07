/-
  Chapter 9, walks: make-ready.
-/
import Derived.Test.YtaagelngbbkllaaVW31
namespace Go.Proofs.Ytaagelngbbkllaa
open Go Go.Vx
set_option linter.unusedSimpArgs false
set_option linter.unusedVariables false
set_option maxRecDepth 20000
structure TbOk (t : List (List Int)) : Prop where
  n : t.length ≤ 7
  row : ∀ r ∈ t, r.length = t.length ∧ ∀ x ∈ r, 0 ≤ x ∧ x ≤ 10000
theorem tabErr_ok {t : List (List Int)} (h : tabErr t = 0) : TbOk t := by
  unfold tabErr at h
  split at h
  · omega
  · refine ⟨by omega, fun r hr => ?_⟩
    obtain ⟨h1, h2⟩ := rowsErr_zero h r hr
    refine ⟨h1, fun x hx => ?_⟩
    have := List.any_eq_false.1 h2 x hx
    simpa [badM] using this
def tabE (t : List (List Int)) (i j : Int) : Int := (t.getD i.toNat []).getD j.toNat 0
theorem tabE_b {t : List (List Int)} (ht : TbOk t) (i j : Int) : 0 ≤ tabE t i j ∧ tabE t i j ≤ 10000 := by
  unfold tabE
  rw [List.getD_eq_getElem?_getD, List.getD_eq_getElem?_getD]
  cases h : t[i.toNat]? with
  | none => simp
  | some r =>
    have hr := ht.row r (List.mem_of_getElem? h)
    cases h2 : r[j.toNat]? with
    | none => simp [h2]
    | some x => simpa [h2] using hr.2 x (List.mem_of_getElem? h2)
/-- what the first 'k' of an order take. -/
def rdK (t : List (List Int)) (o : List Int) : Nat → Int
  | 0 => 0
  | k + 1 => rdK t o k + tabE t (o.getD (k - 1) 0) (o.getD k 0)
def rdE (t : List (List Int)) (o : List Int) : Int := rdK t o o.length
theorem rdK_b {t : List (List Int)} (ht : TbOk t) (o : List Int) : ∀ k, 0 ≤ rdK t o k ∧ rdK t o k ≤ 10000 * (k : Int)
  | 0 => by simp [rdK]
  | k + 1 => by
    have := rdK_b ht o k
    have := tabE_b ht (o.getD (k - 1) 0) (o.getD k 0)
    simp only [rdK]; omega
theorem getD_at {o : List Int} {k : Nat} (h : k < o.length) : o.getD k 0 = o[k] := by simp [List.getD_eq_getElem?_getD, List.getElem?_eq_getElem h]
theorem tabErr_r (b b3 : Bool) (t : List (List Int)) (hd : ∀ r ∈ t, r.length ≤ 1000000000) : Ctr Try.prog 71 [.sl b 1 (t.map (eIB b3))] (fun rr => rr = ⟨(.v (.int .i64 (tabErr t))), []⟩) := by
  refine Ctr.of (rs := [.tmp 2]) Tok true Try.func71 rfl rfl rfl rfl (by simp [ofDL]) (fun w0 kp => ?_)
  simp only [↓sxD, ↓sxP0, ↓sxGd, sxP1, sxF, sxA, sxS, sxK, sxG, sxH, sxU, encs, tys, sxN, sevalprocAttr, ne_eq, decide_true, decide_false]
  refine BrW.dec (fun h1 => ?_) (fun h1 => ?_)
  · simp only [↓sxD, ↓sxP0, ↓sxGd, sxP1, sxF, sxA, sxS, sxK, sxG, sxH, sxU, encs, tys, sxN, sevalprocAttr, ne_eq, decide_true, decide_false]
    rw [show tabErr t = 8 by rw [tabErr, if_pos (by omega)]]
    exact EndW.fn (by simp only [sxL, sxG, sxH, sxU, encs, kpLL_map, sxN, sevalprocAttr, ne_eq, decide_true, decide_false] <;> (try simp) <;> (try omega)) (by simp only [sxL, sxG, sxH, sxU, encs, kpLL_map, sxN, sevalprocAttr, ne_eq, decide_true, decide_false] <;> (try simp) <;> (try omega))
  · have h1 : ¬ 7 < t.length := by omega
    rw [show tabErr t = rowsErr t.length badM t by rw [tabErr, if_neg h1]]
    simp only [↓sxD, ↓sxP0, ↓sxGd, sxP1, sxF, sxA, sxS, sxK, sxG, sxH, sxU, encs, tys, sxN, sevalprocAttr, ne_eq, decide_true, decide_false]
    refine LoopW.comp [0, 3, 4] (by simp only [sxS, sxL, sxF, sxG, sxH, sxU, encs, sxN, sevalprocAttr, ne_eq, decide_true, decide_false] <;> (try simp) <;> (try omega)) ?_
    simp only [sxS, sxF, sxG, sxH, sxU, sxN, sevalprocAttr, ne_eq, decide_true, decide_false]
    refine LoopW.up Tok (fun k : Nat => [(4, (.v (.int .i64 k)))]) (fun k => []) (fun k => []) (fun k => []) (fun k => k ≤ t.length ∧ rowsErr t.length badM (t.drop k) = rowsErr t.length badM t) (fun k => t.length - k) (0) (by simp only [sxS, sxL, sxF, sxG, sxH, sxU, encs, sxN, sevalprocAttr, ne_eq, decide_true, decide_false] <;> (try simp) <;> (try omega)) ?_ ?_
    · exact ⟨by omega, rfl⟩
    rintro k ⟨hk, hr⟩
    simp only [↓sxD, ↓sxP0, ↓sxGd, sxP1, sxF, sxA, sxS, sxK, sxG, sxH, sxU, encs, tys, sxN, sevalprocAttr, ne_eq, decide_true, decide_false]
    refine BrW.dec (fun hlt => ?_) (fun hlt => ?_)
    · simp only [↓sxD, ↓sxP0, ↓sxGd, sxP1, sxF, sxA, sxS, sxK, sxG, sxH, sxU, encs, tys, sxN, sevalprocAttr, ne_eq, decide_true, decide_false]
      have hlt : k < t.length := by omega
      have hra := rowsErr_at hlt hr
      refine IxW.nat hlt ?_
      simp only [↓sxD, ↓sxP0, ↓sxGd, sxP1, sxF, sxA, sxS, sxK, sxG, sxH, sxU, encs, tys, sxN, sevalprocAttr, ne_eq, decide_true, decide_false]
      refine BrW.dec (fun hw => ?_) (fun hw => ?_)
      · simp only [↓sxD, ↓sxP0, ↓sxGd, sxP1, sxF, sxA, sxS, sxK, sxG, sxH, sxU, encs, tys, sxN, sevalprocAttr, ne_eq, decide_true, decide_false]
        rw [hra, if_neg (by omega)]
        exact EndW.fn (by simp only [sxL, sxG, sxH, sxU, encs, kpLL_map, sxN, sevalprocAttr, ne_eq, decide_true, decide_false] <;> (try simp) <;> (try omega)) (by simp only [sxL, sxG, sxH, sxU, encs, kpLL_map, sxN, sevalprocAttr, ne_eq, decide_true, decide_false] <;> (try simp) <;> (try omega))
      · have hw : (t[k]'hlt).length = t.length := by omega
        rw [if_pos hw] at hra
        simp only [↓sxD, ↓sxP0, ↓sxGd, sxP1, sxF, sxA, sxS, sxK, sxG, sxH, sxU, encs, tys, sxN, sevalprocAttr, ne_eq, decide_true, decide_false]
        refine LoopW.comp [0, 3, 4, 5] (by simp only [sxS, sxL, sxF, sxG, sxH, sxU, encs, sxN, sevalprocAttr, ne_eq, decide_true, decide_false] <;> (try simp) <;> (try omega)) ?_
        simp only [sxS, sxF, sxG, sxH, sxU, sxN, sevalprocAttr, ne_eq, decide_true, decide_false]
        refine LoopW.up Tok (fun j : Nat => [(5, (.v (.int .i64 j)))]) (fun j => []) (fun j => []) (fun j => []) (fun j => j ≤ t.length ∧ ((t[k]'hlt).drop j).any badM = (t[k]'hlt).any badM) (fun j => t.length - j) (0) (by simp only [sxS, sxL, sxF, sxG, sxH, sxU, encs, sxN, sevalprocAttr, ne_eq, decide_true, decide_false] <;> (try simp) <;> (try omega)) ?_ ?_
        · exact ⟨by omega, rfl⟩
        rintro j ⟨hj, hs⟩
        simp only [↓sxD, ↓sxP0, ↓sxGd, sxP1, sxF, sxA, sxS, sxK, sxG, sxH, sxU, encs, tys, sxN, sevalprocAttr, ne_eq, decide_true, decide_false]
        refine BrW.dec (fun hlt2 => ?_) (fun hlt2 => ?_)
        · simp only [↓sxD, ↓sxP0, ↓sxGd, sxP1, sxF, sxA, sxS, sxK, sxG, sxH, sxU, encs, tys, sxN, sevalprocAttr, ne_eq, decide_true, decide_false]
          have hjt : j < (t[k]'hlt).length := by omega
          rw [List.drop_eq_getElem_cons hjt, List.any_cons] at hs
          refine IxW.nat hlt ?_
          simp only [↓sxD, ↓sxP0, ↓sxGd, sxP1, sxF, sxA, sxS, sxK, sxG, sxH, sxU, encs, tys, sxN, sevalprocAttr, ne_eq, decide_true, decide_false]
          refine IxW.nat hjt ?_
          simp only [↓sxD, ↓sxP0, ↓sxGd, sxP1, sxF, sxA, sxS, sxK, sxG, sxH, sxU, encs, tys, sxN, sevalprocAttr, ne_eq, decide_true, decide_false]
          refine CallI.fn (withinB_s ((t[k]'hlt)[j]'hjt) 0 10000) (by simp only [sxA, sxL, sxF, sxG, sxH, sxU, encs, sxN, sevalprocAttr, ne_eq, decide_true, decide_false] <;> (try simp) <;> (try rfl)) ?_
          simp only [↓sxD, ↓sxP0, ↓sxGd, sxP1, sxF, sxA, sxS, sxK, sxG, sxH, sxU, encs, tys, sxN, sevalprocAttr, ne_eq, decide_true, decide_false]
          refine BrW.of (fun hv => ?_) (fun hv => ?_)
          · simp only [↓sxD, ↓sxP0, ↓sxGd, sxP1, sxF, sxA, sxS, sxK, sxG, sxH, sxU, encs, tys, sxN, sevalprocAttr, ne_eq, decide_true, decide_false]
            rw [show badM ((t[k]'hlt)[j]'hjt) = false by simp only [badM, hv]; rfl, Bool.false_or] at hs
            repeat ((with_reducible refine Vc.go ?_ fun _ => ?_); (focus (first | omega | (simp only [InK]; omega) | (simp [InK]; done) | (simp [InK]; omega))); simp only [↓sxD, ↓sxP0, ↓sxGd, sxP1, sxF, sxA, sxS, sxK, sxG, sxH, sxU, encs, tys, sxN, sevalprocAttr, ne_eq, decide_true, decide_false])
            refine ⟨j + 1, StLe.auto (by simp only [sxS, sxL, sxF, sxG, sxH, sxU, encs, sxN, sevalprocAttr, ne_eq, decide_true, decide_false] <;> (try simp) <;> (try omega)), ?_, ?_⟩
            · exact ⟨by omega, hs⟩
            · omega
          · simp only [↓sxD, ↓sxP0, ↓sxGd, sxP1, sxF, sxA, sxS, sxK, sxG, sxH, sxU, encs, tys, sxN, sevalprocAttr, ne_eq, decide_true, decide_false]
            rw [show badM ((t[k]'hlt)[j]'hjt) = true by simp only [badM, hv]; rfl, Bool.true_or] at hs
            rw [hra, if_pos hs.symm]
            exact EndW.fn (by simp only [sxL, sxG, sxH, sxU, encs, kpLL_map, sxN, sevalprocAttr, ne_eq, decide_true, decide_false] <;> (try simp) <;> (try omega)) (by simp only [sxL, sxG, sxH, sxU, encs, kpLL_map, sxN, sevalprocAttr, ne_eq, decide_true, decide_false] <;> (try simp) <;> (try omega))
        · simp only [↓sxD, ↓sxP0, ↓sxGd, sxP1, sxF, sxA, sxS, sxK, sxG, sxH, sxU, encs, tys, sxN, sevalprocAttr, ne_eq, decide_true, decide_false]
          have hje : j = (t[k]'hlt).length := by omega
          rw [hje, List.drop_length] at hs
          rw [if_neg (by rw [← hs]; decide)] at hra
          repeat ((with_reducible refine Vc.go ?_ fun _ => ?_); (focus (first | omega | (simp only [InK]; omega) | (simp [InK]; done) | (simp [InK]; omega))); simp only [↓sxD, ↓sxP0, ↓sxGd, sxP1, sxF, sxA, sxS, sxK, sxG, sxH, sxU, encs, tys, sxN, sevalprocAttr, ne_eq, decide_true, decide_false])
          refine ⟨k + 1, StLe.auto (by simp only [sxS, sxL, sxF, sxG, sxH, sxU, encs, sxN, sevalprocAttr, ne_eq, decide_true, decide_false] <;> (try simp) <;> (try omega)), ?_, ?_⟩
          · exact ⟨by omega, hra.symm⟩
          · omega
    · simp only [↓sxD, ↓sxP0, ↓sxGd, sxP1, sxF, sxA, sxS, sxK, sxG, sxH, sxU, encs, tys, sxN, sevalprocAttr, ne_eq, decide_true, decide_false]
      have hke : k = t.length := by omega
      subst hke
      rw [List.drop_length] at hr
      rw [← hr]
      exact EndW.fn (by simp only [sxL, sxG, sxH, sxU, encs, kpLL_map, sxN, sevalprocAttr, ne_eq, decide_true, decide_false] <;> (try simp [rowsErr]) <;> (try omega)) (by simp only [sxL, sxG, sxH, sxU, encs, kpLL_map, sxN, sevalprocAttr, ne_eq, decide_true, decide_false] <;> (try simp) <;> (try omega))
theorem ready_s (b b2 b3 : Bool) (t : List (List Int)) (o : List Int) (ht : TbOk t) (hl : o.length ≤ 1000) (hr : ∀ i ∈ o, 0 ≤ i ∧ i < (t.length : Int)) : Ctr Try.prog 120 [.sl b 1 (t.map (eIB b3)), .sl b2 1 (o.map eI)] (fun rr => rr = ⟨(.v (.int .i64 (rdE t o))), []⟩) := by
  refine Ctr.of (rs := [.tmp 4]) Tok true Try.func120 rfl rfl rfl rfl (by simp [ofDL]) (fun w0 kp => ?_)
  simp only [↓sxD, ↓sxP0, ↓sxGd, sxP1, sxF, sxA, sxS, sxK, sxG, sxH, sxU, encs, tys, sxN, sevalprocAttr, ne_eq, decide_true, decide_false]
  refine LoopW.comp [0, 1, 5, 8, 9, 10] (by simp only [sxS, sxL, sxF, sxG, sxH, sxU, encs, sxN, sevalprocAttr, ne_eq, decide_true, decide_false] <;> (try simp) <;> (try omega)) ?_
  simp only [sxS, sxF, sxG, sxH, sxU, sxN, sevalprocAttr, ne_eq, decide_true, decide_false]
  refine LoopW.up Tok (fun k : Nat => [(5, (.v (.int .i64 (rdK t o k)))), (10, (.v (.int .i64 k)))]) (fun k => []) (fun k => []) (fun k => []) (fun k => k ≤ o.length) (fun k => o.length - k) (0) (by simp only [sxS, sxL, sxF, sxG, sxH, sxU, encs, sxN, sevalprocAttr, ne_eq, decide_true, decide_false] <;> (try simp [rdK, encs]) <;> (try omega)) ?_ ?_
  · omega
  rintro k hk
  simp only [↓sxD, ↓sxP0, ↓sxGd, sxP1, sxF, sxA, sxS, sxK, sxG, sxH, sxU, encs, tys, sxN, sevalprocAttr, ne_eq, decide_true, decide_false]
  refine BrW.dec (fun hlt => ?_) (fun hlt => ?_)
  · simp only [↓sxD, ↓sxP0, ↓sxGd, sxP1, sxF, sxA, sxS, sxK, sxG, sxH, sxU, encs, tys, sxN, sevalprocAttr, ne_eq, decide_true, decide_false]
    have hlt : k < o.length := by omega
    have hb := rdK_b ht o k
    have hik := hr _ (List.getElem_mem hlt)
    refine IxW.nat hlt ?_
    simp only [↓sxD, ↓sxP0, ↓sxGd, sxP1, sxF, sxA, sxS, sxK, sxG, sxH, sxU, encs, tys, sxN, sevalprocAttr, ne_eq, decide_true, decide_false]
    refine BrW.dec (fun h0 => ?_) (fun h0 => ?_)
    · simp only [↓sxD, ↓sxP0, ↓sxGd, sxP1, sxF, sxA, sxS, sxK, sxG, sxH, sxU, encs, tys, sxN, sevalprocAttr, ne_eq, decide_true, decide_false]
      have h0 : k = 0 := by omega
      have hrt : (o[k]'hlt).toNat < t.length := by omega
      refine IxW.map (t[(o[k]'hlt).toNat]'hrt) (by omega) (List.getElem?_eq_getElem hrt) ?_
      simp only [↓sxD, ↓sxP0, ↓sxGd, sxP1, sxF, sxA, sxS, sxK, sxG, sxH, sxU, encs, tys, sxN, sevalprocAttr, ne_eq, decide_true, decide_false]
      have hri := ht.row _ (List.getElem_mem hrt)
      have hd : (o[k]'hlt).toNat < (t[(o[k]'hlt).toNat]'hrt).length := by omega
      have hx : (t[(o[k]'hlt).toNat]'hrt)[(o[k]'hlt).toNat]? = some (tabE t o[k] o[k]) := by
        simp [tabE, List.getD_eq_getElem?_getD, List.getElem?_eq_getElem hrt, List.getElem?_eq_getElem hd]
      refine IxW.map (tabE t o[k] o[k]) (by omega) hx ?_
      simp only [↓sxD, ↓sxP0, ↓sxGd, sxP1, sxF, sxA, sxS, sxK, sxG, sxH, sxU, encs, tys, sxN, sevalprocAttr, ne_eq, decide_true, decide_false]
      have hte := tabE_b ht o[k] o[k]
      have he : rdK t o (k + 1) = rdK t o k + tabE t o[k] o[k] := by
        subst h0
        simp only [rdK, getD_at hlt]
      repeat ((with_reducible refine Vc.go ?_ fun _ => ?_); (focus (first | omega | (simp only [InK]; omega) | (simp [InK]; done) | (simp [InK]; omega))); simp only [↓sxD, ↓sxP0, ↓sxGd, sxP1, sxF, sxA, sxS, sxK, sxG, sxH, sxU, encs, tys, sxN, sevalprocAttr, ne_eq, decide_true, decide_false])
      refine ⟨k + 1, StLe.auto (by simp only [sxS, sxL, sxF, sxG, sxH, sxU, encs, sxN, sevalprocAttr, ne_eq, decide_true, decide_false] <;> (try simp [he, encs]) <;> (try omega)), ?_, ?_⟩
      · omega
      · omega
    · simp only [↓sxD, ↓sxP0, ↓sxGd, sxP1, sxF, sxA, sxS, sxK, sxG, sxH, sxU, encs, tys, sxN, sevalprocAttr, ne_eq, decide_true, decide_false]
      have h0 : k ≠ 0 := by omega
      have hl1 : k - 1 < o.length := by omega
      have hi1 := hr _ (List.getElem_mem hl1)
      have hrt : (o[k - 1]'hl1).toNat < t.length := by omega
      repeat ((with_reducible refine Vc.go ?_ fun _ => ?_); (focus (first | omega | (simp only [InK]; omega) | (simp [InK]; done) | (simp [InK]; omega))); simp only [↓sxD, ↓sxP0, ↓sxGd, sxP1, sxF, sxA, sxS, sxK, sxG, sxH, sxU, encs, tys, sxN, sevalprocAttr, ne_eq, decide_true, decide_false])
      refine IxW.map (o[k - 1]'hl1) (by omega) (by rw [show ((k : Int) - 1).toNat = k - 1 by omega]; exact List.getElem?_eq_getElem hl1) ?_
      simp only [↓sxD, ↓sxP0, ↓sxGd, sxP1, sxF, sxA, sxS, sxK, sxG, sxH, sxU, encs, tys, sxN, sevalprocAttr, ne_eq, decide_true, decide_false]
      refine IxW.map (t[(o[k - 1]'hl1).toNat]'hrt) (by omega) (List.getElem?_eq_getElem hrt) ?_
      simp only [↓sxD, ↓sxP0, ↓sxGd, sxP1, sxF, sxA, sxS, sxK, sxG, sxH, sxU, encs, tys, sxN, sevalprocAttr, ne_eq, decide_true, decide_false]
      have hri := ht.row _ (List.getElem_mem hrt)
      have hd : (o[k]'hlt).toNat < (t[(o[k - 1]'hl1).toNat]'hrt).length := by omega
      have hx : (t[(o[k - 1]'hl1).toNat]'hrt)[(o[k]'hlt).toNat]? = some (tabE t o[k - 1] o[k]) := by
        simp [tabE, List.getD_eq_getElem?_getD, List.getElem?_eq_getElem hrt, List.getElem?_eq_getElem hd]
      refine IxW.map (tabE t o[k - 1] o[k]) (by omega) hx ?_
      simp only [↓sxD, ↓sxP0, ↓sxGd, sxP1, sxF, sxA, sxS, sxK, sxG, sxH, sxU, encs, tys, sxN, sevalprocAttr, ne_eq, decide_true, decide_false]
      have hte := tabE_b ht o[k - 1] o[k]
      have he : rdK t o (k + 1) = rdK t o k + tabE t o[k - 1] o[k] := by
        simp only [rdK, getD_at hlt, getD_at hl1]
      repeat ((with_reducible refine Vc.go ?_ fun _ => ?_); (focus (first | omega | (simp only [InK]; omega) | (simp [InK]; done) | (simp [InK]; omega))); simp only [↓sxD, ↓sxP0, ↓sxGd, sxP1, sxF, sxA, sxS, sxK, sxG, sxH, sxU, encs, tys, sxN, sevalprocAttr, ne_eq, decide_true, decide_false])
      refine ⟨k + 1, StLe.auto (by simp only [sxS, sxL, sxF, sxG, sxH, sxU, encs, sxN, sevalprocAttr, ne_eq, decide_true, decide_false] <;> (try simp [he, encs]) <;> (try omega)), ?_, ?_⟩
      · omega
      · omega
  · simp only [↓sxD, ↓sxP0, ↓sxGd, sxP1, sxF, sxA, sxS, sxK, sxG, sxH, sxU, encs, tys, sxN, sevalprocAttr, ne_eq, decide_true, decide_false]
    have hke : k = o.length := by omega
    subst hke
    exact EndW.fn (by simp only [sxL, sxG, sxH, sxU, encs, kpLL_map, sxN, sevalprocAttr, ne_eq, decide_true, decide_false] <;> (try simp [rdE]) <;> (try omega)) (by simp only [sxL, sxG, sxH, sxU, encs, kpLL_map, sxN, sevalprocAttr, ne_eq, decide_true, decide_false] <;> (try simp) <;> (try omega))
theorem makeReadyR_s (b b2 b3 : Bool) (t : List (List Int)) (o : List Int) (ht : TbOk t) (hl : o.length ≤ 1000) (hr : ∀ i ∈ o, 0 ≤ i ∧ i < (t.length : Int)) : Ctr Try.prog 73 [.sl b 1 (t.map (eIB b3)), .sl b2 1 (o.map eI)] (fun rr => rr = ⟨(.v (.int .i64 (rdE t o))), []⟩) := by
  refine Ctr.of (rs := [.tmp 4]) Tok true Try.func73 rfl rfl rfl rfl (by simp [ofDL]) (fun w0 kp => ?_)
  simp only [↓sxD, ↓sxP0, ↓sxGd, sxP1, sxF, sxA, sxS, sxK, sxG, sxH, sxU, encs, tys, sxN, sevalprocAttr, ne_eq, decide_true, decide_false]
  refine LoopW.comp [0, 1, 5, 6] (by simp only [sxS, sxL, sxF, sxG, sxH, sxU, encs, sxN, sevalprocAttr, ne_eq, decide_true, decide_false] <;> (try simp) <;> (try omega)) ?_
  simp only [sxS, sxF, sxG, sxH, sxU, sxN, sevalprocAttr, ne_eq, decide_true, decide_false]
  refine LoopW.up Tok (fun k : Nat => [(5, (.v (.int .i64 (rdK t o k)))), (6, (.v (.int .i64 k)))]) (fun k => []) (fun k => []) (fun k => []) (fun k => k ≤ o.length) (fun k => o.length - k) (0) (by simp only [sxS, sxL, sxF, sxG, sxH, sxU, encs, sxN, sevalprocAttr, ne_eq, decide_true, decide_false] <;> (try simp [rdK, encs]) <;> (try omega)) ?_ ?_
  · omega
  rintro k hk
  simp only [↓sxD, ↓sxP0, ↓sxGd, sxP1, sxF, sxA, sxS, sxK, sxG, sxH, sxU, encs, tys, sxN, sevalprocAttr, ne_eq, decide_true, decide_false]
  refine BrW.dec (fun hlt => ?_) (fun hlt => ?_)
  · simp only [↓sxD, ↓sxP0, ↓sxGd, sxP1, sxF, sxA, sxS, sxK, sxG, sxH, sxU, encs, tys, sxN, sevalprocAttr, ne_eq, decide_true, decide_false]
    have hlt : k < o.length := by omega
    have hb := rdK_b ht o k
    have hik := hr _ (List.getElem_mem hlt)
    refine BrW.dec (fun h0 => ?_) (fun h0 => ?_)
    · simp only [↓sxD, ↓sxP0, ↓sxGd, sxP1, sxF, sxA, sxS, sxK, sxG, sxH, sxU, encs, tys, sxN, sevalprocAttr, ne_eq, decide_true, decide_false]
      have h0 : k = 0 := by omega
      subst h0
      have hrt : (o[0]'hlt).toNat < t.length := by omega
      have hri := ht.row _ (List.getElem_mem hrt)
      have hd : (o[0]'hlt).toNat < (t[(o[0]'hlt).toNat]'hrt).length := by omega
      have hx : (t[(o[0]'hlt).toNat]'hrt)[(o[0]'hlt).toNat]? = some (tabE t o[0] o[0]) := by
        simp [tabE, List.getD_eq_getElem?_getD, List.getElem?_eq_getElem hrt, List.getElem?_eq_getElem hd]
      have hte := tabE_b ht o[0] o[0]
      have he : rdK t o (0 + 1) = tabE t o[0] o[0] := by
        simp only [rdK, getD_at hlt, Nat.zero_sub]; omega
      refine DrawW.plan Tok mixed (.q 0 <| .q 1 <| .q 2 <| .q 3 <| .q 4 <| .q 5 <| .q 6 <| .q 7 <| .q 8 <| .q 9 <| .q 10 <| .q 11 <| .done) (by kernel_rfl) (by kernel_rfl) ?_
      simp only [↓sxD, ↓sxP0, ↓sxGd, sxP1, sxF, sxA, sxS, sxK, sxG, sxH, sxU, encs, tys, sxN, sevalprocAttr, ne_eq, decide_true, decide_false]
      refine IxW.map (o[0]'hlt) (by omega) (List.getElem?_eq_getElem hlt) ?_
      simp only [↓sxD, ↓sxP0, ↓sxGd, sxP1, sxF, sxA, sxS, sxK, sxG, sxH, sxU, encs, tys, sxN, sevalprocAttr, ne_eq, decide_true, decide_false]
      refine IxW.map (t[(o[0]'hlt).toNat]'hrt) (by omega) (List.getElem?_eq_getElem hrt) ?_
      simp only [↓sxD, ↓sxP0, ↓sxGd, sxP1, sxF, sxA, sxS, sxK, sxG, sxH, sxU, encs, tys, sxN, sevalprocAttr, ne_eq, decide_true, decide_false]
      refine IxW.map (o[0]'hlt) (by omega) (List.getElem?_eq_getElem hlt) ?_
      simp only [↓sxD, ↓sxP0, ↓sxGd, sxP1, sxF, sxA, sxS, sxK, sxG, sxH, sxU, encs, tys, sxN, sevalprocAttr, ne_eq, decide_true, decide_false]
      refine IxW.map (tabE t o[0] o[0]) (by omega) hx ?_
      simp only [↓sxD, ↓sxP0, ↓sxGd, sxP1, sxF, sxA, sxS, sxK, sxG, sxH, sxU, encs, tys, sxN, sevalprocAttr, ne_eq, decide_true, decide_false]
      repeat ((with_reducible refine Vc.go ?_ fun _ => ?_); (focus (first | omega | (simp only [InK]; omega) | (simp [InK]; done) | (simp [InK]; omega))); simp only [↓sxD, ↓sxP0, ↓sxGd, sxP1, sxF, sxA, sxS, sxK, sxG, sxH, sxU, encs, tys, sxN, sevalprocAttr, ne_eq, decide_true, decide_false])
      refine ⟨1, StLe.auto (by simp only [sxS, sxL, sxF, sxG, sxH, sxU, encs, sxN, sevalprocAttr, ne_eq, decide_true, decide_false] <;> (try simp [he, encs]) <;> (try omega)), ?_, ?_⟩
      · omega
      · omega
    · simp only [↓sxD, ↓sxP0, ↓sxGd, sxP1, sxF, sxA, sxS, sxK, sxG, sxH, sxU, encs, tys, sxN, sevalprocAttr, ne_eq, decide_true, decide_false]
      have h0 : k ≠ 0 := by omega
      have hl1 : k - 1 < o.length := by omega
      have hi1 := hr _ (List.getElem_mem hl1)
      have hrt : (o[k - 1]'hl1).toNat < t.length := by omega
      have hri := ht.row _ (List.getElem_mem hrt)
      have hd : (o[k]'hlt).toNat < (t[(o[k - 1]'hl1).toNat]'hrt).length := by omega
      have hx : (t[(o[k - 1]'hl1).toNat]'hrt)[(o[k]'hlt).toNat]? = some (tabE t o[k - 1] o[k]) := by
        simp [tabE, List.getD_eq_getElem?_getD, List.getElem?_eq_getElem hrt, List.getElem?_eq_getElem hd]
      have hte := tabE_b ht o[k - 1] o[k]
      have he : rdK t o (k + 1) = rdK t o k + tabE t o[k - 1] o[k] := by
        simp only [rdK, getD_at hlt, getD_at hl1]
      refine DrawW.plan Tok mixed (.q 0 <| .q 1 <| .q 2 <| .q 3 <| .q 4 <| .q 5 <| .q 6 <| .q 7 <| .q 8 <| .q 9 <| .q 10 <| .q 11 <| .q 12 <| .q 13 <| .q 14 <| .q 15 <| .q 16 <| .done) (by kernel_rfl) (by kernel_rfl) ?_
      simp only [↓sxD, ↓sxP0, ↓sxGd, sxP1, sxF, sxA, sxS, sxK, sxG, sxH, sxU, encs, tys, sxN, sevalprocAttr, ne_eq, decide_true, decide_false]
      repeat ((with_reducible refine Vc.go ?_ fun _ => ?_); (focus (first | omega | (simp only [InK]; omega) | (simp [InK]; done) | (simp [InK]; omega))); simp only [↓sxD, ↓sxP0, ↓sxGd, sxP1, sxF, sxA, sxS, sxK, sxG, sxH, sxU, encs, tys, sxN, sevalprocAttr, ne_eq, decide_true, decide_false])
      refine IxW.map (o[k - 1]'hl1) (by omega) (by rw [show ((k : Int) - 1).toNat = k - 1 by omega]; exact List.getElem?_eq_getElem hl1) ?_
      simp only [↓sxD, ↓sxP0, ↓sxGd, sxP1, sxF, sxA, sxS, sxK, sxG, sxH, sxU, encs, tys, sxN, sevalprocAttr, ne_eq, decide_true, decide_false]
      refine IxW.map (t[(o[k - 1]'hl1).toNat]'hrt) (by omega) (List.getElem?_eq_getElem hrt) ?_
      simp only [↓sxD, ↓sxP0, ↓sxGd, sxP1, sxF, sxA, sxS, sxK, sxG, sxH, sxU, encs, tys, sxN, sevalprocAttr, ne_eq, decide_true, decide_false]
      refine IxW.nat hlt ?_
      simp only [↓sxD, ↓sxP0, ↓sxGd, sxP1, sxF, sxA, sxS, sxK, sxG, sxH, sxU, encs, tys, sxN, sevalprocAttr, ne_eq, decide_true, decide_false]
      refine IxW.map (tabE t o[k - 1] o[k]) (by omega) hx ?_
      simp only [↓sxD, ↓sxP0, ↓sxGd, sxP1, sxF, sxA, sxS, sxK, sxG, sxH, sxU, encs, tys, sxN, sevalprocAttr, ne_eq, decide_true, decide_false]
      repeat ((with_reducible refine Vc.go ?_ fun _ => ?_); (focus (first | omega | (simp only [InK]; omega) | (simp [InK]; done) | (simp [InK]; omega))); simp only [↓sxD, ↓sxP0, ↓sxGd, sxP1, sxF, sxA, sxS, sxK, sxG, sxH, sxU, encs, tys, sxN, sevalprocAttr, ne_eq, decide_true, decide_false])
      refine ⟨k + 1, StLe.auto (by simp only [sxS, sxL, sxF, sxG, sxH, sxU, encs, sxN, sevalprocAttr, ne_eq, decide_true, decide_false] <;> (try simp [he, encs]) <;> (try omega)), ?_, ?_⟩
      · omega
      · omega
  · simp only [↓sxD, ↓sxP0, ↓sxGd, sxP1, sxF, sxA, sxS, sxK, sxG, sxH, sxU, encs, tys, sxN, sevalprocAttr, ne_eq, decide_true, decide_false]
    have hke : k = o.length := by omega
    subst hke
    exact EndW.fn (by simp only [sxL, sxG, sxH, sxU, encs, kpLL_map, sxN, sevalprocAttr, ne_eq, decide_true, decide_false] <;> (try simp [rdE]) <;> (try omega)) (by simp only [sxL, sxG, sxH, sxU, encs, kpLL_map, sxN, sevalprocAttr, ne_eq, decide_true, decide_false] <;> (try simp) <;> (try omega))
theorem makeReady_s (b b2 b3 : Bool) (t : List (List Int)) (o : List Int) (hd : ∀ r ∈ t, r.length ≤ 1000000000) : Ctr Try.prog 68 [.sl b 1 (t.map (eIB b3)), .sl b2 1 (o.map eI)] (fun rr => rr = ⟨.tup [(.v (.int .i64 (if tabErr t = 0 ∧ ordErr t.length o = 0 then rdE t o else 0))), (.v (.int .i64 (if tabErr t = 0 then ordErr t.length o else tabErr t)))], []⟩) := by
  refine Ctr.of (rs := [.tmp 4, .tmp 5]) Tok true Try.func68 rfl rfl rfl rfl (by simp [ofDL]) (fun w0 kp => ?_)
  simp only [↓sxD, ↓sxP0, ↓sxGd, sxP1, sxF, sxA, sxS, sxK, sxG, sxH, sxU, encs, tys, sxN, sevalprocAttr, ne_eq, decide_true, decide_false]
  refine CallI.fn (checkTable_s b b3 t hd) (by simp only [sxA, sxL, sxF, sxG, sxH, sxU, encs, sxN, sevalprocAttr, ne_eq, decide_true, decide_false] <;> (try simp) <;> (try rfl)) ?_
  simp only [↓sxD, ↓sxP0, ↓sxGd, sxP1, sxF, sxA, sxS, sxK, sxG, sxH, sxU, encs, tys, sxN, sevalprocAttr, ne_eq, decide_true, decide_false]
  refine BrW.dec (fun h1 => ?_) (fun h1 => ?_)
  · have h1 : ¬ tabErr t = 0 := h1
    rw [if_neg h1, if_neg (fun h => h1 h.1)]
    simp only [↓sxD, ↓sxP0, ↓sxGd, sxP1, sxF, sxA, sxS, sxK, sxG, sxH, sxU, encs, tys, sxN, sevalprocAttr, ne_eq, decide_true, decide_false]
    exact EndW.fn (by simp only [sxL, sxG, sxH, sxU, encs, kpLL_map, sxN, sevalprocAttr, ne_eq, decide_true, decide_false] <;> (try simp) <;> (try omega)) (by simp only [sxL, sxG, sxH, sxU, encs, kpLL_map, sxN, sevalprocAttr, ne_eq, decide_true, decide_false] <;> (try simp) <;> (try omega))
  · have h1 : tabErr t = 0 := Decidable.not_not.1 h1
    have ht := tabErr_ok h1
    have hn := ht.n
    rw [if_pos h1]
    simp only [↓sxD, ↓sxP0, ↓sxGd, sxP1, sxF, sxA, sxS, sxK, sxG, sxH, sxU, encs, tys, sxN, sevalprocAttr, ne_eq, decide_true, decide_false]
    refine CallI.fn (checkOrder_s b2 t.length o (by omega)) (by simp only [sxA, sxL, sxF, sxG, sxH, sxU, encs, sxN, sevalprocAttr, ne_eq, decide_true, decide_false] <;> (try simp) <;> (try rfl)) ?_
    simp only [↓sxD, ↓sxP0, ↓sxGd, sxP1, sxF, sxA, sxS, sxK, sxG, sxH, sxU, encs, tys, sxN, sevalprocAttr, ne_eq, decide_true, decide_false]
    refine BrW.dec (fun h2 => ?_) (fun h2 => ?_)
    · have h2 : ¬ ordErr t.length o = 0 := h2
      rw [if_neg (fun h => h2 h.2)]
      simp only [↓sxD, ↓sxP0, ↓sxGd, sxP1, sxF, sxA, sxS, sxK, sxG, sxH, sxU, encs, tys, sxN, sevalprocAttr, ne_eq, decide_true, decide_false]
      exact EndW.fn (by simp only [sxL, sxG, sxH, sxU, encs, kpLL_map, sxN, sevalprocAttr, ne_eq, decide_true, decide_false] <;> (try simp) <;> (try omega)) (by simp only [sxL, sxG, sxH, sxU, encs, kpLL_map, sxN, sevalprocAttr, ne_eq, decide_true, decide_false] <;> (try simp) <;> (try omega))
    · have h2 : ordErr t.length o = 0 := Decidable.not_not.1 h2
      obtain ⟨o1, o2, o3⟩ := ordErr_ok h2
      rw [if_pos ⟨h1, h2⟩, h2]
      simp only [↓sxD, ↓sxP0, ↓sxGd, sxP1, sxF, sxA, sxS, sxK, sxG, sxH, sxU, encs, tys, sxN, sevalprocAttr, ne_eq, decide_true, decide_false]
      refine CallI.fn (ready_s b b2 b3 t o ht (by omega) o3) (by simp only [sxA, sxL, sxF, sxG, sxH, sxU, encs, sxN, sevalprocAttr, ne_eq, decide_true, decide_false] <;> (try simp) <;> (try rfl)) ?_
      simp only [↓sxD, ↓sxP0, ↓sxGd, sxP1, sxF, sxA, sxS, sxK, sxG, sxH, sxU, encs, tys, sxN, sevalprocAttr, ne_eq, decide_true, decide_false]
      exact EndW.fn (by simp only [sxL, sxG, sxH, sxU, encs, kpLL_map, sxN, sevalprocAttr, ne_eq, decide_true, decide_false] <;> (try simp) <;> (try omega)) (by simp only [sxL, sxG, sxH, sxU, encs, kpLL_map, sxN, sevalprocAttr, ne_eq, decide_true, decide_false] <;> (try simp) <;> (try omega))
/-- the least so far. -/
def ls1 (t : List (List Int)) (s : Int × List Int) (o : List Int) : Int × List Int := if s.1 < 0 ∨ rdE t o < s.1 then (rdE t o, o) else s
def ordT (t : List (List Int)) : List (List Int) := ordL t.length t.length []
def lsT (t : List (List Int)) (k : Nat) : Int × List Int := ((ordT t).take k).foldl (ls1 t) (-1, [])
def lsA (t : List (List Int)) : Int × List Int := lsT t (ordT t).length
theorem lsT_succ {t : List (List Int)} {k : Nat} (h : k < (ordT t).length) : lsT t (k + 1) = ls1 t (lsT t k) (ordT t)[k] := by
  unfold lsT
  rw [List.take_succ_eq_append_getElem h, List.foldl_append]; rfl
theorem ordT_ok {t : List (List Int)} {o : List Int} (h : o ∈ ordT t) : o.length = t.length ∧ (∀ i ∈ o, 0 ≤ i ∧ i < (t.length : Int)) := by
  obtain ⟨h1, h2, _⟩ := ordL_mem _ _ _ h
  refine ⟨by simpa using h1, fun a ha => ?_⟩
  rcases h2 a ha with h | h
  · cases h
  · exact h
theorem leastR_s (b b3 : Bool) (t : List (List Int)) (ht : TbOk t) (hn : t.length ≤ 6) : Ctr Try.prog 72 [.sl b 1 (t.map (eIB b3))] (fun rr => rr = ⟨.tup [.sl true 1 ((lsA t).2.map eI), (.v (.int .i64 (max (lsA t).1 0)))], []⟩) := by
  refine Ctr.of (rs := [.tmp 2, .tmp 3]) Tok true Try.func72 rfl rfl rfl rfl (by simp [ofDL]) (fun w0 kp => ?_)
  simp only [↓sxD, ↓sxP0, ↓sxGd, sxP1, sxF, sxA, sxS, sxK, sxG, sxH, sxU, encs, tys, sxN, sevalprocAttr, ne_eq, decide_true, decide_false]
  have hor := ordersR_s t.length hn t.length true [] (by simp)
  have hob := ordL_b hn hn ([] : List Int) (n := t.length)
  have hA : ordL t.length t.length [] = ordT t := rfl
  rw [hA] at hor hob
  refine CallI.fn (hor) (by simp only [sxA, sxL, sxF, sxG, sxH, sxU, encs, sxN, sevalprocAttr, ne_eq, decide_true, decide_false] <;> (try simp) <;> (try rfl)) ?_
  simp only [↓sxD, ↓sxP0, ↓sxGd, sxP1, sxF, sxA, sxS, sxK, sxG, sxH, sxU, encs, tys, sxN, sevalprocAttr, ne_eq, decide_true, decide_false]
  refine LoopW.comp [0, 4, 5, 6, 7] (by simp only [sxS, sxL, sxF, sxG, sxH, sxU, encs, sxN, sevalprocAttr, ne_eq, decide_true, decide_false] <;> (try simp) <;> (try omega)) ?_
  simp only [sxS, sxF, sxG, sxH, sxU, sxN, sevalprocAttr, ne_eq, decide_true, decide_false]
  refine LoopW.up Tok (fun k : Nat => [(4, .sl true 1 ((lsT t k).2.map eI)), (5, (.v (.int .i64 ((lsT t k).1)))), (7, (.v (.int .i64 k)))]) (fun k => []) (fun k => []) (fun k => []) (fun k => k ≤ (ordT t).length) (fun k => (ordT t).length - k) (0) (by simp only [sxS, sxL, sxF, sxG, sxH, sxU, encs, sxN, sevalprocAttr, ne_eq, decide_true, decide_false] <;> (try simp [lsT, encs]) <;> (try omega)) ?_ ?_
  · omega
  rintro k hk
  simp only [↓sxD, ↓sxP0, ↓sxGd, sxP1, sxF, sxA, sxS, sxK, sxG, sxH, sxU, encs, tys, sxN, sevalprocAttr, ne_eq, decide_true, decide_false]
  refine BrW.dec (fun hlt => ?_) (fun hlt => ?_)
  · simp only [↓sxD, ↓sxP0, ↓sxGd, sxP1, sxF, sxA, sxS, sxK, sxG, sxH, sxU, encs, tys, sxN, sevalprocAttr, ne_eq, decide_true, decide_false]
    have hlt : k < (ordT t).length := by omega
    obtain ⟨o1, o2⟩ := ordT_ok (List.getElem_mem hlt)
    have hs := lsT_succ hlt
    refine IxW.nat hlt ?_
    simp only [↓sxD, ↓sxP0, ↓sxGd, sxP1, sxF, sxA, sxS, sxK, sxG, sxH, sxU, encs, tys, sxN, sevalprocAttr, ne_eq, decide_true, decide_false]
    refine CallI.fn (makeReadyR_s b true b3 t (ordT t)[k] ht (by omega) o2) (by simp only [sxA, sxL, sxF, sxG, sxH, sxU, encs, sxN, sevalprocAttr, ne_eq, decide_true, decide_false] <;> (try simp) <;> (try rfl)) ?_
    simp only [↓sxD, ↓sxP0, ↓sxGd, sxP1, sxF, sxA, sxS, sxK, sxG, sxH, sxU, encs, tys, sxN, sevalprocAttr, ne_eq, decide_true, decide_false]
    refine BrW.dec (fun h1 => ?_) (fun h1 => ?_)
    · simp only [↓sxD, ↓sxP0, ↓sxGd, sxP1, sxF, sxA, sxS, sxK, sxG, sxH, sxU, encs, tys, sxN, sevalprocAttr, ne_eq, decide_true, decide_false]
      refine IxW.nat hlt ?_
      simp only [↓sxD, ↓sxP0, ↓sxGd, sxP1, sxF, sxA, sxS, sxK, sxG, sxH, sxU, encs, tys, sxN, sevalprocAttr, ne_eq, decide_true, decide_false]
      have he : lsT t (k + 1) = (rdE t (ordT t)[k], (ordT t)[k]) := by rw [hs, ls1, if_pos (.inl h1)]
      repeat ((with_reducible refine Vc.go ?_ fun _ => ?_); (focus (first | omega | (simp only [InK]; omega) | (simp [InK]; done) | (simp [InK]; omega))); simp only [↓sxD, ↓sxP0, ↓sxGd, sxP1, sxF, sxA, sxS, sxK, sxG, sxH, sxU, encs, tys, sxN, sevalprocAttr, ne_eq, decide_true, decide_false])
      refine ⟨k + 1, StLe.auto (by simp only [sxS, sxL, sxF, sxG, sxH, sxU, encs, sxN, sevalprocAttr, ne_eq, decide_true, decide_false] <;> (try simp [he, encs]) <;> (try omega)), ?_, ?_⟩
      · omega
      · omega
    · simp only [↓sxD, ↓sxP0, ↓sxGd, sxP1, sxF, sxA, sxS, sxK, sxG, sxH, sxU, encs, tys, sxN, sevalprocAttr, ne_eq, decide_true, decide_false]
      refine BrW.dec (fun h2 => ?_) (fun h2 => ?_)
      · simp only [↓sxD, ↓sxP0, ↓sxGd, sxP1, sxF, sxA, sxS, sxK, sxG, sxH, sxU, encs, tys, sxN, sevalprocAttr, ne_eq, decide_true, decide_false]
        refine IxW.nat hlt ?_
        simp only [↓sxD, ↓sxP0, ↓sxGd, sxP1, sxF, sxA, sxS, sxK, sxG, sxH, sxU, encs, tys, sxN, sevalprocAttr, ne_eq, decide_true, decide_false]
        have he : lsT t (k + 1) = (rdE t (ordT t)[k], (ordT t)[k]) := by rw [hs, ls1, if_pos (.inr h2)]
        repeat ((with_reducible refine Vc.go ?_ fun _ => ?_); (focus (first | omega | (simp only [InK]; omega) | (simp [InK]; done) | (simp [InK]; omega))); simp only [↓sxD, ↓sxP0, ↓sxGd, sxP1, sxF, sxA, sxS, sxK, sxG, sxH, sxU, encs, tys, sxN, sevalprocAttr, ne_eq, decide_true, decide_false])
        refine ⟨k + 1, StLe.auto (by simp only [sxS, sxL, sxF, sxG, sxH, sxU, encs, sxN, sevalprocAttr, ne_eq, decide_true, decide_false] <;> (try simp [he, encs]) <;> (try omega)), ?_, ?_⟩
        · omega
        · omega
      · simp only [↓sxD, ↓sxP0, ↓sxGd, sxP1, sxF, sxA, sxS, sxK, sxG, sxH, sxU, encs, tys, sxN, sevalprocAttr, ne_eq, decide_true, decide_false]
        have he : lsT t (k + 1) = lsT t k := by rw [hs, ls1, if_neg (by omega)]
        repeat ((with_reducible refine Vc.go ?_ fun _ => ?_); (focus (first | omega | (simp only [InK]; omega) | (simp [InK]; done) | (simp [InK]; omega))); simp only [↓sxD, ↓sxP0, ↓sxGd, sxP1, sxF, sxA, sxS, sxK, sxG, sxH, sxU, encs, tys, sxN, sevalprocAttr, ne_eq, decide_true, decide_false])
        refine ⟨k + 1, StLe.auto (by simp only [sxS, sxL, sxF, sxG, sxH, sxU, encs, sxN, sevalprocAttr, ne_eq, decide_true, decide_false] <;> (try simp [he, encs]) <;> (try omega)), ?_, ?_⟩
        · omega
        · omega
  · simp only [↓sxD, ↓sxP0, ↓sxGd, sxP1, sxF, sxA, sxS, sxK, sxG, sxH, sxU, encs, tys, sxN, sevalprocAttr, ne_eq, decide_true, decide_false]
    have hke : k = (ordT t).length := by omega
    subst hke
    exact EndW.fn (by simp only [sxL, sxG, sxH, sxU, encs, kpLL_map, sxN, sevalprocAttr, ne_eq, decide_true, decide_false] <;> (try simp [lsA]) <;> (try omega)) (by simp only [sxL, sxG, sxH, sxU, encs, kpLL_map, sxN, sevalprocAttr, ne_eq, decide_true, decide_false] <;> (try simp) <;> (try omega))
theorem least2_s (t : List (List Int)) (hd : ∀ r ∈ t, r.length ≤ 1000000000) : Ctr Try.prog 70 [.sl true 1 (t.map (eIB true))] (fun rr => rr = ⟨.tup [.sl true 1 (if tabErr t = 0 then (lsA t).2.map eI else []), (.v (.int .i64 (if tabErr t = 0 then (lsA t).1 else 0))), (.v (.int .i64 (tabErr t)))], []⟩) := by
  have encs := And.intro encs (show ∀ head n, ordC head n = [.pt true [.sl true 1 (head.map eI)], .pt true [.v (.int .i64 n)]] from fun _ _ => rfl)
  refine Ctr.of (rs := [.tmp 2, .tmp 3, .tmp 4]) Tok true Try.func70 rfl rfl rfl rfl (by simp [ofDL]) (fun w0 kp => ?_)
  simp only [↓sxD, ↓sxP0, ↓sxGd, sxP1, sxF, sxA, sxS, sxK, sxG, sxH, sxU, encs, tys, sxN, sevalprocAttr, ne_eq, decide_true, decide_false]
  refine CallI.fn (checkTable_s true true t hd) (by simp only [sxA, sxL, sxF, sxG, sxH, sxU, encs, sxN, sevalprocAttr, ne_eq, decide_true, decide_false] <;> (try simp) <;> (try rfl)) ?_
  simp only [↓sxD, ↓sxP0, ↓sxGd, sxP1, sxF, sxA, sxS, sxK, sxG, sxH, sxU, encs, tys, sxN, sevalprocAttr, ne_eq, decide_true, decide_false]
  refine BrW.dec (fun h1 => ?_) (fun h1 => ?_)
  · have h1 : ¬ tabErr t = 0 := h1
    rw [if_neg h1, if_neg h1]
    simp only [↓sxD, ↓sxP0, ↓sxGd, sxP1, sxF, sxA, sxS, sxK, sxG, sxH, sxU, encs, tys, sxN, sevalprocAttr, ne_eq, decide_true, decide_false]
    exact EndW.fn (by simp only [sxL, sxG, sxH, sxU, encs, kpLL_map, sxN, sevalprocAttr, ne_eq, decide_true, decide_false] <;> (try simp) <;> (try omega)) (by simp only [sxL, sxG, sxH, sxU, encs, kpLL_map, sxN, sevalprocAttr, ne_eq, decide_true, decide_false] <;> (try simp) <;> (try omega))
  · have h1 : tabErr t = 0 := Decidable.not_not.1 h1
    have ht := tabErr_ok h1
    have hn := ht.n
    rw [if_pos h1, if_pos h1, h1]
    simp only [↓sxD, ↓sxP0, ↓sxGd, sxP1, sxF, sxA, sxS, sxK, sxG, sxH, sxU, encs, tys, sxN, sevalprocAttr, ne_eq, decide_true, decide_false]
    refine CallI.fn (orders_s [] (t.length : Int)) (by simp only [sxA, sxL, sxF, sxG, sxH, sxU, encs, sxN, sevalprocAttr, ne_eq, decide_true, decide_false] <;> (try simp) <;> (try rfl)) ?_
    simp only [↓sxD, ↓sxP0, ↓sxGd, sxP1, sxF, sxA, sxS, sxK, sxG, sxH, sxU, encs, tys, sxN, sevalprocAttr, ne_eq, decide_true, decide_false]
    have hit := ordersIt_s t.length (by omega) t.length [] (by simp)
    have hA : ordL t.length t.length [] = ordT t := rfl
    rw [hA] at hit
    have encs := And.intro (And.intro encs (show ∀ o, eO o = [.sl true 1 (o.map eI)] from fun _ => rfl)) (show lsT t 0 = (-1, []) from rfl)
    refine RangeW.it Tok (fun _ => rfl) (fun hro => by first | rfl | exact (by rw [hro] at *; contradiction)) (hit) [(1, .box 0 0), (6, .box 1 0), (7, .box 2 0), (17, .clo 131 (ordC [] (t.length : Int)))] (fun ys => [some ⟨74, [.sl true 1 (t.map (eIB true))]⟩, some ⟨59, [.sl true 1 ((lsT t ys.length).2.map eI)]⟩, some ⟨3, [.v (.int .i64 (lsT t ys.length).1)]⟩]) (fun ys => []) (fun _ => True) trivial (by simp only [sxS, sxL, sxF, sxG, sxH, sxU, encs, sxN, sevalprocAttr, ne_eq, decide_true, decide_false] <;> (try simp) <;> (try omega)) rfl rfl (by simp [eO]) ?_ (fun hJall => ?_)
    · rintro pre d hpre - ρ σ μ ho' hy hs
      obtain ⟨q, hq⟩ := hpre
      have hk : pre.length < (ordT t).length := by
        have := congrArg List.length hq
        simp at this; omega
      have hd : d = eO (ordT t)[pre.length] := by
        have : ((ordT t).map eO)[pre.length]? = some d := by rw [← hq]; simp
        simpa [List.getElem?_eq_getElem hk, eq_comm] using this
      subst hd
      obtain ⟨o1, o2⟩ := ordT_ok (List.getElem_mem hk)
      obtain ⟨yd', ro, mks, fr, lp, sz⟩ := ho'
      have hsu := lsT_succ hk
      simp only [↓sxD, ↓sxP0, ↓sxGd, sxP1, sxF, sxA, sxS, sxK, sxG, sxH, sxU, encs, tys, sxN, sevalprocAttr, ne_eq, decide_true, decide_false]
      intro fr'
      refine CallI.fn (ready_s true true true t (ordT t)[pre.length] ht (by omega) o2) (by simp only [sxA, sxL, sxF, sxG, sxH, sxU, encs, sxN, sevalprocAttr, ne_eq, decide_true, decide_false] <;> (try simp) <;> (try rfl)) ?_
      simp only [↓sxD, ↓sxP0, ↓sxGd, sxP1, sxF, sxA, sxS, sxK, sxG, sxH, sxU, encs, tys, sxN, sevalprocAttr, ne_eq, decide_true, decide_false]
      refine BrW.dec (fun h2 => ?_) (fun h2 => ?_)
      · have he : lsT t (pre.length + 1) = (rdE t (ordT t)[pre.length], (ordT t)[pre.length]) := by rw [hsu, ls1, if_pos (.inl h2)]
        simp only [↓sxD, ↓sxP0, ↓sxGd, sxP1, sxF, sxA, sxS, sxK, sxG, sxH, sxU, encs, tys, sxN, sevalprocAttr, ne_eq, decide_true, decide_false]
        rw [he]
        simp only [sxS, sxL, sxF, sxG, sxH, sxU, encs, sxN, sevalprocAttr, ne_eq, decide_true, decide_false] <;> (try simp) <;> (try omega)
      · simp only [↓sxD, ↓sxP0, ↓sxGd, sxP1, sxF, sxA, sxS, sxK, sxG, sxH, sxU, encs, tys, sxN, sevalprocAttr, ne_eq, decide_true, decide_false]
        refine BrW.dec (fun h3 => ?_) (fun h3 => ?_)
        · have he : lsT t (pre.length + 1) = (rdE t (ordT t)[pre.length], (ordT t)[pre.length]) := by rw [hsu, ls1, if_pos (.inr h3)]
          simp only [↓sxD, ↓sxP0, ↓sxGd, sxP1, sxF, sxA, sxS, sxK, sxG, sxH, sxU, encs, tys, sxN, sevalprocAttr, ne_eq, decide_true, decide_false]
          rw [he]
          simp only [sxS, sxL, sxF, sxG, sxH, sxU, encs, sxN, sevalprocAttr, ne_eq, decide_true, decide_false] <;> (try simp) <;> (try omega)
        · have he : lsT t (pre.length + 1) = lsT t pre.length := by rw [hsu, ls1, if_neg (by omega)]
          simp only [↓sxD, ↓sxP0, ↓sxGd, sxP1, sxF, sxA, sxS, sxK, sxG, sxH, sxU, encs, tys, sxN, sevalprocAttr, ne_eq, decide_true, decide_false]
          rw [he]
          simp only [sxS, sxL, sxF, sxG, sxH, sxU, encs, sxN, sevalprocAttr, ne_eq, decide_true, decide_false] <;> (try simp) <;> (try omega)
    · have hbl : lsT t ((ordT t).map eO).length = lsA t := by rw [List.length_map]; rfl
      rw [hbl]
      simp only [↓sxD, ↓sxP0, ↓sxGd, sxP1, sxF, sxA, sxS, sxK, sxG, sxH, sxU, encs, tys, sxN, sevalprocAttr, ne_eq, decide_true, decide_false]
      refine DrawW.plan Tok mixed (.q 0 <| .q 1 <| .q 2 <| .q 3 <| .q 4 <| .done) (by kernel_rfl) (by kernel_rfl) ?_
      simp only [↓sxD, ↓sxP0, ↓sxGd, sxP1, sxF, sxA, sxS, sxK, sxG, sxH, sxU, encs, tys, sxN, sevalprocAttr, ne_eq, decide_true, decide_false]
      exact EndW.fn (by simp only [sxL, sxG, sxH, sxU, encs, kpLL_map, sxN, sevalprocAttr, ne_eq, decide_true, decide_false] <;> (try simp) <;> (try omega)) (by simp only [sxL, sxG, sxH, sxU, encs, kpLL_map, sxN, sevalprocAttr, ne_eq, decide_true, decide_false] <;> (try simp) <;> (try omega))
end Go.Proofs.Ytaagelngbbkllaa
