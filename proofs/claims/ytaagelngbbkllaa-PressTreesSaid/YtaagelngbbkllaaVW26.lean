/-
  Chapter 9, walks: minutes of an order by the reference.
-/
import Derived.Test.YtaagelngbbkllaaVW25
import Derived.Test.YtaagelngbbkllaaVW18
namespace Go.Proofs.Ytaagelngbbkllaa
open Go Go.Vx
set_option linter.unusedSimpArgs false
set_option linter.unusedVariables false
set_option maxRecDepth 20000
def allK (c : Cols) (o : List Int) (k : Nat) : Beg := allE c (o.take k)
theorem allK_succ {c : Cols} {o : List Int} {k : Nat} (h : k < o.length) : allK c o (k + 1) = withE c (allK c o k) o[k] := allE_succ h
theorem allK_all (c : Cols) (o : List Int) : allK c o o.length = allE c o := by rw [allK, List.take_length]
theorem allK_order {c : Cols} {o : List Int} : ∀ k, k ≤ o.length → (allK c o k).order = o.take k
  | 0, _ => rfl
  | k + 1, h => by
    rw [allK_succ h, List.take_succ_eq_append_getElem h]
    simp only [withE]
    rw [allK_order k (by omega)]
theorem endB_with (c : Cols) (x : Beg) (i : Int) : endB (withE c x i) = atK c x i x.order.length + minE c i := by simp [endB, withE]
theorem allK_ends {c : Cols} {o : List Int} : ∀ k, k ≤ o.length → (allK c o k).ends = (List.range k).map fun j => endB (allK c o (j + 1))
  | 0, _ => rfl
  | k + 1, h => by
    rw [List.range_succ, List.map_append, List.map_singleton, allK_succ h, endB_with]
    simp only [withE]
    rw [allK_ends k (by omega)]
theorem allK_end {c : Cols} {o : List Int} {j k : Nat} (hj : j < k) (hk : k ≤ o.length) (h : j < (allK c o k).ends.length) : (allK c o k).ends[j] = endB (allK c o (j + 1)) := by
  have := allK_ends (c := c) (o := o) k hk
  simp only [this, List.getElem_map, List.getElem_range]
theorem allK_bar {c : Cols} {o : List Int} : ∀ d k, k + d = o.length → (allK c o k).barred = true → (allE c o).barred = true
  | 0, k, h, hb => by rw [← allK_all, ← h]; exact hb
  | d + 1, k, h, hb => allK_bar d (k + 1) (by omega) (by rw [allK_succ (by omega)]; simp only [withE, barK, hb, Bool.true_or])
/-- when each colour is done, of the first 'k' ones. -/
def eR (c : Cols) (o : List Int) : Nat → List Int
  | 0 => List.replicate c.minutes.length 0
  | k + 1 => (eR c o k).set (o.getD k 0).toNat (endB (allK c o (k + 1)))
theorem eR_succ {c : Cols} {o : List Int} {k : Nat} (h : k < o.length) : eR c o (k + 1) = (eR c o k).set o[k].toNat (endB (allK c o (k + 1))) := by
  simp only [eR]
  rw [show o.getD k 0 = o[k] by simp [List.getD_eq_getElem?_getD, List.getElem?_eq_getElem h]]
theorem eR_len (c : Cols) (o : List Int) : ∀ k, (eR c o k).length = c.minutes.length
  | 0 => by simp [eR]
  | k + 1 => by simp only [eR, List.length_set]; exact eR_len c o k
theorem eR_get {c : Cols} {o : List Int} (hd : o.Nodup) (hb : ∀ i ∈ o, 0 ≤ i ∧ i < (c.minutes.length : Int)) : ∀ k (hk : k ≤ o.length) j (hj : j < k), (eR c o k)[(o[j]'(by omega)).toNat]? = some (endB (allK c o (j + 1)))
  | k + 1, hk, j, hj => by
    have hjl : j < o.length := by omega
    have hkl : k < o.length := by omega
    have b1 := hb _ (List.getElem_mem hjl)
    have b2 := hb _ (List.getElem_mem hkl)
    have hlen := eR_len c o k
    rw [eR_succ hkl, List.getElem?_set]
    by_cases e : j = k
    · subst e
      rw [if_pos rfl, if_pos (by omega)]
    · have hne : o[k].toNat ≠ o[j].toNat := fun h => by
        have h2 : o[j] = o[k] := by omega
        have := (List.getElem_inj hd).1 h2
        omega
      rw [if_neg hne]
      exact eR_get hd hb k (by omega) j (by omega)
theorem barK_le {c : Cols} {x : Beg} {i : Int} {a : Nat} (h : barK c x i a = true) : ∀ d, a + d ≤ x.order.length → barK c x i (a + d) = true
  | 0, _ => h
  | d + 1, hd => by rw [← Nat.add_assoc, barK_succ (by omega), barK_le h d (by omega), Bool.true_or]
theorem orderMinutesP_s (b1 b2 b3 b4 : Bool) (c : Cols) (o : List Int) (hc : ColOk c) (o1 : o.length ≤ c.minutes.length) (o2 : o.Nodup) (o3 : ∀ i ∈ o, 0 ≤ i ∧ i < (c.minutes.length : Int)) : Ctr Try.prog 50 [cV b1 b2 b3 c, .sl b4 1 (o.map eI)] (fun rr => rr = ⟨.tup [(.v (.int .i64 (if (allE c o).barred = true then 0 else endB (allE c o)))), (.v (.bool (!(allE c o).barred)))], []⟩) := by
  have hn := hc.n
  have hdl := hc.len
  have encs0 := encs
  have encs := And.intro encs (And.intro repI repI2)
  refine Ctr.of (rs := [.tmp 4, .tmp 5]) Tok true Try.func50 rfl rfl rfl rfl (by simp [ofDL]) (fun w0 kp => ?_)
  simp only [↓sxD, ↓sxP0, ↓sxGd, sxP1, sxF, sxA, sxS, sxK, sxG, sxH, sxU, encs, tys, sxN, sevalprocAttr, ne_eq, decide_true, decide_false]
  repeat ((with_reducible refine Vc.go ?_ fun _ => ?_); (focus (first | omega | (simp only [InK]; omega) | (simp [InK]; done) | (simp [InK]; omega))); simp only [↓sxD, ↓sxP0, ↓sxGd, sxP1, sxF, sxA, sxS, sxK, sxG, sxH, sxU, encs, tys, sxN, sevalprocAttr, ne_eq, decide_true, decide_false])
  replace encs := encs0
  refine LoopW.comp [1, 2, 6, 7, 8] (by simp only [sxS, sxL, sxF, sxG, sxH, sxU, encs, sxN, sevalprocAttr, ne_eq, decide_true, decide_false] <;> (try simp) <;> (try omega)) ?_
  simp only [sxS, sxF, sxG, sxH, sxU, sxN, sevalprocAttr, ne_eq, decide_true, decide_false]
  refine LoopW.up Tok (fun k : Nat => [(7, (.v (.int .i64 (endB (allK c o k))))), (8, (.v (.int .i64 k)))]) (fun k => []) (fun k => [(0, (eR c o k).map eI)]) (fun k => []) (fun k => k ≤ o.length ∧ (allK c o k).barred = false) (fun k => o.length - k) (0) (by simp only [sxS, sxL, sxF, sxG, sxH, sxU, encs, sxN, sevalprocAttr, ne_eq, decide_true, decide_false] <;> (try simp [eR, allK, allE, g0, endB, encs]) <;> (try omega)) ?_ ?_
  · exact ⟨by omega, rfl⟩
  rintro k ⟨hk, hbar⟩
  simp only [↓sxD, ↓sxP0, ↓sxGd, sxP1, sxF, sxA, sxS, sxK, sxG, sxH, sxU, encs, tys, sxN, sevalprocAttr, ne_eq, decide_true, decide_false]
  refine BrW.dec (fun hlt => ?_) (fun hlt => ?_)
  · simp only [↓sxD, ↓sxP0, ↓sxGd, sxP1, sxF, sxA, sxS, sxK, sxG, sxH, sxU, encs, tys, sxN, sevalprocAttr, ne_eq, decide_true, decide_false]
    have hlt : k < o.length := by omega
    have hik := o3 _ (List.getElem_mem hlt)
    have hok : BegOk c (allK c o k) k := allE_ok hc o3 k hk
    have hord := allK_order (c := c) (o := o) k hk
    have hoe : (allK c o k).ends.length = k := hok.le
    have hol : (allK c o k).order.length = k := hok.lo
    have hrl := eR_len c o k
    refine IxW.nat hlt ?_
    simp only [↓sxD, ↓sxP0, ↓sxGd, sxP1, sxF, sxA, sxS, sxK, sxG, sxH, sxU, encs, tys, sxN, sevalprocAttr, ne_eq, decide_true, decide_false]
    refine LoopW.comp [1, 2, 6, 7, 8, 9, 10] (by simp only [sxS, sxL, sxF, sxG, sxH, sxU, encs, sxN, sevalprocAttr, ne_eq, decide_true, decide_false] <;> (try simp) <;> (try omega)) ?_
    simp only [sxS, sxF, sxG, sxH, sxU, sxN, sevalprocAttr, ne_eq, decide_true, decide_false]
    refine LoopW.up Tok (fun j : Nat => [(7, (.v (.int .i64 (atK c (allK c o k) o[k] j)))), (10, (.v (.int .i64 j)))]) (fun j => []) (fun j => []) (fun j => []) (fun j => j ≤ k ∧ barK c (allK c o k) o[k] j = false) (fun j => k - j) (0) (by simp only [sxS, sxL, sxF, sxG, sxH, sxU, encs, sxN, sevalprocAttr, ne_eq, decide_true, decide_false] <;> (try simp [atK, encs]) <;> (try omega)) ?_ ?_
    · exact ⟨by omega, by simp [barK, hbar]⟩
    rintro j ⟨hj, hbj⟩
    simp only [↓sxD, ↓sxP0, ↓sxGd, sxP1, sxF, sxA, sxS, sxK, sxG, sxH, sxU, encs, tys, sxN, sevalprocAttr, ne_eq, decide_true, decide_false]
    refine BrW.dec (fun hlt2 => ?_) (fun hlt2 => ?_)
    · simp only [↓sxD, ↓sxP0, ↓sxGd, sxP1, sxF, sxA, sxS, sxK, sxG, sxH, sxU, encs, tys, sxN, sevalprocAttr, ne_eq, decide_true, decide_false]
      have hjt : j < k := by omega
      have hjl : j < o.length := by omega
      have hij := o3 _ (List.getElem_mem hjl)
      refine DrawW.plan Tok mixed (.q 0 <| .q 1 <| .q 2 <| .q 3 <| .q 4 <| .q 5 <| .q 6 <| .q 7 <| .q 8 <| .q 9 <| .q 10 <| .q 11 <| .done) (by kernel_rfl) (by kernel_rfl) ?_
      simp only [↓sxD, ↓sxP0, ↓sxGd, sxP1, sxF, sxA, sxS, sxK, sxG, sxH, sxU, encs, tys, sxN, sevalprocAttr, ne_eq, decide_true, decide_false]
      refine IxW.nat hjl ?_
      simp only [↓sxD, ↓sxP0, ↓sxGd, sxP1, sxF, sxA, sxS, sxK, sxG, sxH, sxU, encs, tys, sxN, sevalprocAttr, ne_eq, decide_true, decide_false]
      have hr : o[j].toNat < c.dry.length := by omega
      refine IxW.map (c.dry[o[j].toNat]'hr) (by omega) (List.getElem?_eq_getElem hr) ?_
      simp only [↓sxD, ↓sxP0, ↓sxGd, sxP1, sxF, sxA, sxS, sxK, sxG, sxH, sxU, encs, tys, sxN, sevalprocAttr, ne_eq, decide_true, decide_false]
      have hri := hc.row _ (List.getElem_mem hr)
      have hd : o[k].toNat < (c.dry[o[j].toNat]'hr).length := by omega
      have hx : (c.dry[o[j].toNat]'hr)[o[k].toNat]? = some (dryE c o[j] o[k]) := by
        simp [dryE, List.getD_eq_getElem?_getD, List.getElem?_eq_getElem hr, List.getElem?_eq_getElem hd]
      refine IxW.map (dryE c o[j] o[k]) (by omega) hx ?_
      simp only [↓sxD, ↓sxP0, ↓sxGd, sxP1, sxF, sxA, sxS, sxK, sxG, sxH, sxU, encs, tys, sxN, sevalprocAttr, ne_eq, decide_true, decide_false]
      have hoj : ∀ (h : j < (allK c o k).order.length), (allK c o k).order[j] = o[j] := fun h => by simp [hord]
      have hbs := barK_succ (c := c) (x := allK c o k) (i := o[k]) (k := j) (by omega)
      rw [hoj, hbj, Bool.false_or] at hbs
      refine BrW.dec (fun hneg => ?_) (fun hneg => ?_)
      · simp only [↓sxD, ↓sxP0, ↓sxGd, sxP1, sxF, sxA, sxS, sxK, sxG, sxH, sxU, encs, tys, sxN, sevalprocAttr, ne_eq, decide_true, decide_false]
        have hbk : (allK c o (k + 1)).barred = true := by
          rw [allK_succ hlt]
          show barK c (allK c o k) o[k] (allK c o k).order.length = true
          have := barK_le (c := c) (x := allK c o k) (i := o[k]) (a := j + 1) (by rw [hbs]; exact decide_eq_true hneg) (k - (j + 1)) (by omega)
          rwa [show j + 1 + (k - (j + 1)) = (allK c o k).order.length by omega] at this
        have hba := allK_bar (o.length - (k + 1)) (k + 1) (by omega) hbk
        rw [hba]
        exact EndW.fn (by simp only [sxL, sxG, sxH, sxU, encs, kpLL_map, sxN, sevalprocAttr, ne_eq, decide_true, decide_false] <;> (try simp) <;> (try omega)) (by simp only [sxL, sxG, sxH, sxU, encs, kpLL_map, sxN, sevalprocAttr, ne_eq, decide_true, decide_false] <;> (try simp) <;> (try omega))
      · simp only [↓sxD, ↓sxP0, ↓sxGd, sxP1, sxF, sxA, sxS, sxK, sxG, sxH, sxU, encs, tys, sxN, sevalprocAttr, ne_eq, decide_true, decide_false]
        have hge := eR_get o2 o3 k hk j hjt
        have has := atK_succ (c := c) (x := allK c o k) (i := o[k]) (k := j) (by omega) (by omega)
        rw [hoj, allK_end hjt hk] at has
        have hda := dryE_b hc o[j] o[k]
        have heb := hok.e (endB (allK c o (j + 1))) (by rw [← allK_end hjt hk (by omega)]; exact List.getElem_mem _)
        have hbf : barK c (allK c o k) o[k] (j + 1) = false := by rw [hbs]; exact decide_eq_false hneg
        refine IxW.nat hjl ?_
        simp only [↓sxD, ↓sxP0, ↓sxGd, sxP1, sxF, sxA, sxS, sxK, sxG, sxH, sxU, encs, tys, sxN, sevalprocAttr, ne_eq, decide_true, decide_false]
        repeat ((with_reducible refine Vc.go ?_ fun _ => ?_); (focus (first | omega | (simp only [InK]; omega) | (simp [InK]; done) | (simp [InK]; omega))); simp only [↓sxD, ↓sxP0, ↓sxGd, sxP1, sxF, sxA, sxS, sxK, sxG, sxH, sxU, encs, tys, sxN, sevalprocAttr, ne_eq, decide_true, decide_false])
        refine IxW.map (endB (allK c o (j + 1))) (by omega) hge ?_
        simp only [↓sxD, ↓sxP0, ↓sxGd, sxP1, sxF, sxA, sxS, sxK, sxG, sxH, sxU, encs, tys, sxN, sevalprocAttr, ne_eq, decide_true, decide_false]
        repeat ((with_reducible refine Vc.go ?_ fun _ => ?_); (focus (first | omega | (simp only [InK]; omega) | (simp [InK]; done) | (simp [InK]; omega))); simp only [↓sxD, ↓sxP0, ↓sxGd, sxP1, sxF, sxA, sxS, sxK, sxG, sxH, sxU, encs, tys, sxN, sevalprocAttr, ne_eq, decide_true, decide_false])
        refine ⟨j + 1, StLe.auto (by simp only [sxS, sxL, sxF, sxG, sxH, sxU, encs, sxN, sevalprocAttr, ne_eq, decide_true, decide_false] <;> (try simp [has, encs]) <;> (try omega)), ?_, ?_⟩
        · exact ⟨by omega, hbf⟩
        · omega
    · simp only [↓sxD, ↓sxP0, ↓sxGd, sxP1, sxF, sxA, sxS, sxK, sxG, sxH, sxU, encs, tys, sxN, sevalprocAttr, ne_eq, decide_true, decide_false]
      have hje : j = k := by omega
      subst hje
      have hmi : o[j].toNat < c.minutes.length := by omega
      have hmx : c.minutes[o[j].toNat]? = some (minE c o[j]) := by
        simp [minE, List.getD_eq_getElem?_getD, List.getElem?_eq_getElem hmi]
      have hmb := minE_b hc o[j]
      have hab := atK_b hc hok o[j] j (Nat.le_refl _)
      have he : endB (allK c o (j + 1)) = atK c (allK c o j) o[j] j + minE c o[j] := by rw [allK_succ hlt, endB_with, hol]
      have hbf : (allK c o (j + 1)).barred = false := by
        rw [allK_succ hlt]
        show barK c (allK c o j) o[j] (allK c o j).order.length = false
        rw [hol]; exact hbj
      refine IxW.map (minE c o[j]) (by omega) hmx ?_
      simp only [↓sxD, ↓sxP0, ↓sxGd, sxP1, sxF, sxA, sxS, sxK, sxG, sxH, sxU, encs, tys, sxN, sevalprocAttr, ne_eq, decide_true, decide_false]
      repeat ((with_reducible refine Vc.go ?_ fun _ => ?_); (focus (first | omega | (simp only [InK]; omega) | (simp [InK]; done) | (simp [InK]; omega))); simp only [↓sxD, ↓sxP0, ↓sxGd, sxP1, sxF, sxA, sxS, sxK, sxG, sxH, sxU, encs, tys, sxN, sevalprocAttr, ne_eq, decide_true, decide_false])
      refine ⟨j + 1, StLe.auto (by simp only [sxS, sxL, sxF, sxG, sxH, sxU, encs, sxN, sevalprocAttr, ne_eq, decide_true, decide_false] <;> (try simp [eR_succ hlt, modI, he, encs]) <;> (try omega)), ?_, ?_⟩
      · exact ⟨by omega, hbf⟩
      · omega
  · simp only [↓sxD, ↓sxP0, ↓sxGd, sxP1, sxF, sxA, sxS, sxK, sxG, sxH, sxU, encs, tys, sxN, sevalprocAttr, ne_eq, decide_true, decide_false]
    have hke : k = o.length := by omega
    subst hke
    rw [allK_all] at hbar ⊢
    rw [hbar]
    exact EndW.fn (by simp only [sxL, sxG, sxH, sxU, encs, kpLL_map, sxN, sevalprocAttr, ne_eq, decide_true, decide_false] <;> (try simp) <;> (try omega)) (by simp only [sxL, sxG, sxH, sxU, encs, kpLL_map, sxN, sevalprocAttr, ne_eq, decide_true, decide_false] <;> (try simp) <;> (try omega))
theorem orderMinutesR_s (b1 b2 b3 b4 : Bool) (c : Cols) (o : List Int) (hc : ColOk c) (ho : ordErr c.minutes.length o = 0) : Ctr Try.prog 50 [cV b1 b2 b3 c, .sl b4 1 (o.map eI)] (fun rr => rr = ⟨.tup [(.v (.int .i64 (if (allE c o).barred = true then 0 else endB (allE c o)))), (.v (.bool (!(allE c o).barred)))], []⟩) := by
  obtain ⟨o1, o2, o3⟩ := ordErr_ok ho
  exact orderMinutesP_s b1 b2 b3 b4 c o hc (by omega) o2 o3
end Go.Proofs.Ytaagelngbbkllaa
