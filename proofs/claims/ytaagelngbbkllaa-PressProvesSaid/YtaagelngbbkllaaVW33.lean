/-
  Chapter 9: the law of make-ready.
-/
import Derived.Test.YtaagelngbbkllaaVW32
import Derived.Test.YtaagelngbbkllaaVW22
import Derived.Test.YtaagelngbbkllaaVW24
namespace Go.Proofs.Ytaagelngbbkllaa
open Go Go.Vx
set_option linter.unusedSimpArgs false
set_option linter.unusedVariables false
set_option maxRecDepth 20000
theorem ordL_in {n : Nat} : ∀ (m : Nat) (head tail : List Int), tail.length = m → (head ++ tail).Nodup → (∀ i ∈ tail, 0 ≤ i ∧ i < (n : Int)) → head ++ tail ∈ ordL n m head
  | 0, head, tail, hl, hd, hb => by
    have : tail = [] := List.eq_nil_of_length_eq_zero hl
    subst this
    simp [ordL]
  | m + 1, head, [], hl, hd, hb => by simp at hl
  | m + 1, head, a :: tl, hl, hd, hb => by
    have ha := hb a (by simp)
    have ea : ((a.toNat : Nat) : Int) = a := by omega
    have hn : memB a head = false := by
      rw [memB_not]
      intro h
      rw [List.nodup_append] at hd
      exact hd.2.2 a h a (by simp) rfl
    have h := ordL_in (n := n) m (head ++ [a]) tl (by simpa using hl) (by simpa using hd) fun i hi => hb i (List.mem_cons_of_mem _ hi)
    simp only [ordL, List.mem_flatMap, List.mem_range]
    refine ⟨a.toNat, by omega, ?_⟩
    rw [ea, hn]
    simpa using h
theorem ordT_in {t : List (List Int)} {o : List Int} (h : ordErr t.length o = 0) : o ∈ ordT t := by
  obtain ⟨o1, o2, o3⟩ := ordErr_ok h
  exact ordL_in t.length [] o o1 o2 o3
theorem ordT_ne (t : List (List Int)) : 0 < (ordT t).length := by
  have h := ordL_in (n := t.length) t.length [] ((List.range t.length).map fun i : Nat => (i : Int)) (by simp) (by
    simp only [List.nil_append]
    exact List.Pairwise.map (fun i : Nat => (i : Int)) (fun a b h => by omega) List.nodup_range) fun i hi => by
      simp only [List.mem_map, List.mem_range] at hi
      obtain ⟨a, ha, rfl⟩ := hi
      omega
  exact List.length_pos_of_mem h
theorem rdE_b {t : List (List Int)} (ht : TbOk t) (o : List Int) : 0 ≤ rdE t o := (rdK_b ht o _).1
theorem lsT_le {t : List (List Int)} (ht : TbOk t) : ∀ k, k ≤ (ordT t).length → (0 < k → 0 ≤ (lsT t k).1) ∧ ∀ j (hj : j < (ordT t).length), j < k → (lsT t k).1 ≤ rdE t (ordT t)[j]
  | 0, _ => ⟨fun h => by omega, fun j _ h => by omega⟩
  | k + 1, hk => by
    have ih := lsT_le ht k (by omega)
    have hb := rdE_b ht ((ordT t)[k]'(by omega))
    rw [lsT_succ (by omega), ls1]
    split
    · rename_i h
      refine ⟨fun _ => hb, fun j hj hjk => ?_⟩
      by_cases e : j = k
      · subst e; exact Int.le_refl _
      · have := ih.2 j hj (by omega)
        have := rdE_b ht (ordT t)[j]
        have := ih.1 (by omega)
        rcases h with h | h
        · omega
        · show rdE t _ ≤ _
          omega
    · rename_i h
      refine ⟨fun _ => by omega, fun j hj hjk => ?_⟩
      by_cases e : j = k
      · subst e; omega
      · exact ih.2 j hj (by omega)
theorem lsA_b {t : List (List Int)} (ht : TbOk t) : 0 ≤ (lsA t).1 := (lsT_le ht _ (Nat.le_refl _)).1 (ordT_ne t)
theorem lsA_le {t : List (List Int)} (ht : TbOk t) {o : List Int} (h : ordErr t.length o = 0) : (lsA t).1 ≤ rdE t o := by
  obtain ⟨j, hj, rfl⟩ := List.getElem_of_mem (ordT_in h)
  exact (lsT_le ht _ (Nat.le_refl _)).2 j hj hj
theorem lsT_len (t : List (List Int)) : ∀ k, (lsT t k).2.length ≤ t.length
  | 0 => by simp [lsT]
  | k + 1 => by
    by_cases hk : k < (ordT t).length
    · rw [lsT_succ hk, ls1]
      split
      · exact Nat.le_of_eq (ordT_ok (List.getElem_mem hk)).1
      · exact lsT_len t k
    · have : lsT t (k + 1) = lsT t k := by unfold lsT; rw [List.take_of_length_le (by omega), List.take_of_length_le (by omega)]
      rw [this]; exact lsT_len t k
theorem hlsl (t : List (List Int)) : (lsA t).2.length ≤ t.length := lsT_len t _
theorem readyLaw_s (t : List (List Int)) (o : List Int) : Ctr Try.prog 13 [.sl true 1 (t.map (eIB true)), .sl true 1 (o.map eI)] (fun rr => rr = ⟨(.v (.bool (true))), []⟩) := by
  refine Ctr.of (rs := [.tmp 4]) Tok true Try.func13 rfl rfl rfl rfl (by simp [ofDL]) (fun w0 kp => ?_)
  simp only [↓sxD, ↓sxP0, ↓sxGd, sxP1, sxF, sxA, sxS, sxK, sxG, sxH, sxU, encs, tys, sxN, sevalprocAttr, ne_eq, decide_true, decide_false]
  refine CallI.fn (awake_s) (by simp only [sxA, sxL, sxF, sxG, sxH, sxU, encs, sxN, sevalprocAttr, ne_eq, decide_true, decide_false] <;> (try simp) <;> (try rfl)) ?_
  simp only [↓sxD, ↓sxP0, ↓sxGd, sxP1, sxF, sxA, sxS, sxK, sxG, sxH, sxU, encs, tys, sxN, sevalprocAttr, ne_eq, decide_true, decide_false]
  refine BrW.dec (fun q1 => ?_) (fun q1 => ?_)
  · simp only [↓sxD, ↓sxP0, ↓sxGd, sxP1, sxF, sxA, sxS, sxK, sxG, sxH, sxU, encs, tys, sxN, sevalprocAttr, ne_eq, decide_true, decide_false]
    refine BrW.dec (fun q2 => ?_) (fun q2 => ?_)
    · simp only [↓sxD, ↓sxP0, ↓sxGd, sxP1, sxF, sxA, sxS, sxK, sxG, sxH, sxU, encs, tys, sxN, sevalprocAttr, ne_eq, decide_true, decide_false]
      exact EndW.fn (by simp only [sxL, sxG, sxH, sxU, encs, kpLL_map, sxN, sevalprocAttr, ne_eq, decide_true, decide_false] <;> (try simp) <;> (try omega)) (by simp only [sxL, sxG, sxH, sxU, encs, kpLL_map, sxN, sevalprocAttr, ne_eq, decide_true, decide_false] <;> (try simp) <;> (try omega))
    · simp only [↓sxD, ↓sxP0, ↓sxGd, sxP1, sxF, sxA, sxS, sxK, sxG, sxH, sxU, encs, tys, sxN, sevalprocAttr, ne_eq, decide_true, decide_false]
      refine BrW.dec (fun q3 => ?_) (fun q3 => ?_)
      · simp only [↓sxD, ↓sxP0, ↓sxGd, sxP1, sxF, sxA, sxS, sxK, sxG, sxH, sxU, encs, tys, sxN, sevalprocAttr, ne_eq, decide_true, decide_false]
        exact EndW.fn (by simp only [sxL, sxG, sxH, sxU, encs, kpLL_map, sxN, sevalprocAttr, ne_eq, decide_true, decide_false] <;> (try simp) <;> (try omega)) (by simp only [sxL, sxG, sxH, sxU, encs, kpLL_map, sxN, sevalprocAttr, ne_eq, decide_true, decide_false] <;> (try simp) <;> (try omega))
      · simp only [↓sxD, ↓sxP0, ↓sxGd, sxP1, sxF, sxA, sxS, sxK, sxG, sxH, sxU, encs, tys, sxN, sevalprocAttr, ne_eq, decide_true, decide_false]
        refine BrW.dec (fun q4 => ?_) (fun q4 => ?_)
        · simp only [↓sxD, ↓sxP0, ↓sxGd, sxP1, sxF, sxA, sxS, sxK, sxG, sxH, sxU, encs, tys, sxN, sevalprocAttr, ne_eq, decide_true, decide_false]
          exact EndW.fn (by simp only [sxL, sxG, sxH, sxU, encs, kpLL_map, sxN, sevalprocAttr, ne_eq, decide_true, decide_false] <;> (try simp) <;> (try omega)) (by simp only [sxL, sxG, sxH, sxU, encs, kpLL_map, sxN, sevalprocAttr, ne_eq, decide_true, decide_false] <;> (try simp) <;> (try omega))
        · simp only [↓sxD, ↓sxP0, ↓sxGd, sxP1, sxF, sxA, sxS, sxK, sxG, sxH, sxU, encs, tys, sxN, sevalprocAttr, ne_eq, decide_true, decide_false]
          have h1 : ¬ tabErr t = 0 := fun h => by have := (tabErr_ok h).n; omega
          skip
          refine LoopW.comp [0, 1, 5] (by simp only [sxS, sxL, sxF, sxG, sxH, sxU, encs, sxN, sevalprocAttr, ne_eq, decide_true, decide_false] <;> (try simp) <;> (try omega)) ?_
          simp only [sxS, sxF, sxG, sxH, sxU, sxN, sevalprocAttr, ne_eq, decide_true, decide_false]
          refine LoopW.up Tok (fun k : Nat => [(5, (.v (.int .i64 k)))]) (fun k => []) (fun k => []) (fun k => []) (fun k => k ≤ t.length ∧ ∀ r ∈ t.take k, r.length ≤ 9) (fun k => t.length - k) (0) (by simp only [sxS, sxL, sxF, sxG, sxH, sxU, encs, sxN, sevalprocAttr, ne_eq, decide_true, decide_false] <;> (try simp) <;> (try omega)) ?_ ?_
          · exact ⟨by omega, by simp⟩
          rintro k ⟨hk, hro⟩
          simp only [↓sxD, ↓sxP0, ↓sxGd, sxP1, sxF, sxA, sxS, sxK, sxG, sxH, sxU, encs, tys, sxN, sevalprocAttr, ne_eq, decide_true, decide_false]
          refine BrW.dec (fun hlt => ?_) (fun hlt => ?_)
          · simp only [↓sxD, ↓sxP0, ↓sxGd, sxP1, sxF, sxA, sxS, sxK, sxG, sxH, sxU, encs, tys, sxN, sevalprocAttr, ne_eq, decide_true, decide_false]
            have hlt : k < t.length := by omega
            refine IxW.nat hlt ?_
            simp only [↓sxD, ↓sxP0, ↓sxGd, sxP1, sxF, sxA, sxS, sxK, sxG, sxH, sxU, encs, tys, sxN, sevalprocAttr, ne_eq, decide_true, decide_false]
            refine BrW.dec (fun h9 => ?_) (fun h9 => ?_)
            · simp only [↓sxD, ↓sxP0, ↓sxGd, sxP1, sxF, sxA, sxS, sxK, sxG, sxH, sxU, encs, tys, sxN, sevalprocAttr, ne_eq, decide_true, decide_false]
              exact EndW.fn (by simp only [sxL, sxG, sxH, sxU, encs, kpLL_map, sxN, sevalprocAttr, ne_eq, decide_true, decide_false] <;> (try simp) <;> (try omega)) (by simp only [sxL, sxG, sxH, sxU, encs, kpLL_map, sxN, sevalprocAttr, ne_eq, decide_true, decide_false] <;> (try simp) <;> (try omega))
            · simp only [↓sxD, ↓sxP0, ↓sxGd, sxP1, sxF, sxA, sxS, sxK, sxG, sxH, sxU, encs, tys, sxN, sevalprocAttr, ne_eq, decide_true, decide_false]
              repeat ((with_reducible refine Vc.go ?_ fun _ => ?_); (focus (first | omega | (simp only [InK]; omega) | (simp [InK]; done) | (simp [InK]; omega))); simp only [↓sxD, ↓sxP0, ↓sxGd, sxP1, sxF, sxA, sxS, sxK, sxG, sxH, sxU, encs, tys, sxN, sevalprocAttr, ne_eq, decide_true, decide_false])
              refine ⟨k + 1, StLe.auto (by simp only [sxS, sxL, sxF, sxG, sxH, sxU, encs, sxN, sevalprocAttr, ne_eq, decide_true, decide_false] <;> (try simp) <;> (try omega)), ?_, ?_⟩
              · refine ⟨hlt, fun r hr => ?_⟩
                rw [List.take_succ_eq_append_getElem hlt, List.mem_append, List.mem_singleton] at hr
                rcases hr with hr | rfl
                · exact hro r hr
                · omega
              · omega
          · simp only [↓sxD, ↓sxP0, ↓sxGd, sxP1, sxF, sxA, sxS, sxK, sxG, sxH, sxU, encs, tys, sxN, sevalprocAttr, ne_eq, decide_true, decide_false]
            have hke : k = t.length := by omega
            subst hke
            rw [List.take_length] at hro
            have hd : ∀ r ∈ t, r.length ≤ 1000000000 := fun r hr => by have := hro r hr; omega
            have hd2 : ∀ r ∈ t, r.length ≤ 1000000 := fun r hr => by have := hro r hr; omega
            have c1 := makeReady_s true true true t o hd
            have c2 := least2_s t hd
            have c3 := tabErr_r true true t hd
            refine CallI.fn (copyLists_s true true t (by omega) hd2) (by simp only [sxA, sxL, sxF, sxG, sxH, sxU, encs, sxN, sevalprocAttr, ne_eq, decide_true, decide_false] <;> (try simp) <;> (try rfl)) ?_
            simp only [↓sxD, ↓sxP0, ↓sxGd, sxP1, sxF, sxA, sxS, sxK, sxG, sxH, sxU, encs, tys, sxN, sevalprocAttr, ne_eq, decide_true, decide_false]
            refine CallI.fn (copyInts_s true o (by omega)) (by simp only [sxA, sxL, sxF, sxG, sxH, sxU, encs, sxN, sevalprocAttr, ne_eq, decide_true, decide_false] <;> (try simp) <;> (try rfl)) ?_
            simp only [↓sxD, ↓sxP0, ↓sxGd, sxP1, sxF, sxA, sxS, sxK, sxG, sxH, sxU, encs, tys, sxN, sevalprocAttr, ne_eq, decide_true, decide_false]
            rw [if_neg (fun h => h1 h.1), if_neg h1] at c1
            rw [if_neg h1, if_neg h1] at c2
            refine CallI.fn (c1) (by simp only [sxA, sxL, sxF, sxG, sxH, sxU, encs, sxN, sevalprocAttr, ne_eq, decide_true, decide_false] <;> (try simp) <;> (try rfl)) ?_
            simp only [↓sxD, ↓sxP0, ↓sxGd, sxP1, sxF, sxA, sxS, sxK, sxG, sxH, sxU, encs, tys, sxN, sevalprocAttr, ne_eq, decide_true, decide_false]
            refine CallI.fn (copyLists_s true true t (by omega) hd2) (by simp only [sxA, sxL, sxF, sxG, sxH, sxU, encs, sxN, sevalprocAttr, ne_eq, decide_true, decide_false] <;> (try simp) <;> (try rfl)) ?_
            simp only [↓sxD, ↓sxP0, ↓sxGd, sxP1, sxF, sxA, sxS, sxK, sxG, sxH, sxU, encs, tys, sxN, sevalprocAttr, ne_eq, decide_true, decide_false]
            refine CallI.fn (c2) (by simp only [sxA, sxL, sxF, sxG, sxH, sxU, encs, sxN, sevalprocAttr, ne_eq, decide_true, decide_false] <;> (try simp) <;> (try rfl)) ?_
            simp only [↓sxD, ↓sxP0, ↓sxGd, sxP1, sxF, sxA, sxS, sxK, sxG, sxH, sxU, encs, tys, sxN, sevalprocAttr, ne_eq, decide_true, decide_false]
            refine CallI.fn (c3) (by simp only [sxA, sxL, sxF, sxG, sxH, sxU, encs, sxN, sevalprocAttr, ne_eq, decide_true, decide_false] <;> (try simp) <;> (try rfl)) ?_
            simp only [↓sxD, ↓sxP0, ↓sxGd, sxP1, sxF, sxA, sxS, sxK, sxG, sxH, sxU, encs, tys, sxN, sevalprocAttr, ne_eq, decide_true, decide_false]
            refine BrW.yes h1 ?_
            simp only [↓sxD, ↓sxP0, ↓sxGd, sxP1, sxF, sxA, sxS, sxK, sxG, sxH, sxU, encs, tys, sxN, sevalprocAttr, ne_eq, decide_true, decide_false]
            exact EndW.fn (by simp only [sxL, sxG, sxH, sxU, encs, kpLL_map, sxN, sevalprocAttr, ne_eq, decide_true, decide_false] <;> (try simp) <;> (try omega)) (by simp only [sxL, sxG, sxH, sxU, encs, kpLL_map, sxN, sevalprocAttr, ne_eq, decide_true, decide_false] <;> (try simp) <;> (try omega))
  · simp only [↓sxD, ↓sxP0, ↓sxGd, sxP1, sxF, sxA, sxS, sxK, sxG, sxH, sxU, encs, tys, sxN, sevalprocAttr, ne_eq, decide_true, decide_false]
    refine BrW.no (by omega) ?_
    simp only [↓sxD, ↓sxP0, ↓sxGd, sxP1, sxF, sxA, sxS, sxK, sxG, sxH, sxU, encs, tys, sxN, sevalprocAttr, ne_eq, decide_true, decide_false]
    refine BrW.dec (fun q4 => ?_) (fun q4 => ?_)
    · simp only [↓sxD, ↓sxP0, ↓sxGd, sxP1, sxF, sxA, sxS, sxK, sxG, sxH, sxU, encs, tys, sxN, sevalprocAttr, ne_eq, decide_true, decide_false]
      exact EndW.fn (by simp only [sxL, sxG, sxH, sxU, encs, kpLL_map, sxN, sevalprocAttr, ne_eq, decide_true, decide_false] <;> (try simp) <;> (try omega)) (by simp only [sxL, sxG, sxH, sxU, encs, kpLL_map, sxN, sevalprocAttr, ne_eq, decide_true, decide_false] <;> (try simp) <;> (try omega))
    · simp only [↓sxD, ↓sxP0, ↓sxGd, sxP1, sxF, sxA, sxS, sxK, sxG, sxH, sxU, encs, tys, sxN, sevalprocAttr, ne_eq, decide_true, decide_false]
      skip
      refine LoopW.comp [0, 1, 5] (by simp only [sxS, sxL, sxF, sxG, sxH, sxU, encs, sxN, sevalprocAttr, ne_eq, decide_true, decide_false] <;> (try simp) <;> (try omega)) ?_
      simp only [sxS, sxF, sxG, sxH, sxU, sxN, sevalprocAttr, ne_eq, decide_true, decide_false]
      refine LoopW.up Tok (fun k : Nat => [(5, (.v (.int .i64 k)))]) (fun k => []) (fun k => []) (fun k => []) (fun k => k ≤ t.length ∧ ∀ r ∈ t.take k, r.length ≤ 9) (fun k => t.length - k) (0) (by simp only [sxS, sxL, sxF, sxG, sxH, sxU, encs, sxN, sevalprocAttr, ne_eq, decide_true, decide_false] <;> (try simp) <;> (try omega)) ?_ ?_
      · exact ⟨by omega, by simp⟩
      rintro k ⟨hk, hro⟩
      simp only [↓sxD, ↓sxP0, ↓sxGd, sxP1, sxF, sxA, sxS, sxK, sxG, sxH, sxU, encs, tys, sxN, sevalprocAttr, ne_eq, decide_true, decide_false]
      refine BrW.dec (fun hlt => ?_) (fun hlt => ?_)
      · simp only [↓sxD, ↓sxP0, ↓sxGd, sxP1, sxF, sxA, sxS, sxK, sxG, sxH, sxU, encs, tys, sxN, sevalprocAttr, ne_eq, decide_true, decide_false]
        have hlt : k < t.length := by omega
        refine IxW.nat hlt ?_
        simp only [↓sxD, ↓sxP0, ↓sxGd, sxP1, sxF, sxA, sxS, sxK, sxG, sxH, sxU, encs, tys, sxN, sevalprocAttr, ne_eq, decide_true, decide_false]
        refine BrW.dec (fun h9 => ?_) (fun h9 => ?_)
        · simp only [↓sxD, ↓sxP0, ↓sxGd, sxP1, sxF, sxA, sxS, sxK, sxG, sxH, sxU, encs, tys, sxN, sevalprocAttr, ne_eq, decide_true, decide_false]
          exact EndW.fn (by simp only [sxL, sxG, sxH, sxU, encs, kpLL_map, sxN, sevalprocAttr, ne_eq, decide_true, decide_false] <;> (try simp) <;> (try omega)) (by simp only [sxL, sxG, sxH, sxU, encs, kpLL_map, sxN, sevalprocAttr, ne_eq, decide_true, decide_false] <;> (try simp) <;> (try omega))
        · simp only [↓sxD, ↓sxP0, ↓sxGd, sxP1, sxF, sxA, sxS, sxK, sxG, sxH, sxU, encs, tys, sxN, sevalprocAttr, ne_eq, decide_true, decide_false]
          repeat ((with_reducible refine Vc.go ?_ fun _ => ?_); (focus (first | omega | (simp only [InK]; omega) | (simp [InK]; done) | (simp [InK]; omega))); simp only [↓sxD, ↓sxP0, ↓sxGd, sxP1, sxF, sxA, sxS, sxK, sxG, sxH, sxU, encs, tys, sxN, sevalprocAttr, ne_eq, decide_true, decide_false])
          refine ⟨k + 1, StLe.auto (by simp only [sxS, sxL, sxF, sxG, sxH, sxU, encs, sxN, sevalprocAttr, ne_eq, decide_true, decide_false] <;> (try simp) <;> (try omega)), ?_, ?_⟩
          · refine ⟨hlt, fun r hr => ?_⟩
            rw [List.take_succ_eq_append_getElem hlt, List.mem_append, List.mem_singleton] at hr
            rcases hr with hr | rfl
            · exact hro r hr
            · omega
          · omega
      · simp only [↓sxD, ↓sxP0, ↓sxGd, sxP1, sxF, sxA, sxS, sxK, sxG, sxH, sxU, encs, tys, sxN, sevalprocAttr, ne_eq, decide_true, decide_false]
        have hke : k = t.length := by omega
        subst hke
        rw [List.take_length] at hro
        have hd : ∀ r ∈ t, r.length ≤ 1000000000 := fun r hr => by have := hro r hr; omega
        have hd2 : ∀ r ∈ t, r.length ≤ 1000000 := fun r hr => by have := hro r hr; omega
        have c1 := makeReady_s true true true t o hd
        have c2 := least2_s t hd
        have c3 := tabErr_r true true t hd
        by_cases h1 : tabErr t = 0
        · skip
          refine CallI.fn (copyLists_s true true t (by omega) hd2) (by simp only [sxA, sxL, sxF, sxG, sxH, sxU, encs, sxN, sevalprocAttr, ne_eq, decide_true, decide_false] <;> (try simp) <;> (try rfl)) ?_
          simp only [↓sxD, ↓sxP0, ↓sxGd, sxP1, sxF, sxA, sxS, sxK, sxG, sxH, sxU, encs, tys, sxN, sevalprocAttr, ne_eq, decide_true, decide_false]
          refine CallI.fn (copyInts_s true o (by omega)) (by simp only [sxA, sxL, sxF, sxG, sxH, sxU, encs, sxN, sevalprocAttr, ne_eq, decide_true, decide_false] <;> (try simp) <;> (try rfl)) ?_
          simp only [↓sxD, ↓sxP0, ↓sxGd, sxP1, sxF, sxA, sxS, sxK, sxG, sxH, sxU, encs, tys, sxN, sevalprocAttr, ne_eq, decide_true, decide_false]
          have ht := tabErr_ok h1
          have hb := lsA_b ht
          have c4 := leastR_s true true t ht (by omega)
          rw [show max (lsA t).1 0 = (lsA t).1 by omega] at c4
          have c5 := checkOrderR_s true t.length o (by omega)
          rw [h1] at c3
          rw [if_pos h1, if_pos h1, h1] at c2
          by_cases h2 : ordErr t.length o = 0
          · obtain ⟨o1, o2, o3⟩ := ordErr_ok h2
            have hle := lsA_le ht h2
            rw [if_pos ⟨h1, h2⟩, if_pos h1, h2] at c1
            rw [h2] at c5
            refine CallI.fn (c1) (by simp only [sxA, sxL, sxF, sxG, sxH, sxU, encs, sxN, sevalprocAttr, ne_eq, decide_true, decide_false] <;> (try simp) <;> (try rfl)) ?_
            simp only [↓sxD, ↓sxP0, ↓sxGd, sxP1, sxF, sxA, sxS, sxK, sxG, sxH, sxU, encs, tys, sxN, sevalprocAttr, ne_eq, decide_true, decide_false]
            refine CallI.fn (copyLists_s true true t (by omega) hd2) (by simp only [sxA, sxL, sxF, sxG, sxH, sxU, encs, sxN, sevalprocAttr, ne_eq, decide_true, decide_false] <;> (try simp) <;> (try rfl)) ?_
            simp only [↓sxD, ↓sxP0, ↓sxGd, sxP1, sxF, sxA, sxS, sxK, sxG, sxH, sxU, encs, tys, sxN, sevalprocAttr, ne_eq, decide_true, decide_false]
            refine CallI.fn (c2) (by simp only [sxA, sxL, sxF, sxG, sxH, sxU, encs, sxN, sevalprocAttr, ne_eq, decide_true, decide_false] <;> (try simp) <;> (try rfl)) ?_
            simp only [↓sxD, ↓sxP0, ↓sxGd, sxP1, sxF, sxA, sxS, sxK, sxG, sxH, sxU, encs, tys, sxN, sevalprocAttr, ne_eq, decide_true, decide_false]
            refine CallI.fn (c3) (by simp only [sxA, sxL, sxF, sxG, sxH, sxU, encs, sxN, sevalprocAttr, ne_eq, decide_true, decide_false] <;> (try simp) <;> (try rfl)) ?_
            simp only [↓sxD, ↓sxP0, ↓sxGd, sxP1, sxF, sxA, sxS, sxK, sxG, sxH, sxU, encs, tys, sxN, sevalprocAttr, ne_eq, decide_true, decide_false]
            refine BrW.no (by simp) ?_
            simp only [↓sxD, ↓sxP0, ↓sxGd, sxP1, sxF, sxA, sxS, sxK, sxG, sxH, sxU, encs, tys, sxN, sevalprocAttr, ne_eq, decide_true, decide_false]
            refine CallI.fn (c4) (by simp only [sxA, sxL, sxF, sxG, sxH, sxU, encs, sxN, sevalprocAttr, ne_eq, decide_true, decide_false] <;> (try simp) <;> (try rfl)) ?_
            simp only [↓sxD, ↓sxP0, ↓sxGd, sxP1, sxF, sxA, sxS, sxK, sxG, sxH, sxU, encs, tys, sxN, sevalprocAttr, ne_eq, decide_true, decide_false]
            refine BrW.no (by simp) ?_
            simp only [↓sxD, ↓sxP0, ↓sxGd, sxP1, sxF, sxA, sxS, sxK, sxG, sxH, sxU, encs, tys, sxN, sevalprocAttr, ne_eq, decide_true, decide_false]
            refine CallI.fn (ints_s true true (lsA t).2 (lsA t).2 (by have := hlsl t; omega)) (by simp only [sxA, sxL, sxF, sxG, sxH, sxU, encs, sxN, sevalprocAttr, ne_eq, decide_true, decide_false] <;> (try simp) <;> (try rfl)) ?_
            simp only [↓sxD, ↓sxP0, ↓sxGd, sxP1, sxF, sxA, sxS, sxK, sxG, sxH, sxU, encs, tys, sxN, sevalprocAttr, ne_eq, decide_true, decide_false]
            refine BrW.no (by simp) ?_
            simp only [↓sxD, ↓sxP0, ↓sxGd, sxP1, sxF, sxA, sxS, sxK, sxG, sxH, sxU, encs, tys, sxN, sevalprocAttr, ne_eq, decide_true, decide_false]
            refine CallI.fn (c5) (by simp only [sxA, sxL, sxF, sxG, sxH, sxU, encs, sxN, sevalprocAttr, ne_eq, decide_true, decide_false] <;> (try simp) <;> (try rfl)) ?_
            simp only [↓sxD, ↓sxP0, ↓sxGd, sxP1, sxF, sxA, sxS, sxK, sxG, sxH, sxU, encs, tys, sxN, sevalprocAttr, ne_eq, decide_true, decide_false]
            refine BrW.no (by simp) ?_
            simp only [↓sxD, ↓sxP0, ↓sxGd, sxP1, sxF, sxA, sxS, sxK, sxG, sxH, sxU, encs, tys, sxN, sevalprocAttr, ne_eq, decide_true, decide_false]
            refine CallI.fn (makeReadyR_s true true true t o ht (by omega) o3) (by simp only [sxA, sxL, sxF, sxG, sxH, sxU, encs, sxN, sevalprocAttr, ne_eq, decide_true, decide_false] <;> (try simp) <;> (try rfl)) ?_
            simp only [↓sxD, ↓sxP0, ↓sxGd, sxP1, sxF, sxA, sxS, sxK, sxG, sxH, sxU, encs, tys, sxN, sevalprocAttr, ne_eq, decide_true, decide_false]
            exact EndW.fn (by simp only [sxL, sxG, sxH, sxU, encs, kpLL_map, sxN, sevalprocAttr, ne_eq, decide_true, decide_false] <;> (try simp) <;> (try omega)) (by simp only [sxL, sxG, sxH, sxU, encs, kpLL_map, sxN, sevalprocAttr, ne_eq, decide_true, decide_false] <;> (try simp) <;> (try omega))
          · rw [if_neg (fun h => h2 h.2), if_pos h1] at c1
            refine CallI.fn (c1) (by simp only [sxA, sxL, sxF, sxG, sxH, sxU, encs, sxN, sevalprocAttr, ne_eq, decide_true, decide_false] <;> (try simp) <;> (try rfl)) ?_
            simp only [↓sxD, ↓sxP0, ↓sxGd, sxP1, sxF, sxA, sxS, sxK, sxG, sxH, sxU, encs, tys, sxN, sevalprocAttr, ne_eq, decide_true, decide_false]
            refine CallI.fn (copyLists_s true true t (by omega) hd2) (by simp only [sxA, sxL, sxF, sxG, sxH, sxU, encs, sxN, sevalprocAttr, ne_eq, decide_true, decide_false] <;> (try simp) <;> (try rfl)) ?_
            simp only [↓sxD, ↓sxP0, ↓sxGd, sxP1, sxF, sxA, sxS, sxK, sxG, sxH, sxU, encs, tys, sxN, sevalprocAttr, ne_eq, decide_true, decide_false]
            refine CallI.fn (c2) (by simp only [sxA, sxL, sxF, sxG, sxH, sxU, encs, sxN, sevalprocAttr, ne_eq, decide_true, decide_false] <;> (try simp) <;> (try rfl)) ?_
            simp only [↓sxD, ↓sxP0, ↓sxGd, sxP1, sxF, sxA, sxS, sxK, sxG, sxH, sxU, encs, tys, sxN, sevalprocAttr, ne_eq, decide_true, decide_false]
            refine CallI.fn (c3) (by simp only [sxA, sxL, sxF, sxG, sxH, sxU, encs, sxN, sevalprocAttr, ne_eq, decide_true, decide_false] <;> (try simp) <;> (try rfl)) ?_
            simp only [↓sxD, ↓sxP0, ↓sxGd, sxP1, sxF, sxA, sxS, sxK, sxG, sxH, sxU, encs, tys, sxN, sevalprocAttr, ne_eq, decide_true, decide_false]
            refine BrW.no (by simp) ?_
            simp only [↓sxD, ↓sxP0, ↓sxGd, sxP1, sxF, sxA, sxS, sxK, sxG, sxH, sxU, encs, tys, sxN, sevalprocAttr, ne_eq, decide_true, decide_false]
            refine CallI.fn (c4) (by simp only [sxA, sxL, sxF, sxG, sxH, sxU, encs, sxN, sevalprocAttr, ne_eq, decide_true, decide_false] <;> (try simp) <;> (try rfl)) ?_
            simp only [↓sxD, ↓sxP0, ↓sxGd, sxP1, sxF, sxA, sxS, sxK, sxG, sxH, sxU, encs, tys, sxN, sevalprocAttr, ne_eq, decide_true, decide_false]
            refine BrW.no (by simp) ?_
            simp only [↓sxD, ↓sxP0, ↓sxGd, sxP1, sxF, sxA, sxS, sxK, sxG, sxH, sxU, encs, tys, sxN, sevalprocAttr, ne_eq, decide_true, decide_false]
            refine CallI.fn (ints_s true true (lsA t).2 (lsA t).2 (by have := hlsl t; omega)) (by simp only [sxA, sxL, sxF, sxG, sxH, sxU, encs, sxN, sevalprocAttr, ne_eq, decide_true, decide_false] <;> (try simp) <;> (try rfl)) ?_
            simp only [↓sxD, ↓sxP0, ↓sxGd, sxP1, sxF, sxA, sxS, sxK, sxG, sxH, sxU, encs, tys, sxN, sevalprocAttr, ne_eq, decide_true, decide_false]
            refine BrW.no (by simp) ?_
            simp only [↓sxD, ↓sxP0, ↓sxGd, sxP1, sxF, sxA, sxS, sxK, sxG, sxH, sxU, encs, tys, sxN, sevalprocAttr, ne_eq, decide_true, decide_false]
            refine CallI.fn (c5) (by simp only [sxA, sxL, sxF, sxG, sxH, sxU, encs, sxN, sevalprocAttr, ne_eq, decide_true, decide_false] <;> (try simp) <;> (try rfl)) ?_
            simp only [↓sxD, ↓sxP0, ↓sxGd, sxP1, sxF, sxA, sxS, sxK, sxG, sxH, sxU, encs, tys, sxN, sevalprocAttr, ne_eq, decide_true, decide_false]
            refine BrW.yes h2 ?_
            simp only [↓sxD, ↓sxP0, ↓sxGd, sxP1, sxF, sxA, sxS, sxK, sxG, sxH, sxU, encs, tys, sxN, sevalprocAttr, ne_eq, decide_true, decide_false]
            exact EndW.fn (by simp only [sxL, sxG, sxH, sxU, encs, kpLL_map, sxN, sevalprocAttr, ne_eq, decide_true, decide_false] <;> (try simp) <;> (try omega)) (by simp only [sxL, sxG, sxH, sxU, encs, kpLL_map, sxN, sevalprocAttr, ne_eq, decide_true, decide_false] <;> (try simp) <;> (try omega))
        · skip
          refine CallI.fn (copyLists_s true true t (by omega) hd2) (by simp only [sxA, sxL, sxF, sxG, sxH, sxU, encs, sxN, sevalprocAttr, ne_eq, decide_true, decide_false] <;> (try simp) <;> (try rfl)) ?_
          simp only [↓sxD, ↓sxP0, ↓sxGd, sxP1, sxF, sxA, sxS, sxK, sxG, sxH, sxU, encs, tys, sxN, sevalprocAttr, ne_eq, decide_true, decide_false]
          refine CallI.fn (copyInts_s true o (by omega)) (by simp only [sxA, sxL, sxF, sxG, sxH, sxU, encs, sxN, sevalprocAttr, ne_eq, decide_true, decide_false] <;> (try simp) <;> (try rfl)) ?_
          simp only [↓sxD, ↓sxP0, ↓sxGd, sxP1, sxF, sxA, sxS, sxK, sxG, sxH, sxU, encs, tys, sxN, sevalprocAttr, ne_eq, decide_true, decide_false]
          rw [if_neg (fun h => h1 h.1), if_neg h1] at c1
          rw [if_neg h1, if_neg h1] at c2
          refine CallI.fn (c1) (by simp only [sxA, sxL, sxF, sxG, sxH, sxU, encs, sxN, sevalprocAttr, ne_eq, decide_true, decide_false] <;> (try simp) <;> (try rfl)) ?_
          simp only [↓sxD, ↓sxP0, ↓sxGd, sxP1, sxF, sxA, sxS, sxK, sxG, sxH, sxU, encs, tys, sxN, sevalprocAttr, ne_eq, decide_true, decide_false]
          refine CallI.fn (copyLists_s true true t (by omega) hd2) (by simp only [sxA, sxL, sxF, sxG, sxH, sxU, encs, sxN, sevalprocAttr, ne_eq, decide_true, decide_false] <;> (try simp) <;> (try rfl)) ?_
          simp only [↓sxD, ↓sxP0, ↓sxGd, sxP1, sxF, sxA, sxS, sxK, sxG, sxH, sxU, encs, tys, sxN, sevalprocAttr, ne_eq, decide_true, decide_false]
          refine CallI.fn (c2) (by simp only [sxA, sxL, sxF, sxG, sxH, sxU, encs, sxN, sevalprocAttr, ne_eq, decide_true, decide_false] <;> (try simp) <;> (try rfl)) ?_
          simp only [↓sxD, ↓sxP0, ↓sxGd, sxP1, sxF, sxA, sxS, sxK, sxG, sxH, sxU, encs, tys, sxN, sevalprocAttr, ne_eq, decide_true, decide_false]
          refine CallI.fn (c3) (by simp only [sxA, sxL, sxF, sxG, sxH, sxU, encs, sxN, sevalprocAttr, ne_eq, decide_true, decide_false] <;> (try simp) <;> (try rfl)) ?_
          simp only [↓sxD, ↓sxP0, ↓sxGd, sxP1, sxF, sxA, sxS, sxK, sxG, sxH, sxU, encs, tys, sxN, sevalprocAttr, ne_eq, decide_true, decide_false]
          refine BrW.yes h1 ?_
          simp only [↓sxD, ↓sxP0, ↓sxGd, sxP1, sxF, sxA, sxS, sxK, sxG, sxH, sxU, encs, tys, sxN, sevalprocAttr, ne_eq, decide_true, decide_false]
          exact EndW.fn (by simp only [sxL, sxG, sxH, sxU, encs, kpLL_map, sxN, sevalprocAttr, ne_eq, decide_true, decide_false] <;> (try simp) <;> (try omega)) (by simp only [sxL, sxG, sxH, sxU, encs, kpLL_map, sxN, sevalprocAttr, ne_eq, decide_true, decide_false] <;> (try simp) <;> (try omega))
end Go.Proofs.Ytaagelngbbkllaa
