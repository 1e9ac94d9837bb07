/-
  Chapter 9, walks: the schedule.
-/
import Derived.Test.YtaagelngbbkllaaVW19
import Derived.Test.YtaagelngbbkllaaVW20
namespace Go.Proofs.Ytaagelngbbkllaa
open Go Go.Vx
set_option linter.unusedSimpArgs false
set_option linter.unusedVariables false
set_option maxRecDepth 20000
theorem duesF_ok {l : List Job} (hj : JobsOk l) : ∀ (f : Nat) (s : DS), DOk l s → (∀ t ∈ duesF l f s, SlOk l.length t) ∧ (duesF l f s).length ≤ 200000
  | 0, s, h => by
    have hnn := sum_nn fun x hx => (h.lb x hx).1
    refine ⟨fun t ht => ?_, by simp only [duesF]; have := h.os; omega⟩
    obtain ⟨a, b, c, d⟩ := h.ot t ht
    have := h.ns
    exact ⟨a, by omega, by omega⟩
  | f + 1, s, h => by
    cases hs : stp l s with
    | none =>
      rw [duesF_end hs]
      exact duesF_ok hj 0 s h
    | some s' =>
      simp only [duesF, hs]
      exact duesF_ok hj f s' (stp_ok hj h hs).1
theorem dues_ok {l : List Job} (hj : JobsOk l) : (∀ t ∈ dues l, SlOk l.length t) ∧ (dues l).length ≤ 200000 := duesF_ok hj _ _ (ds0_ok hj)
theorem setsL_mem {l : List Job} {s : List Int} (h : s ∈ setsL l) : 0 < s.length ∧ s.length ≤ l.length ∧ ∀ i ∈ s, 0 ≤ i ∧ i < (l.length : Int) := by
  simp only [setsL, setsO, setsI, List.mem_flatMap] at h
  obtain ⟨a, _, b, _, h⟩ := h
  unfold setP at h
  split at h
  · cases h
  · rename_i hne
    rw [List.mem_singleton] at h; subst h
    exact ⟨List.length_pos_iff.2 hne, setK_len _, fun i hi => setK_mem (Nat.le_refl _) hi⟩
def lateE (l : List Job) : Int := (lateL l (endsK l.length (dues l) (dues l).length)).getD (worK (lateL l (endsK l.length (dues l) (dues l).length)) l.length) 0
def fstS (l : List Job) : List Int := ((setsL l).find? fun s => decide (bndE l s = lateE l)).getD []
def schedV (l : List Job) : SV := if jobsErr l = 0 then .tup [.sl true 3 ((dues l).map eT), (.v (.int .i64 (lateE l))), .sl true 1 ((fstS l).map eI), (.v (.int .i64 0))] else .tup [.sl true 3 [], (.v (.int .i64 0)), .sl true 1 [], (.v (.int .i64 (jobsErr l)))]
theorem eO_inj {a b : List Int} (h : eO a = eO b) : a = b := by
  simp only [eO, List.cons.injEq, SV.sl.injEq, true_and, and_true] at h
  exact (List.map_inj_right (fun _ _ h => eI_inj h)).1 h
theorem schedule_s (l : List Job) : Ctr Try.prog 35 [.sl true 4 (l.map eJ)] (fun rr => rr = ⟨schedV l, []⟩) := by
  have encs := And.intro encs setC_eq
  refine Ctr.of (rs := [.tmp 2, .tmp 3, .tmp 4, .tmp 5]) Tok true Try.func35 rfl rfl rfl rfl (by simp [ofDL]) (fun w0 kp => ?_)
  simp only [↓sxD, ↓sxP0, ↓sxP3, ↓sxGd, sxP1, sxF, sxA, sxS, sxK, sxG, sxZ, sxH, sxU, encs, tys, sxN, sevalprocAttr, ne_eq, decide_true, decide_false]
  refine CallI.fn (checkJobs_s true l) (by simp only [sxA, sxL, sxF, sxG, sxH, sxU, encs, sxN, sevalprocAttr, ne_eq, decide_true, decide_false] <;> (try simp) <;> (try rfl)) ?_
  simp only [↓sxD, ↓sxP0, ↓sxP3, ↓sxGd, sxP1, sxF, sxA, sxS, sxK, sxG, sxZ, sxH, sxU, encs, tys, sxN, sevalprocAttr, ne_eq, decide_true, decide_false]
  refine BrW.dec (fun h1 => ?_) (fun h1 => ?_)
  · simp only [↓sxD, ↓sxP0, ↓sxP3, ↓sxGd, sxP1, sxF, sxA, sxS, sxK, sxG, sxZ, sxH, sxU, encs, tys, sxN, sevalprocAttr, ne_eq, decide_true, decide_false]
    have h1 : ¬ jobsErr l = 0 := h1
    rw [show schedV l = .tup [.sl true 3 [], (.v (.int .i64 0)), .sl true 1 [], (.v (.int .i64 (jobsErr l)))] by rw [schedV, if_neg h1]]
    exact EndW.fn (by simp only [sxL, sxG, sxH, sxU, encs, kpLL_map, sxN, sevalprocAttr, ne_eq, decide_true, decide_false] <;> (try simp) <;> (try omega)) (by simp only [sxL, sxG, sxH, sxU, encs, kpLL_map, sxN, sevalprocAttr, ne_eq, decide_true, decide_false] <;> (try simp) <;> (try omega))
  · simp only [↓sxD, ↓sxP0, ↓sxP3, ↓sxGd, sxP1, sxF, sxA, sxS, sxK, sxG, sxZ, sxH, sxU, encs, tys, sxN, sevalprocAttr, ne_eq, decide_true, decide_false]
    have h1 : jobsErr l = 0 := Decidable.not_not.1 h1
    have hj := jobsErr_ok h1
    have hd := dues_ok hj
    have hn := hj.n
    rw [show schedV l = .tup [.sl true 3 ((dues l).map eT), (.v (.int .i64 (lateE l))), .sl true 1 ((fstS l).map eI), (.v (.int .i64 0))] by rw [schedV, if_pos h1]]
    refine CallI.fn (byDues_s true l hj) (by simp only [sxA, sxL, sxF, sxG, sxH, sxU, encs, sxN, sevalprocAttr, ne_eq, decide_true, decide_false] <;> (try simp) <;> (try rfl)) ?_
    simp only [↓sxD, ↓sxP0, ↓sxP3, ↓sxGd, sxP1, sxF, sxA, sxS, sxK, sxG, sxZ, sxH, sxU, encs, tys, sxN, sevalprocAttr, ne_eq, decide_true, decide_false]
    have hla := lateness_s true true l (dues l) hj hd.1 (by omega)
    have hlv : lateV l (dues l) = .tup [(.v (.int .i64 (lateE l))), (.v (.int .i64 (worK (lateL l (endsK l.length (dues l) (dues l).length)) l.length)))] := rfl
    rw [hlv] at hla
    refine CallI.fn (hla) (by simp only [sxA, sxL, sxF, sxG, sxH, sxU, encs, sxN, sevalprocAttr, ne_eq, decide_true, decide_false] <;> (try simp) <;> (try rfl)) ?_
    simp only [↓sxD, ↓sxP0, ↓sxP3, ↓sxGd, sxP1, sxF, sxA, sxS, sxK, sxG, sxZ, sxH, sxU, encs, tys, sxN, sevalprocAttr, ne_eq, decide_true, decide_false]
    refine CallI.fn (sets_s l) (by simp only [sxA, sxL, sxF, sxG, sxH, sxU, encs, sxN, sevalprocAttr, ne_eq, decide_true, decide_false] <;> (try simp) <;> (try rfl)) ?_
    simp only [↓sxD, ↓sxP0, ↓sxP3, ↓sxGd, sxP1, sxF, sxA, sxS, sxK, sxG, sxZ, sxH, sxU, encs, tys, sxN, sevalprocAttr, ne_eq, decide_true, decide_false]
    have hit := setsIt_s l hj
    have encs := And.intro encs (show ∀ o, eO o = [.sl true 1 (o.map eI)] from fun _ => rfl)
    refine RangeW.it Tok (fun _ => rfl) (fun hro => by first | rfl | exact (by rw [hro] at *; contradiction)) (hit) [(1, .box 0 0), (7, .sl true 3 ((dues l).map eT)), (8, .box 1 0), (10, .box 2 0), (26, .clo 125 (setC l))] (fun ys => [some ⟨56, [.sl true 4 (l.map eJ)]⟩, some ⟨3, [(.v (.int .i64 (lateE l)))]⟩, some ⟨59, [.v (.slice none 0 0)]⟩]) (fun ys => []) (fun ys => ∀ s : List Int, eO s ∈ ys → bndE l s ≠ lateE l) (fun s h => absurd h (List.not_mem_nil)) (by simp only [sxS, sxL, sxF, sxG, sxH, sxU, encs, sxN, sevalprocAttr, ne_eq, decide_true, decide_false] <;> (try simp) <;> (try omega)) rfl rfl (by simp [eO]) ?_ (fun hJall => ?_)
    · rintro pre d hpre hJ ρ σ μ ho' hy hs
      obtain ⟨q, hq⟩ := hpre
      have hk : pre.length < (setsL l).length := by
        have := congrArg List.length hq
        simp at this; omega
      have hde : d = eO (setsL l)[pre.length] := by
        have : ((setsL l).map eO)[pre.length]? = some d := by rw [← hq]; simp
        simpa [List.getElem?_eq_getElem hk, eq_comm] using this
      have hpe : pre = ((setsL l).take pre.length).map eO := by
        rw [List.map_take, ← hq]; simp
      have hpm : ∀ x, x ∈ ((setsL l).take pre.length).map eO → x ∈ pre := fun x hx => by rw [hpe]; exact hx
      subst hde
      obtain ⟨m1, m2, m3⟩ := setsL_mem (show (setsL l)[pre.length] ∈ setsL l from List.getElem_mem hk)
      obtain ⟨yd', ro, mks, fr, lp, sz⟩ := ho'
      simp only [↓sxD, ↓sxP0, ↓sxP3, ↓sxGd, sxP1, sxF, sxA, sxS, sxK, sxG, sxZ, sxH, sxU, encs, tys, sxN, sevalprocAttr, ne_eq, decide_true, decide_false]
      intro fr'
      refine DrawW.plan Tok mixed (.q 0 <| .q 1 <| .q 3 <| .e 2 [3] <| .q 4 <| .done) (by kernel_rfl) (by kernel_rfl) ?_
      simp only [↓sxD, ↓sxP0, ↓sxP3, ↓sxGd, sxP1, sxF, sxA, sxS, sxK, sxG, sxZ, sxH, sxU, encs, tys, sxN, sevalprocAttr, ne_eq, decide_true, decide_false]
      refine CallI.fn (bound_s true true l (setsL l)[pre.length] hj m1 (by omega) m3) (by simp only [sxA, sxL, sxF, sxG, sxH, sxU, encs, sxN, sevalprocAttr, ne_eq, decide_true, decide_false] <;> (try simp) <;> (try rfl)) ?_
      simp only [↓sxD, ↓sxP0, ↓sxP3, ↓sxGd, sxP1, sxF, sxA, sxS, sxK, sxG, sxZ, sxH, sxU, encs, tys, sxN, sevalprocAttr, ne_eq, decide_true, decide_false]
      refine BrW.dec (fun hm => ?_) (fun hm => ?_)
      · have hf : fstS l = (setsL l)[pre.length] := by
          have e : (setsL l).find? (fun s => decide (bndE l s = lateE l)) = some (setsL l)[pre.length] := by
            rw [List.find?_eq_some_iff_getElem]
            refine ⟨by simpa using hm, pre.length, hk, rfl, fun j hj' => ?_⟩
            have := hJ (setsL l)[j] (hpm _ (List.mem_map_of_mem (List.mem_take_iff_getElem.2 ⟨j, by omega, rfl⟩)))
            simpa using this
          rw [fstS, e]; rfl
        simp only [↓sxD, ↓sxP0, ↓sxP3, ↓sxGd, sxP1, sxF, sxA, sxS, sxK, sxG, sxZ, sxH, sxU, encs, tys, sxN, sevalprocAttr, ne_eq, decide_true, decide_false]
        rw [hf]
        refine DrawW.plan Tok mixed (.q 0 <| .q 1 <| .q 2 <| .q 3 <| .q 4 <| .q 5 <| .q 6 <| .done) (by kernel_rfl) (by kernel_rfl) ?_
        simp only [↓sxD, ↓sxP0, ↓sxP3, ↓sxGd, sxP1, sxF, sxA, sxS, sxK, sxG, sxZ, sxH, sxU, encs, tys, sxN, sevalprocAttr, ne_eq, decide_true, decide_false]
        exact EndW.fn (by simp only [sxL, sxG, sxH, sxU, encs, kpLL_map, sxN, sevalprocAttr, ne_eq, decide_true, decide_false] <;> (try simp) <;> (try omega)) (by simp only [sxL, sxG, sxH, sxU, encs, kpLL_map, sxN, sevalprocAttr, ne_eq, decide_true, decide_false] <;> (try simp) <;> (try omega))
      · simp only [↓sxD, ↓sxP0, ↓sxP3, ↓sxGd, sxP1, sxF, sxA, sxS, sxK, sxG, sxZ, sxH, sxU, encs, tys, sxN, sevalprocAttr, ne_eq, decide_true, decide_false]
        refine ⟨fun s hs' => ?_, ?_⟩
        · rcases List.mem_append.1 hs' with h | h
          · exact hJ s h
          · rw [List.mem_singleton] at h
            rw [eO_inj h]
            exact hm
        · simp only [sxS, sxL, sxF, sxG, sxH, sxU, encs, sxN, sevalprocAttr, ne_eq, decide_true, decide_false] <;> (try simp) <;> (try omega)
    · have hf : fstS l = [] := by
        have e : (setsL l).find? (fun s => decide (bndE l s = lateE l)) = none := by
          rw [List.find?_eq_none]
          intro s hs
          simpa using hJall s (List.mem_map_of_mem hs)
        rw [fstS, e]; rfl
      rw [hf]
      simp only [↓sxD, ↓sxP0, ↓sxP3, ↓sxGd, sxP1, sxF, sxA, sxS, sxK, sxG, sxZ, sxH, sxU, encs, tys, sxN, sevalprocAttr, ne_eq, decide_true, decide_false]
      refine DrawW.plan Tok mixed (.q 0 <| .q 1 <| .q 2 <| .q 3 <| .q 4 <| .q 5 <| .q 6 <| .done) (by kernel_rfl) (by kernel_rfl) ?_
      simp only [↓sxD, ↓sxP0, ↓sxP3, ↓sxGd, sxP1, sxF, sxA, sxS, sxK, sxG, sxZ, sxH, sxU, encs, tys, sxN, sevalprocAttr, ne_eq, decide_true, decide_false]
      exact EndW.fn (by simp only [sxL, sxG, sxH, sxU, encs, kpLL_map, sxN, sevalprocAttr, ne_eq, decide_true, decide_false] <;> (try simp) <;> (try omega)) (by simp only [sxL, sxG, sxH, sxU, encs, kpLL_map, sxN, sevalprocAttr, ne_eq, decide_true, decide_false] <;> (try simp) <;> (try omega))
end Go.Proofs.Ytaagelngbbkllaa
