/-
  Chapter 8, walks: marks are taken back by their inverses.
-/
import Derived.Test.YtenohgpackcjbaaVP8T
import Derived.Test.YtenohgpackcjbaaVW28
import Derived.Test.YtenohgpackcjbaaVGN
namespace Go.Proofs.Ytenohgpackcjbaa
open Go Go.Vx
set_option linter.unusedSimpArgs false
set_option linter.unusedVariables false
set_option maxRecDepth 20000
theorem apF_num {ms : List Mk} {l : List Pt} {k : Nat} (h : (apF l k ms).2.2 = 0) : (apF l k ms).2.1 = 0 := by
  induction ms generalizing l k with
  | nil => rfl
  | cons m ms ih =>
    rw [apF] at h ⊢
    by_cases hv : (apV l m).2 = 0
    · rw [if_pos hv] at h ⊢; exact ih h
    · rw [if_neg hv] at h; exact absurd h hv
theorem apF_bad {ms : List Mk} {l : List Pt} {k : Nat} (h : ¬ (apF l k ms).2.2 = 0) : (apF l k ms).1 = [] := by
  induction ms generalizing l k with
  | nil => exact absurd rfl h
  | cons m ms ih =>
    rw [apF] at h ⊢
    by_cases hv : (apV l m).2 = 0
    · rw [if_pos hv] at h ⊢; exact ih h
    · rw [if_neg hv]
theorem apF_snoc {ms : List Mk} {m : Mk} {l x y : List Pt} {k n : Nat} (h : apF l k ms = (x, n, 0)) (h2 : apV x m = (y, 0)) : apF l k (ms ++ [m]) = (y, 0, 0) := by
  induction ms generalizing l k with
  | nil =>
    rw [apF] at h
    injection h with h1 h3
    subst h1
    rw [List.nil_append, apF, h2]
    rfl
  | cons a ms ih =>
    rw [apF] at h
    rw [List.cons_append, apF]
    by_cases hv : (apV l a).2 = 0
    · rw [if_pos hv] at h ⊢; exact ih h
    · rw [if_neg hv] at h; injection h with _ h; injection h with _ h; exact absurd h hv
theorem apV_back {l x : List Pt} {m : Mk} (hm : mkErr m = 0) (h0 : (partsErr l).2 = 0) (h : apV l m = (x, 0)) : apV x (invM m) = (l, 0) :=
  RP_apV (mkErr_inv hm) (RP_inv (apV_RP hm h)) h0
theorem apF_back {ms : List Mk} {l : List Pt} {k : Nat} (hm : ∀ m ∈ ms, mkErr m = 0) (h0 : (partsErr l).2 = 0) (h : (apF l k ms).2.2 = 0) : apF (apF l k ms).1 0 (ms.map invM).reverse = (l, 0, 0) := by
  induction ms generalizing l k with
  | nil => rfl
  | cons m ms ih =>
    rw [apF] at h ⊢
    by_cases hv : (apV l m).2 = 0
    · rw [if_pos hv] at h ⊢
      have := ih (fun x hx => hm x (List.mem_cons_of_mem _ hx)) (apV_ok hv) h
      rw [List.map_cons, List.reverse_cons]
      exact apF_snoc this (apV_back (hm m List.mem_cons_self) h0 (Prod.ext rfl hv))
    · rw [if_neg hv] at h; exact absurd h hv
theorem apAll_bad {l : List Pt} {ms : List Mk} (h : ¬ (apAll l ms).2.2 = 0) : (apAll l ms).1 = [] := by
  unfold apAll at h ⊢
  by_cases h0 : (partsErr l).2 = 0
  · rw [if_pos h0] at h ⊢
    by_cases h1 : lstErr ms = 0
    · rw [if_pos h1] at h ⊢; exact apF_bad h
    · rw [if_neg h1]
  · rw [if_neg h0]
theorem apAll_ok {l : List Pt} {ms : List Mk} (h : (apAll l ms).2.2 = 0) : ((partsErr l).2 = 0 ∧ lstErr ms = 0) ∧ apAll l ms = apF l 0 ms := by
  unfold apAll at h ⊢
  by_cases h0 : (partsErr l).2 = 0
  · rw [if_pos h0] at h ⊢
    by_cases h1 : lstErr ms = 0
    · rw [if_pos h1]; exact ⟨⟨h0, h1⟩, rfl⟩
    · rw [if_neg h1] at h; exact absurd h h1
  · rw [if_neg h0] at h; exact absurd h h0
theorem apAll_back {l : List Pt} {ms : List Mk} (h : (apAll l ms).2.2 = 0) : (mkIs ms = ((ms.map invM).reverse, 0) ∧ (partsErr (apAll l ms).1).2 = 0) ∧ apAll (apAll l ms).1 (ms.map invM).reverse = (l, 0, 0) := by
  obtain ⟨⟨h0, h1⟩, he⟩ := apAll_ok h
  rw [he] at h ⊢
  obtain ⟨hl, hm⟩ := lstA h1
  have hr := (apF_RPs hm h).2 h0
  refine ⟨⟨by rw [mkIs, if_pos h1], hr⟩, ?_⟩
  rw [apAll, if_pos hr, if_pos, apF_back hm h0 h]
  refine lstB (by simp; exact hl) fun m hx => ?_
  simp only [List.mem_reverse, List.mem_map] at hx
  obtain ⟨y, hy, rfl⟩ := hx
  exact mkErr_inv (hm y hy)
theorem apA_back {l : List Pt} {m : Mk} {ms : List Mk} (h : (apAll l (m :: ms)).2.2 = 0) : ∃ x, apA l m = (x, 0) ∧ mkI m = (invM m, 0) ∧ (partsErr x).2 = 0 ∧ apA x (invM m) = (l, 0) := by
  obtain ⟨⟨h0, h1⟩, he⟩ := apAll_ok h
  rw [he, apF] at h
  obtain ⟨hl, hm⟩ := lstA h1
  have hmm := hm m List.mem_cons_self
  by_cases hv : (apV l m).2 = 0
  · have hx := apV_ok hv
    refine ⟨(apV l m).1, ?_, ?_, hx, ?_⟩
    · rw [apA, if_pos h0, if_pos hmm]; exact Prod.ext rfl hv
    · rw [mkI, if_pos hmm]
    · rw [apA, if_pos hx, if_pos (mkErr_inv hmm)]; exact apV_back hmm h0 (Prod.ext rfl hv)
  · rw [if_neg hv] at h; exact absurd h hv
theorem allMk_inv {l : List Mk} (h : AllMk l) : AllMk (l.map invM).reverse := by
  intro m hm
  simp only [List.mem_reverse, List.mem_map] at hm
  obtain ⟨y, hy, rfl⟩ := hm
  exact invM_sz (h y hy)
set_option maxHeartbeats 16000000 in
theorem takesBackLaw_s (l : List Pt) (ms : List Mk) (hl : l.length ≤ maxLen) (hw : ∀ p ∈ l, p.words.length ≤ maxLen) (hms : ms.length ≤ maxLen) : Ctr Try.prog 11 [.sl true 2 (l.map (eP true)), .sl true 7 (ms.map eM)] (fun rr => rr = ⟨(.v (.bool (true))), []⟩) := by
  have encs := And.intro encs prE
  refine Ctr.of (rs := [.tmp 4]) Tok true Try.func11 rfl rfl rfl rfl (by simp [ofDL]) (fun w0 kp => ?_)
  simp only [↓sx0, sx1, encs, tys, sxR, sevalprocAttr]
  refine CallI.fn (awake_s) (by simp only [sx3, encs, sxR, sevalprocAttr] <;> (try simp) <;> (try rfl)) ?_
  simp only [↓sx0, sx1, encs, tys, sxR, sevalprocAttr]
  refine CallI.fn (light_s true true l hl hw) (by simp only [sx3, encs, sxR, sevalprocAttr] <;> (try simp) <;> (try rfl)) ?_
  simp only [↓sx0, sx1, encs, tys, sxR, sevalprocAttr]
  refine BrW.of (fun fa => ?_) (fun fa => ?_)
  · obtain ⟨l62, lw⟩ := light_all fa
    have lw2 : ∀ p ∈ l, p.words.length ≤ 1000000 := fun p hp => by have := (lw p hp).1; omega
    simp only [↓sx0, sx1, encs, tys, sxR, sevalprocAttr]
    repeat ((with_reducible refine BrW.tt fa ?_); simp only [↓sx0, sx1, encs, tys, sxR, sevalprocAttr])
    refine CallI.fn (few_s true ms hms) (by simp only [sx3, encs, sxR, sevalprocAttr] <;> (try simp) <;> (try rfl)) ?_
    simp only [↓sx0, sx1, encs, tys, sxR, sevalprocAttr]
    refine BrW.of (fun fb => ?_) (fun fb => ?_)
    · obtain ⟨zb, nb⟩ := few_all fb
      simp only [↓sx0, sx1, encs, tys, sxR, sevalprocAttr]
      repeat ((with_reducible refine BrW.tt fb ?_); simp only [↓sx0, sx1, encs, tys, sxR, sevalprocAttr])
      refine CallI.fn (copyOf_s true true l (by omega) lw2) (by simp only [sx3, encs, sxR, sevalprocAttr] <;> (try simp) <;> (try rfl)) ?_
      simp only [↓sx0, sx1, encs, tys, sxR, sevalprocAttr]
      refine CallI.fn (copyMarks_s true ms (by omega)) (by simp only [sx3, encs, sxR, sevalprocAttr] <;> (try simp) <;> (try rfl)) ?_
      simp only [↓sx0, sx1, encs, tys, sxR, sevalprocAttr]
      have hA := AppliedAll_s true true true l ms zb (by omega)
      have hbad := apAll_bad (l := l) (ms := ms)
      have hback := apAll_back (l := l) (ms := ms)
      have hfst := fun h m r (e : ms = m :: r) => apA_back (l := l) (m := m) (ms := r) (by rw [← e]; exact h)
      generalize apAll l ms = w at hA hbad hback hfst
      obtain ⟨x, n, e⟩ := w
      simp only at hA hbad hback hfst
      by_cases he : e = 0
      · subst he
        obtain ⟨⟨hI, hx0⟩, hB⟩ := hback rfl
        obtain ⟨x60, xw⟩ := parts_ok hx0
        have xw2 : ∀ p ∈ x, p.words.length ≤ 1000000 := fun p hp => by have := xw p hp; omega
        have hIA := InverseAll_s ms zb (by omega)
        rw [hI] at hIA
        have hAB := AppliedAll_s true true true x (ms.map invM).reverse (allMk_inv zb) (by simp; omega)
        rw [hB] at hAB
        refine CallI.fn (hA) (by simp only [sx3, encs, sxR, sevalprocAttr] <;> (try simp) <;> (try rfl)) ?_
        simp only [↓sx0, sx1, encs, tys, sxR, sevalprocAttr]
        repeat ((first | (with_reducible refine BrW.no (by simp) ?_) | (with_reducible refine BrW.yes (by simp) ?_)); (try simp only [↓sx0, sx1, encs, tys, sxR, sevalprocAttr]))
        refine CallI.fn (copyMarks_s true ms (by omega)) (by simp only [sx3, encs, sxR, sevalprocAttr] <;> (try simp) <;> (try rfl)) ?_
        simp only [↓sx0, sx1, encs, tys, sxR, sevalprocAttr]
        refine CallI.fn (hIA) (by simp only [sx3, encs, sxR, sevalprocAttr] <;> (try simp) <;> (try rfl)) ?_
        simp only [↓sx0, sx1, encs, tys, sxR, sevalprocAttr]
        repeat ((first | (with_reducible refine BrW.no (by simp) ?_) | (with_reducible refine BrW.yes (by simp) ?_)); (try simp only [↓sx0, sx1, encs, tys, sxR, sevalprocAttr]))
        refine CallI.fn (copyOf_s true true x (by omega) xw2) (by simp only [sx3, encs, sxR, sevalprocAttr] <;> (try simp) <;> (try rfl)) ?_
        simp only [↓sx0, sx1, encs, tys, sxR, sevalprocAttr]
        refine CallI.fn (copyMarks_s true (ms.map invM).reverse (by simp; omega)) (by simp only [sx3, encs, sxR, sevalprocAttr] <;> (try simp) <;> (try rfl)) ?_
        simp only [↓sx0, sx1, encs, tys, sxR, sevalprocAttr]
        refine CallI.fn (hAB) (by simp only [sx3, encs, sxR, sevalprocAttr] <;> (try simp) <;> (try rfl)) ?_
        simp only [↓sx0, sx1, encs, tys, sxR, sevalprocAttr]
        repeat ((first | (with_reducible refine BrW.no (by simp) ?_) | (with_reducible refine BrW.yes (by simp) ?_)); (try simp only [↓sx0, sx1, encs, tys, sxR, sevalprocAttr]))
        refine CallI.fn (copies_s true true true true l l (by omega) (fun p hp => by have := lw2 p hp; omega)) (by simp only [sx3, encs, sxR, sevalprocAttr] <;> (try simp) <;> (try rfl)) ?_
        simp only [↓sx0, sx1, encs, tys, sxR, sevalprocAttr]
        cases ms with
        | nil =>
          refine BrW.yes (by simp) ?_
          simp only [↓sx0, sx1, encs, tys, sxR, sevalprocAttr]
          exact EndW.fn (by simp only [sx4, encs, kpLL_map, sxR, sevalprocAttr] <;> (try simp) <;> (try omega)) (by simp only [sx4, encs, kpLL_map, sxR, sevalprocAttr] <;> (try simp) <;> (try omega))
        | cons m r =>
          obtain ⟨y, hy1, hy2, hy0, hy3⟩ := hfst rfl m r rfl
          have hzm : MkSz m := zb _ List.mem_cons_self
          obtain ⟨y60, yw⟩ := parts_ok hy0
          have yw2 : ∀ p ∈ y, p.words.length ≤ 1000000 := fun p hp => by have := yw p hp; omega
          have hA1 := Applied_s true true l m hzm
          have hA2 := Applied_s true true y (invM m) (invM_sz hzm)
          have hI1 := Inverse_s m hzm
          rw [hy1] at hA1
          rw [hy2] at hI1
          rw [hy3] at hA2
          refine BrW.no (by simp; omega) ?_
          simp only [↓sx0, sx1, encs, tys, sxR, sevalprocAttr]
          refine DrawW.plan Tok mixed (.q 0 <| .q 2 <| .q 3 <| .q 4 <| .e 1 [4] <| .e 5 [] <| .q 6 <| .q 7 <| .q 8 <| .q 9 <| .q 10 <| .done) (by kernel_rfl) (by kernel_rfl) ?_
          simp only [↓sx0, sx1, encs, tys, sxR, sevalprocAttr]
          refine ⟨by omega, _, rfl, ?_⟩
          simp only [↓sx0, sx1, encs, tys, sxR, sevalprocAttr]
          refine CallI.fn (copyOf_s true true l (by omega) lw2) (by simp only [sx3, encs, sxR, sevalprocAttr] <;> (try simp) <;> (try rfl)) ?_
          simp only [↓sx0, sx1, encs, tys, sxR, sevalprocAttr]
          refine CallI.fn (hA1) (by simp only [sx3, encs, sxR, sevalprocAttr] <;> (try simp) <;> (try rfl)) ?_
          simp only [↓sx0, sx1, encs, tys, sxR, sevalprocAttr]
          refine ⟨by omega, _, rfl, ?_⟩
          simp only [↓sx0, sx1, encs, tys, sxR, sevalprocAttr]
          refine CallI.fn (hI1) (by simp only [sx3, encs, sxR, sevalprocAttr] <;> (try simp) <;> (try rfl)) ?_
          simp only [↓sx0, sx1, encs, tys, sxR, sevalprocAttr]
          repeat ((first | (with_reducible refine BrW.no (by simp) ?_) | (with_reducible refine BrW.yes (by simp) ?_)); (try simp only [↓sx0, sx1, encs, tys, sxR, sevalprocAttr]))
          refine DrawW.plan Tok mixed (.q 0 <| .q 2 <| .e 1 [2] <| .e 3 [] <| .q 4 <| .q 5 <| .q 6 <| .q 7 <| .q 8 <| .done) (by kernel_rfl) (by kernel_rfl) ?_
          simp only [↓sx0, sx1, encs, tys, sxR, sevalprocAttr]
          refine CallI.fn (copyOf_s true true y (by omega) yw2) (by simp only [sx3, encs, sxR, sevalprocAttr] <;> (try simp) <;> (try rfl)) ?_
          simp only [↓sx0, sx1, encs, tys, sxR, sevalprocAttr]
          refine CallI.fn (hA2) (by simp only [sx3, encs, sxR, sevalprocAttr] <;> (try simp) <;> (try rfl)) ?_
          simp only [↓sx0, sx1, encs, tys, sxR, sevalprocAttr]
          repeat ((first | (with_reducible refine BrW.no (by simp) ?_) | (with_reducible refine BrW.yes (by simp) ?_)); (try simp only [↓sx0, sx1, encs, tys, sxR, sevalprocAttr]))
          refine CallI.fn (copies_s true true true true l l (by omega) (fun p hp => by have := lw2 p hp; omega)) (by simp only [sx3, encs, sxR, sevalprocAttr] <;> (try simp) <;> (try rfl)) ?_
          simp only [↓sx0, sx1, encs, tys, sxR, sevalprocAttr]
          exact EndW.fn (by simp only [sx4, encs, kpLL_map, sxR, sevalprocAttr] <;> (try simp) <;> (try omega)) (by simp only [sx4, encs, kpLL_map, sxR, sevalprocAttr] <;> (try simp) <;> (try omega))
      · have hxe := hbad he
        subst hxe
        refine CallI.fn (hA) (by simp only [sx3, encs, sxR, sevalprocAttr] <;> (try simp) <;> (try rfl)) ?_
        simp only [↓sx0, sx1, encs, tys, sxR, sevalprocAttr]
        refine BrW.yes he ?_
        simp only [↓sx0, sx1, encs, tys, sxR, sevalprocAttr]
        exact EndW.fn (by simp only [sx4, encs, kpLL_map, sxR, sevalprocAttr] <;> (try simp) <;> (try omega)) (by simp only [sx4, encs, kpLL_map, sxR, sevalprocAttr] <;> (try simp) <;> (try omega))
    · simp only [↓sx0, sx1, encs, tys, sxR, sevalprocAttr]
      repeat ((with_reducible refine BrW.ff fb ?_); simp only [↓sx0, sx1, encs, tys, sxR, sevalprocAttr])
      exact EndW.fn (by simp only [sx4, encs, kpLL_map, sxR, sevalprocAttr] <;> (try simp) <;> (try omega)) (by simp only [sx4, encs, kpLL_map, sxR, sevalprocAttr] <;> (try simp) <;> (try omega))
  · simp only [↓sx0, sx1, encs, tys, sxR, sevalprocAttr]
    repeat ((with_reducible refine BrW.ff fa ?_); simp only [↓sx0, sx1, encs, tys, sxR, sevalprocAttr])
    exact EndW.fn (by simp only [sx4, encs, kpLL_map, sxR, sevalprocAttr] <;> (try simp) <;> (try omega)) (by simp only [sx4, encs, kpLL_map, sxR, sevalprocAttr] <;> (try simp) <;> (try omega))
end Go.Proofs.Ytenohgpackcjbaa
