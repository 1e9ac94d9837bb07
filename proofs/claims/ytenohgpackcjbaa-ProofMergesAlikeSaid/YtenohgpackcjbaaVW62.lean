/-
 Chapter 8, walks: merged either way.
-/
import Derived.Test.YtenohgpackcjbaaVP8M
import Derived.Test.YtenohgpackcjbaaVW61
namespace Go.Proofs.Ytenohgpackcjbaa
open Go Go.Vx
set_option linter.unusedSimpArgs false
set_option linter.unusedVariables false
set_option maxRecDepth 20000
theorem carry_ok {xs : List Mk} {y y' : Mk} {xs' : List Mk} (h1 : ∀ m ∈ xs, mkErr m = 0) (h2 : mkErr y = 0) (h : Carry xs y xs' y') : (∀ m ∈ xs', mkErr m = 0) ∧ mkErr y' = 0 := by
 induction xs generalizing y xs' with
 | nil => obtain ⟨rfl, rfl⟩ := h; exact ⟨h1, h2⟩
 | cons x xs ih =>
  obtain ⟨r, ⟨h0, rfl⟩, hc⟩ := h
  obtain ⟨o1, o2⟩ := step_ok (h1 x List.mem_cons_self) h2 h0
  obtain ⟨i1, i2⟩ := ih (fun m hm => h1 m (List.mem_cons_of_mem _ hm)) o2 hc
  refine ⟨fun m hm => ?_, i2⟩
  rcases List.mem_cons.1 hm with rfl | hm
  ·exact o1
  ·exact i1 m hm
theorem Gr_ok {bs : List Mk} {xs bs' xs' : List Mk} (h1 : ∀ m ∈ xs, mkErr m = 0) (h2 : ∀ m ∈ bs, mkErr m = 0) (h : Gr bs xs bs' xs') : ∀ m ∈ bs', mkErr m = 0 := by
 induction bs generalizing xs bs' with
 | nil => obtain ⟨rfl, rfl⟩ := h; exact h2
 | cons y bs ih =>
  obtain ⟨xs1, y', r, ⟨hc, rfl⟩, hg⟩ := h
  obtain ⟨c1, c2⟩ := carry_ok h1 (h2 y List.mem_cons_self) hc
  intro m hm
  rcases List.mem_cons.1 hm with rfl | hm
  ·exact c2
  ·exact ih c1 (fun m hm => h2 m (List.mem_cons_of_mem _ hm)) hg m hm
theorem mgV_sz {a b : List Mk} (h : (mgV a b).2.2 = 0) : AllMk (mgV a b).1 := by
 have he : mgE a b = 0 := by
  unfold mgV at h
  by_cases h1 : mgE a b = 0
  ·exact h1
  ·rw [if_neg h1] at h; exact absurd h h1
 have ha : lstErr a = 0 ∧ lstErr b = 0 := by
  unfold mgE at he
  by_cases h1 : lstErr a = 0
  ·rw [if_pos h1] at he; exact ⟨h1, he⟩
  ·rw [if_neg h1] at he; exact absurd he h1
 obtain ⟨bs', xs', e1, g1⟩ := mgV_ok h
 rw [e1]
 intro m hm
 refine mk_sz ?_
 rcases List.mem_append.1 hm with hm | hm
 ·exact (lstA ha.1).2 m hm
 ·exact Gr_ok (lstA ha.1).2 (lstA ha.2).2 g1 m hm
theorem alike {a b : List Mk} {l : List Pt} (h1 : (mgV a b).2.2 = 0) (h2 : (mgV b a).2.2 = 0) (h3 : (apAll l (mgV a b).1).2.2 = 0) (h4 : (apAll l (mgV b a).1).2.2 = 0) : (apAll l (mgV a b).1).1 = (apAll l (mgV b a).1).1 :=
 merge_same h1 h2 (apAll2_ok h3).2 (apAll2_ok h4).2
set_option maxHeartbeats 16000000 in
theorem mergesAlikeLaw_s (l : List Pt) (a b : List Mk) (hl : l.length ≤ maxLen) (hw : ∀ p ∈ l, p.words.length ≤ maxLen) (ha : a.length ≤ maxLen) (hb : b.length ≤ maxLen) : Ctr Try.prog 13 [.sl true 2 (l.map (eP true)), .sl true 7 (a.map eM), .sl true 7 (b.map eM)] (fun rr => rr = ⟨(.v (.bool (true))), []⟩) := by
 have encs := And.intro encs (And.intro (show ∀ p, prI p = .agg [.v (.int .i64 p.1), .v (.int .i64 p.2)] from fun _ => rfl) prE)
 refine Ctr.of (rs := [.tmp 6]) Tok true Try.func13 rfl rfl rfl rfl (by simp [ofDL]) (fun w0 kp => ?_)
 simp only [↓sx0, sxE, encs, sevalprocAttr]
 refine CallI.fn (awake_s) (by simp only [sx3, encs, sxR, sevalprocAttr] <;> (try simp) <;> (try rfl)) ?_
 simp only [↓sx0, sxE, encs, sevalprocAttr]
 refine CallI.fn (light_s true true l hl hw) (by simp only [sx3, encs, sxR, sevalprocAttr] <;> (try simp) <;> (try rfl)) ?_
 simp only [↓sx0, sxE, encs, sevalprocAttr]
 refine BrW.of (fun fl => ?_) (fun fl => ?_)
 ·obtain ⟨l62, lw⟩ := light_all fl
  have lw2 : ∀ p ∈ l, p.words.length ≤ 1000000 := fun p hp => by have := (lw p hp).1; omega
  simp only [↓sx0, sxE, encs, sevalprocAttr]
  repeat ((with_reducible refine BrW.tt fl ?_); simp only [↓sx0, sxE, encs, sevalprocAttr])
  refine CallI.fn (few_s true a ha) (by simp only [sx3, encs, sxR, sevalprocAttr] <;> (try simp) <;> (try rfl)) ?_
  simp only [↓sx0, sxE, encs, sevalprocAttr]
  refine BrW.of (fun fa => ?_) (fun fa => ?_)
  ·obtain ⟨za, na⟩ := few_all fa
   simp only [↓sx0, sxE, encs, sevalprocAttr]
   repeat ((with_reducible refine BrW.tt fa ?_); simp only [↓sx0, sxE, encs, sevalprocAttr])
   refine CallI.fn (few_s true b hb) (by simp only [sx3, encs, sxR, sevalprocAttr] <;> (try simp) <;> (try rfl)) ?_
   simp only [↓sx0, sxE, encs, sevalprocAttr]
   refine BrW.of (fun fb => ?_) (fun fb => ?_)
   ·obtain ⟨zb, nb⟩ := few_all fb
    simp only [↓sx0, sxE, encs, sevalprocAttr]
    repeat ((with_reducible refine BrW.tt fb ?_); simp only [↓sx0, sxE, encs, sevalprocAttr])
    have hI := merged_s a b za zb (by omega) (by omega)
    have hJ := merged_s b a zb za (by omega) (by omega)
    have hlen := mgV_len a b
    have hlen2 := mgV_len b a
    have hz1 := mgV_sz (a := a) (b := b)
    have hz2 := mgV_sz (a := b) (b := a)
    have hal := alike (a := a) (b := b) (l := l)
    have hok := fun h => (apAll2_ok (l := l) (ms := (mgV a b).1) h).1
    generalize mgV a b = r at hI hlen hz1 hal hok
    obtain ⟨x, p, e⟩ := r
    generalize mgV b a = r2 at hJ hlen2 hz2 hal
    obtain ⟨y, p2, f⟩ := r2
    simp only at hI hJ hlen hlen2 hz1 hz2 hal hok
    refine CallI.fn (copyMarks_s true a (by omega)) (by simp only [sx3, encs, sxR, sevalprocAttr] <;> (try simp) <;> (try rfl)) ?_
    simp only [↓sx0, sxE, encs, sevalprocAttr]
    refine CallI.fn (copyMarks_s true b (by omega)) (by simp only [sx3, encs, sxR, sevalprocAttr] <;> (try simp) <;> (try rfl)) ?_
    simp only [↓sx0, sxE, encs, sevalprocAttr]
    refine CallI.fn (hI) (by simp only [sx3, encs, sxR, sevalprocAttr] <;> (try simp) <;> (try rfl)) ?_
    simp only [↓sx0, sxE, encs, sevalprocAttr]
    refine CallI.fn (copyMarks_s true b (by omega)) (by simp only [sx3, encs, sxR, sevalprocAttr] <;> (try simp) <;> (try rfl)) ?_
    simp only [↓sx0, sxE, encs, sevalprocAttr]
    refine CallI.fn (copyMarks_s true a (by omega)) (by simp only [sx3, encs, sxR, sevalprocAttr] <;> (try simp) <;> (try rfl)) ?_
    simp only [↓sx0, sxE, encs, sevalprocAttr]
    refine CallI.fn (hJ) (by simp only [sx3, encs, sxR, sevalprocAttr] <;> (try simp) <;> (try rfl)) ?_
    simp only [↓sx0, sxE, encs, sevalprocAttr]
    refine BrW.dec (fun z1 => ?_) (fun z1 => ?_)
    ·simp only [↓sx0, sxE, encs, sevalprocAttr]
     refine EndW.fn ?_ ?_ <;> simp only [sx4, encs, kpLL_map, sxR, sevalprocAttr] <;> (try simp) <;> (try omega)
    ·have z1 := Decidable.not_not.1 z1
     simp only [↓sx0, sxE, encs, sevalprocAttr]
     refine BrW.dec (fun z2 => ?_) (fun z2 => ?_)
     ·simp only [↓sx0, sxE, encs, sevalprocAttr]
      refine EndW.fn ?_ ?_ <;> simp only [sx4, encs, kpLL_map, sxR, sevalprocAttr] <;> (try simp) <;> (try omega)
     ·have z2 := Decidable.not_not.1 z2
      simp only [↓sx0, sxE, encs, sevalprocAttr]
      have hA := AppliedAll_s true true true l x (hz1 z1) (by omega)
      have hA2 := AppliedAll_s true true true l y (hz2 z2) (by omega)
      generalize apAll l x = u at hA hal hok
      obtain ⟨o1, n1, e1⟩ := u
      generalize apAll l y = v at hA2 hal
      obtain ⟨o2, n2, e2⟩ := v
      simp only at hA hA2 hal hok
      refine CallI.fn (copyOf_s true true l (by omega) lw2) (by simp only [sx3, encs, sxR, sevalprocAttr] <;> (try simp) <;> (try rfl)) ?_
      simp only [↓sx0, sxE, encs, sevalprocAttr]
      refine CallI.fn (hA) (by simp only [sx3, encs, sxR, sevalprocAttr] <;> (try simp) <;> (try rfl)) ?_
      simp only [↓sx0, sxE, encs, sevalprocAttr]
      refine CallI.fn (copyOf_s true true l (by omega) lw2) (by simp only [sx3, encs, sxR, sevalprocAttr] <;> (try simp) <;> (try rfl)) ?_
      simp only [↓sx0, sxE, encs, sevalprocAttr]
      refine CallI.fn (hA2) (by simp only [sx3, encs, sxR, sevalprocAttr] <;> (try simp) <;> (try rfl)) ?_
      simp only [↓sx0, sxE, encs, sevalprocAttr]
      refine BrW.dec (fun z3 => ?_) (fun z3 => ?_)
      ·simp only [↓sx0, sxE, encs, sevalprocAttr]
       refine EndW.fn ?_ ?_ <;> simp only [sx4, encs, kpLL_map, sxR, sevalprocAttr] <;> (try simp) <;> (try omega)
      ·have z3 := Decidable.not_not.1 z3
       simp only [↓sx0, sxE, encs, sevalprocAttr]
       refine BrW.dec (fun z4 => ?_) (fun z4 => ?_)
       ·simp only [↓sx0, sxE, encs, sevalprocAttr]
        refine EndW.fn ?_ ?_ <;> simp only [sx4, encs, kpLL_map, sxR, sevalprocAttr] <;> (try simp) <;> (try omega)
       ·have z4 := Decidable.not_not.1 z4
        have hsame := hal z1 z2 z3 z4
        obtain ⟨q60, qw⟩ := parts_ok (hok z3)
        simp only [↓sx0, sxE, encs, sevalprocAttr]
        refine CallI.fn (copies_s true true true true o1 o2 (by omega) (fun p hp => by have := qw p hp; omega)) (by simp only [sx3, encs, sxR, sevalprocAttr] <;> (try simp) <;> (try rfl)) ?_
        simp only [↓sx0, sxE, encs, sevalprocAttr]
        refine EndW.fn ?_ ?_ <;> simp only [sx4, encs, kpLL_map, sxR, sevalprocAttr] <;> (try simp [hsame]) <;> (try omega)
   ·simp only [↓sx0, sxE, encs, sevalprocAttr]
    repeat ((with_reducible refine BrW.ff fb ?_); simp only [↓sx0, sxE, encs, sevalprocAttr])
    refine EndW.fn ?_ ?_ <;> simp only [sx4, encs, kpLL_map, sxR, sevalprocAttr] <;> (try simp) <;> (try omega)
  ·simp only [↓sx0, sxE, encs, sevalprocAttr]
   repeat ((with_reducible refine BrW.ff fa ?_); simp only [↓sx0, sxE, encs, sevalprocAttr])
   refine EndW.fn ?_ ?_ <;> simp only [sx4, encs, kpLL_map, sxR, sevalprocAttr] <;> (try simp) <;> (try omega)
 ·simp only [↓sx0, sxE, encs, sevalprocAttr]
  repeat ((with_reducible refine BrW.ff fl ?_); simp only [↓sx0, sxE, encs, sevalprocAttr])
  refine EndW.fn ?_ ?_ <;> simp only [sx4, encs, kpLL_map, sxR, sevalprocAttr] <;> (try simp) <;> (try omega)
end Go.Proofs.Ytenohgpackcjbaa
