/-
  Chapter 8, walks: two marks in either order come to the same copy.
-/
import Derived.Test.YtenohgpackcjbaaVP8T
import Derived.Test.YtenohgpackcjbaaVGN
namespace Go.Proofs.Ytenohgpackcjbaa
open Go Go.Vx
set_option linter.unusedSimpArgs false
set_option linter.unusedVariables false
set_option maxRecDepth 20000
theorem apAll2_ok {l : List Pt} {ms : List Mk} (h : (apAll l ms).2.2 = 0) : (partsErr (apAll l ms).1).2 = 0 ∧ RPs ms l (apAll l ms).1 := by
  unfold apAll at h ⊢
  by_cases h0 : (partsErr l).2 = 0
  · rw [if_pos h0] at h ⊢
    by_cases h1 : lstErr ms = 0
    · rw [if_pos h1] at h ⊢
      obtain ⟨e1, e2⟩ := apF_RPs (lstA h1).2 h
      exact ⟨e2 h0, e1⟩
    · rw [if_neg h1] at h; exact absurd h h1
  · rw [if_neg h0] at h; exact absurd h h0
theorem swE_ok {a b : Mk} (h : (swE a b).2 = 0) : orderP a b = some ((swE a b).1.2, (swE a b).1.1) := by
  unfold swE at h ⊢
  by_cases e1 : mkErr a = 0
  · rw [if_pos e1] at h ⊢
    by_cases e2 : mkErr b = 0
    · rw [if_pos e2] at h ⊢
      rcases ho : orderP a b with _ | ⟨x, y⟩
      · rw [ho] at h; simp [swapF] at h
      · rw [ho] at h
        simp only [swapF] at h ⊢
        by_cases c1 : inR x = true ∧ inR y = true
        · rw [if_pos c1] at h ⊢
          by_cases c2 : p0B y = true ∨ p0B x = true
          · rw [if_pos c2] at h; simp at h
          · rw [if_neg c2]
        · rw [if_neg c1] at h; simp at h
    · rw [if_neg e2] at h; exact absurd h e2
  · rw [if_neg e1] at h; exact absurd h e1
theorem comm_same {l : List Pt} {a b : Mk} (h1 : (apAll l [a, b]).2.2 = 0) (h2 : (swE a b).2 = 0) (h3 : (apAll l [(swE a b).1.1, (swE a b).1.2]).2.2 = 0) :
    (apAll l [a, b]).1 = (apAll l [(swE a b).1.1, (swE a b).1.2]).1 := by
  obtain ⟨-, x, r1, y, r2, rfl⟩ := apAll2_ok h1
  obtain ⟨-, u, q1, v, q2, e⟩ := apAll2_ok h3
  obtain ⟨l', s1, s2⟩ := diamond r1 r2 (swE_ok h2)
  have := RP_det q1 s1
  subst this
  have := RP_det q2 s2
  subst this
  exact e
theorem order_sz {a b : Mk} (za : MkSz a) (zb : MkSz b) : MkSz (swE a b).1.1 ∧ MkSz (swE a b).1.2 := by
  have z0 : MkSz mk0 := ⟨by decide, by decide⟩
  unfold swE
  split
  · split
    · rcases ho : orderP a b with _ | ⟨x, y⟩
      · exact ⟨z0, z0⟩
      · obtain ⟨⟨-, k1, k2, -⟩, -, k3, k4, -⟩ := order_keep ho
        simp only [swapF]
        split
        · split
          · exact ⟨z0, z0⟩
          · exact ⟨⟨by rw [k3]; exact zb.1, by rw [k4]; exact zb.2⟩, ⟨by rw [k1]; exact za.1, by rw [k2]; exact za.2⟩⟩
        · exact ⟨z0, z0⟩
    · exact ⟨z0, z0⟩
  · exact ⟨z0, z0⟩
set_option maxHeartbeats 16000000 in
theorem commutesLaw_s (l : List Pt) (a b : Mk) (hl : l.length ≤ maxLen) (hw : ∀ p ∈ l, p.words.length ≤ maxLen) : Ctr Try.prog 6 [.sl true 2 (l.map (eP true)), mV a, mV b] (fun rr => rr = ⟨(.v (.bool (true))), []⟩) := by
  have encs := And.intro encs prE
  refine Ctr.of (rs := [.tmp 6]) Tok true Try.func6 rfl rfl rfl rfl (by simp [ofDL]) (fun w0 kp => ?_)
  simp only [↓sx0, sxE, encs, sevalprocAttr]
  refine CallI.fn (awake_s) (by simp only [sx3, encs, sxR, sevalprocAttr] <;> (try simp) <;> (try rfl)) ?_
  simp only [↓sx0, sxE, encs, sevalprocAttr]
  refine CallI.fn (light_s true true l hl hw) (by simp only [sx3, encs, sxR, sevalprocAttr] <;> (try simp) <;> (try rfl)) ?_
  simp only [↓sx0, sxE, encs, sevalprocAttr]
  refine BrW.of (fun fl => ?_) (fun fl => ?_)
  · obtain ⟨l62, lw⟩ := light_all fl
    have lw2 : ∀ p ∈ l, p.words.length ≤ 1000000 := fun p hp => by have := (lw p hp).1; omega
    simp only [↓sx0, sxE, encs, sevalprocAttr]
    repeat ((with_reducible refine BrW.tt fl ?_); simp only [↓sx0, sxE, encs, sevalprocAttr])
    refine CallI.fn (brief_s a) (by simp only [sx3, encs, sxR, sevalprocAttr] <;> (try simp) <;> (try rfl)) ?_
    simp only [↓sx0, sxE, encs, sevalprocAttr]
    by_cases fa : a.old.size ≤ 40 ∧ a.new.size ≤ 40
    · repeat ((with_reducible refine BrW.yes fa ?_); simp only [↓sx0, sxE, encs, sevalprocAttr])
      refine CallI.fn (brief_s b) (by simp only [sx3, encs, sxR, sevalprocAttr] <;> (try simp) <;> (try rfl)) ?_
      simp only [↓sx0, sxE, encs, sevalprocAttr]
      by_cases fb : b.old.size ≤ 40 ∧ b.new.size ≤ 40
      · repeat ((with_reducible refine BrW.yes fb ?_); simp only [↓sx0, sxE, encs, sevalprocAttr])
        have za : MkSz a := ⟨by omega, by omega⟩
        have zb : MkSz b := ⟨by omega, by omega⟩
        have hA := AppliedAll_s true true false l [a, b] (by simpa [AllMk] using ⟨za, zb⟩) (by simp)
        have hS := Swapped_s a b za zb
        obtain ⟨zx, zy⟩ := order_sz za zb
        have hA2 := AppliedAll_s true true false l [(swE a b).1.1, (swE a b).1.2] (by simpa [AllMk] using ⟨zx, zy⟩) (by simp)
        have hcm := comm_same (l := l) (a := a) (b := b)
        have hok := fun h => (apAll2_ok (l := l) (ms := [a, b]) h).1
        generalize swE a b = w at hS hA2 hcm zx zy
        obtain ⟨⟨x, y⟩, e⟩ := w
        simp only at hS hA2 hcm zx zy
        generalize apAll l [a, b] = u at hA hcm hok
        obtain ⟨o1, n1, e1⟩ := u
        generalize apAll l [x, y] = v at hA2 hcm
        obtain ⟨o2, n2, e2⟩ := v
        simp only at hA hA2 hcm hok
        refine DrawW.plan Tok mixed (.q 0 <| .q 2 <| .q 3 <| .e2 1 [2, 3] (.e 4 [] <| .e 5 [] <| .q 6 <| .q 7 <| .q 8 <| .q 9 <| .q 10 <| .q 11 <| .q 12 <| .done) 4 [] (.e 1 [2, 3] <| .e 5 [] <| .q 6 <| .q 7 <| .q 8 <| .q 9 <| .q 10 <| .q 11 <| .q 12 <| .done)) (by kernel_rfl) (by kernel_rfl) ?_
        simp only [↓sx0, sxE, encs, sevalprocAttr]
        refine ⟨?_, ?_⟩
        all_goals (
          skip
          refine CallI.fn (copyOf_s true true l (by omega) lw2) (by simp only [sx3, encs, sxR, sevalprocAttr] <;> (try simp) <;> (try rfl)) ?_
          simp only [↓sx0, sxE, encs, sevalprocAttr]
          refine CallI.fn (hA) (by simp only [sx3, encs, sxR, sevalprocAttr] <;> (try simp) <;> (try rfl)) ?_
          simp only [↓sx0, sxE, encs, sevalprocAttr]
          refine CallI.fn (hS) (by simp only [sx3, encs, sxR, sevalprocAttr] <;> (try simp) <;> (try rfl)) ?_
          simp only [↓sx0, sxE, encs, sevalprocAttr]
          refine BrW.dec (fun z1 => ?_) (fun z1 => ?_)
          · simp only [↓sx0, sxE, encs, sevalprocAttr]
            refine EndW.fn ?_ ?_ <;> simp only [sx4, encs, kpLL_map, sxR, sevalprocAttr] <;> (try simp) <;> (try omega)
          · have z1 := Decidable.not_not.1 z1
            simp only [↓sx0, sxE, encs, sevalprocAttr]
            refine BrW.dec (fun z2 => ?_) (fun z2 => ?_)
            · simp only [↓sx0, sxE, encs, sevalprocAttr]
              refine EndW.fn ?_ ?_ <;> simp only [sx4, encs, kpLL_map, sxR, sevalprocAttr] <;> (try simp) <;> (try omega)
            · have z2 := Decidable.not_not.1 z2
              simp only [↓sx0, sxE, encs, sevalprocAttr]
              refine DrawW.plan Tok mixed (.q 0 <| .q 2 <| .q 3 <| .q 4 <| .q 5 <| .e2 1 [3, 5] (.e 6 [] <| .e 7 [] <| .q 8 <| .q 9 <| .q 10 <| .q 11 <| .q 12 <| .q 13 <| .q 14 <| .done) 6 [] (.e 1 [3, 5] <| .e 7 [] <| .q 8 <| .q 9 <| .q 10 <| .q 11 <| .q 12 <| .q 13 <| .q 14 <| .done)) (by kernel_rfl) (by kernel_rfl) ?_
              simp only [↓sx0, sxE, encs, sevalprocAttr]
              repeat ((with_reducible refine Vc.go trivial fun _ => ?_); simp only [↓sx0, sxE, encs, sevalprocAttr])
              refine ⟨?_, ?_⟩
              all_goals (
                skip
                refine CallI.fn (copyOf_s true true l (by omega) lw2) (by simp only [sx3, encs, sxR, sevalprocAttr] <;> (try simp) <;> (try rfl)) ?_
                simp only [↓sx0, sxE, encs, sevalprocAttr]
                refine CallI.fn (hA2) (by simp only [sx3, encs, sxR, sevalprocAttr] <;> (try simp) <;> (try rfl)) ?_
                simp only [↓sx0, sxE, encs, sevalprocAttr]
                refine BrW.dec (fun z3 => ?_) (fun z3 => ?_)
                · simp only [↓sx0, sxE, encs, sevalprocAttr]
                  refine EndW.fn ?_ ?_ <;> simp only [sx4, encs, kpLL_map, sxR, sevalprocAttr] <;> (try simp) <;> (try omega)
                · have z3 := Decidable.not_not.1 z3
                  have hsame := hcm z1 z2 z3
                  obtain ⟨p60, pw⟩ := parts_ok (hok z1)
                  simp only [↓sx0, sxE, encs, sevalprocAttr]
                  refine CallI.fn (copies_s true true true true o1 o2 (by omega) (fun p hp => by have := pw p hp; omega)) (by simp only [sx3, encs, sxR, sevalprocAttr] <;> (try simp) <;> (try rfl)) ?_
                  simp only [↓sx0, sxE, encs, sevalprocAttr]
                  refine EndW.fn ?_ ?_ <;> simp only [sx4, encs, kpLL_map, sxR, sevalprocAttr] <;> (try simp [hsame]) <;> (try omega) ) )
      · repeat ((with_reducible refine BrW.no fb ?_); simp only [↓sx0, sxE, encs, sevalprocAttr])
        refine EndW.fn ?_ ?_ <;> simp only [sx4, encs, kpLL_map, sxR, sevalprocAttr] <;> (try simp) <;> (try omega)
    · repeat ((with_reducible refine BrW.no fa ?_); simp only [↓sx0, sxE, encs, sevalprocAttr])
      refine EndW.fn ?_ ?_ <;> simp only [sx4, encs, kpLL_map, sxR, sevalprocAttr] <;> (try simp) <;> (try omega)
  · simp only [↓sx0, sxE, encs, sevalprocAttr]
    repeat ((with_reducible refine BrW.ff fl ?_); simp only [↓sx0, sxE, encs, sevalprocAttr])
    refine EndW.fn ?_ ?_ <;> simp only [sx4, encs, kpLL_map, sxR, sevalprocAttr] <;> (try simp) <;> (try omega)
end Go.Proofs.Ytenohgpackcjbaa
