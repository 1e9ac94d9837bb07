/-
  Chapter 8, walks: a copy in memory of its own, with the words of one part still own.
-/
import Derived.Test.YtenohgpackcjbaaVW3
namespace Go.Proofs.Ytenohgpackcjbaa
open Go Go.Vx
set_option linter.unusedSimpArgs false
set_option linter.unusedVariables false
set_option maxRecDepth 20000
theorem cloneS_s (b : Bool) (els : List (List D)) (hk : kpLL els) (hl : els.length ≤ 1000000) : Ctr Try.prog 109 [.sl b 1 els] (fun rr => rr = ⟨.row 0, [.own 9 1 els]⟩) := by
  refine Ctr.of (rs := [.tmp 2]) Tok false Try.func109 rfl rfl rfl rfl (by simp [ofDL]) (fun w0 kp => ?_)
  simp only [↓sx0, sx1, encs, tys, sxR, sevalprocAttr]
  intro z hz
  refine BrW.of (fun h => ?_) (fun h => ?_)
  · simp only [↓sx0, sx1, encs, tys, sxR, sevalprocAttr]
    rw [hz h]
    exact EndW.r [none] (by simp) (by simp only [sx4, sxF, encs, kpLL_map, sxR, sevalprocAttr] <;> simp) (by simp only [sx4, sxF, encs, kpLL_map, sxR, sevalprocAttr] <;> simp) (by simp only [sx4, sxF, encs, kpLL_map, sxR, sevalprocAttr] <;> simp) (by simp only [sx4, sxF, encs, kpLL_map, sxR, sevalprocAttr] <;> simp)
  · simp only [↓sx0, sx1, encs, tys, sxR, sevalprocAttr]
    (with_reducible refine Vc.go ?_ fun _ => ?_); focus (first | omega | (simp only [InK]; omega) | (simp [InK]; done) | (simp [InK]; omega))
    simp only [↓sx0, sx1, encs, tys, sxR, sevalprocAttr]
    exact EndW.r [some 1] (by simp) (by simp only [sx4, sxF, encs, kpLL_map, sxR, sevalprocAttr] <;> simp [hk]) (by simp only [sx4, sxF, encs, kpLL_map, sxR, sevalprocAttr] <;> simp [hk]) (by simp only [sx4, sxF, encs, kpLL_map, sxR, sevalprocAttr] <;> simp [hk]) (by simp only [sx4, sxF, encs, kpLL_map, sxR, sevalprocAttr] <;> simp [hk])
theorem kpS (l : List ByteArray) : kpLL (l.map eS) := by simp [kpLL_map, eS, kpL, kpD]
theorem kpP (l : List Pt) : kpLL (l.map (eP true)) := by simp [kpLL_map, eP, eS, kpL, kpD]
/-- the parts so far; of part i the words are own, the value is 'u'. -/
def elsA (l : List Pt) (i : Nat) (u : Value) : List (List D) := (l.map (eP true)).set i [.v (.int .i64 (l.getD i ⟨0, []⟩).kind), .v u]
theorem elsA_first {l : List Pt} {i : Nat} (hi : i < l.length) (u : Value) : ((l.take i).map (eP true)) ++ [[.v (.int .i64 l[i].kind), .v u]] = elsA (l.take (i + 1)) i u := by
  unfold elsA
  rw [List.take_succ_eq_append_getElem hi, List.map_append, List.set_append_right _ _ (by simp; omega)]
  have : (List.take i l ++ [l[i]]).getD i ⟨0, []⟩ = l[i] := by
    rw [List.getD_eq_getElem?_getD, List.getElem?_append_right (by simp; omega)]
    simp [show i - min i l.length = 0 by omega]
  rw [this]
  simp [show i - min i l.length = 0 by omega]
theorem elsA_next {l : List Pt} {i k : Nat} (hi : i < k) (hk : k < l.length) (u : Value) : elsA (l.take k) i u ++ [eP true l[k]] = elsA (l.take (k + 1)) i u := by
  unfold elsA
  rw [List.take_succ_eq_append_getElem hk, List.map_append, List.set_append_left _ _ (by simp; omega)]
  have : (List.take k l ++ [l[k]]).getD i ⟨0, []⟩ = (List.take k l).getD i ⟨0, []⟩ := by
    simp only [List.getD_eq_getElem?_getD]
    rw [List.getElem?_append_left (by simp; omega)]
  rw [this]
  rfl
theorem kpA (l : List Pt) (i : Nat) (u : Value) : kpLL (elsA l i u) := by
  rw [kpLL_all]
  intro e he
  rcases List.mem_or_eq_of_mem_set he with h | h
  · have := kpP l; rw [kpLL_all] at this; exact this e h
  · subst h; simp [kpL, kpD]
def gA (i k : Nat) : Option Value → SV
  | none => if k = i then .arm else .any
  | some u => .ali 1 u
def rwA (l : List Pt) (i k : Nat) : Option Value → List Rw
  | none => [.own 93 2 ((l.take k).map (eP true))]
  | some u => [.own 93 2 (elsA (l.take k) i u), .own 9 1 ((l.getD i ⟨0, []⟩).words.map eS)]
def JA (l : List Pt) (i k : Nat) : Option Value → Prop
  | none => k ≤ i
  | some u => i < k ∧ k ≤ l.length ∧ ∃ ad n c, u = .slice (some ad) n c
set_option maxHeartbeats 4000000 in
theorem clone_s (b b2 : Bool) (l : List Pt) (i : Nat) (hl : l.length ≤ 1000) (hi : i < l.length) (hw : ∀ p ∈ l, p.words.length ≤ 1000) (hn : 0 < l[i].words.length) :
    CtrA Try.prog 69 [.sl b 2 (l.map (eP b2))] (fun r k u => k = 1 ∧ (∃ ad n c, u = .slice (some ad) n c) ∧ r = ⟨.row 0, [.own 93 2 (elsA l i u), .own 9 1 (l[i].words.map eS)]⟩) := by
  refine CtrA.of (rs := [.tmp 2]) Tok Try.func69 rfl rfl rfl rfl (by simp [ofDL]) (fun w0 kp => ?_)
  simp only [↓sx0, sx1, encs, tys, sxR, sevalprocAttr]
  have wl : ∀ k (h : k < l.length), (l[k].words.map eS).length ≤ 1000000 := fun k h => by have := hw _ (List.getElem_mem h); simp; omega
  refine LoopW.inv Tok (fun x : Nat × Option Value => ⟨[(3, .row 0), (8, (.v (.int .i64 x.1))), (6, .sl b 2 (l.map (eP b2))), (7, (.v (.int .i64 l.length))), (1000000, gA i x.1 x.2)], [], rwA l i x.1 x.2⟩) (fun x => JA l i x.1 x.2) (fun x => l.length - x.1) (0, none) (StLe.trans StLe.arm (StLe.auto ?_)) (Nat.zero_le i) ?_
  · by_cases hz : 0 = i
    · simp only [gA, rwA, if_pos hz, List.take_zero, List.map_nil]
      simp only [sx2, encs, sxR, sevalprocAttr] <;> (try simp) <;> (try omega)
    · simp only [gA, rwA, if_neg hz, List.take_zero, List.map_nil]
      simp only [sx2, encs, sxR, sevalprocAttr] <;> (try simp) <;> (try omega)
  rintro ⟨k, _ | u⟩ hJ
  · simp only [JA] at hJ
    have hkl : k < l.length := by omega
    by_cases hki : k = i
    · subst hki
      simp only [gA, rwA, if_true]
      simp only [↓sx0, sx1, encs, tys, sxR, sevalprocAttr]
      refine BrW.yes (by omega) ?_
      simp only [↓sx0, sx1, encs, tys, sxR, sevalprocAttr]
      refine IxW.nat hkl ?_
      simp only [↓sx0, sx1, encs, tys, sxR, sevalprocAttr]
      refine DrawW.plan Tok mixed (.q 0 <| .q 1 <| .q 2 <| .q 3 <| .q 4 <| .e 5 [2] <| .q 6 <| .e 7 [] <| .e 8 [] <| .q 9 <| .done) (by kernel_rfl) (by kernel_rfl) ?_
      simp only [↓sx0, sx1, encs, tys, sxR, sevalprocAttr]
      refine CallI.ctr (cloneS_s b2 _ (kpS l[k].words) (wl k hkl)) (by simp only [sx3, encs, sxR, sevalprocAttr] <;> (try simp) <;> (try rfl)) ?_
      rintro _ rfl
      simp only [↓sx0, sx1, encs, tys, sxR, sevalprocAttr]
      (with_reducible refine Vc.go ?_ fun _ => ?_)
      · simpa using hn
      intro ad n0 c0
      simp only [↓sx0, sx1, encs, tys, sxR, sevalprocAttr]
      repeat ((with_reducible refine Vc.go ?_ fun _ => ?_); (focus (first | omega | (simp only [InK]; omega) | (simp [InK]; done) | (simp [InK]; omega))); simp only [↓sx0, sx1, encs, tys, sxR, sevalprocAttr])
      refine ⟨(k + 1, some (.slice (some ad) n0 c0)), StLe.auto ?_, ⟨by omega, by omega, ad, n0, c0, rfl⟩, by simp only; omega⟩
      have hf := elsA_first hkl (.slice (some ad) n0 c0)
      have hgd : l.getD k ⟨0, []⟩ = l[k] := by simp [List.getD_eq_getElem?_getD, hkl]
      simp only [gA, rwA, hgd, ← hf]
      simp only [sx2, encs, sxR, sevalprocAttr] <;> (try simp) <;> (try omega)
    · simp only [gA, rwA, if_neg hki]
      simp only [↓sx0, sx1, encs, tys, sxR, sevalprocAttr]
      refine BrW.yes (by omega) ?_
      simp only [↓sx0, sx1, encs, tys, sxR, sevalprocAttr]
      refine IxW.nat hkl ?_
      simp only [↓sx0, sx1, encs, tys, sxR, sevalprocAttr]
      refine DrawW.plan Tok mixed (.q 0 <| .q 1 <| .q 2 <| .q 3 <| .q 4 <| .e 5 [2] <| .q 6 <| .e 7 [] <| .e 8 [] <| .q 9 <| .done) (by kernel_rfl) (by kernel_rfl) ?_
      simp only [↓sx0, sx1, encs, tys, sxR, sevalprocAttr]
      refine CallI.ctr (cloneS_s b2 _ (kpS l[k].words) (wl k hkl)) (by simp only [sx3, encs, sxR, sevalprocAttr] <;> (try simp) <;> (try rfl)) ?_
      rintro _ rfl
      simp only [↓sx0, sx1, encs, tys, sxR, sevalprocAttr]
      repeat ((with_reducible refine Vc.go ?_ fun _ => ?_); (focus (first | omega | (simp only [InK]; omega) | (simp [InK]; done) | (simp [InK]; omega))); simp only [↓sx0, sx1, encs, tys, sxR, sevalprocAttr])
      refine ⟨(k + 1, none), StLe.trans StLe.arm (StLe.auto ?_), (by simp only [JA]; omega), by simp only; omega⟩
      have hf : (l.take k).map (eP true) ++ [eP true l[k]] = (l.take (k + 1)).map (eP true) := by rw [List.take_succ_eq_append_getElem hkl, List.map_append]; rfl
      by_cases hz : k + 1 = i
      · simp only [gA, rwA, if_pos hz, ← hf]
        simp only [sx2, encs, sxR, sevalprocAttr] <;> (try simp) <;> (try omega)
      · simp only [gA, rwA, if_neg hz, ← hf]
        simp only [sx2, encs, sxR, sevalprocAttr] <;> (try simp) <;> (try omega)
  · obtain ⟨h1, h2, ad, n0, c0, rfl⟩ := hJ
    have hgd : l.getD i ⟨0, []⟩ = l[i] := by simp [List.getD_eq_getElem?_getD, hi]
    simp only [gA, rwA, hgd]
    simp only [↓sx0, sx1, encs, tys, sxR, sevalprocAttr]
    refine BrW.dec (fun hlt => ?_) (fun hlt => ?_)
    · simp only [↓sx0, sx1, encs, tys, sxR, sevalprocAttr]
      have hkl : k < l.length := by omega
      have hel : (elsA (l.take k) i (.slice (some ad) n0 c0)).length ≤ 1000 := by simp [elsA]; omega
      refine IxW.nat hkl ?_
      simp only [↓sx0, sx1, encs, tys, sxR, sevalprocAttr]
      refine DrawW.plan Tok mixed (.q 0 <| .q 1 <| .q 2 <| .q 3 <| .q 4 <| .e 5 [2] <| .q 6 <| .e 7 [] <| .e 8 [] <| .q 9 <| .done) (by kernel_rfl) (by kernel_rfl) ?_
      simp only [↓sx0, sx1, encs, tys, sxR, sevalprocAttr]
      refine CallI.ctr (cloneS_s b2 _ (kpS l[k].words) (wl k hkl)) (by simp only [sx3, encs, sxR, sevalprocAttr] <;> (try simp) <;> (try rfl)) ?_
      rintro _ rfl
      simp only [↓sx0, sx1, encs, tys, sxR, sevalprocAttr]
      repeat ((with_reducible refine Vc.go ?_ fun _ => ?_); (focus (first | omega | (simp only [InK]; omega) | (simp [InK]; done) | (simp [InK]; omega))); simp only [↓sx0, sx1, encs, tys, sxR, sevalprocAttr])
      refine ⟨(k + 1, some (.slice (some ad) n0 c0)), StLe.auto ?_, ⟨by simp only; omega, by simp only; omega, ad, n0, c0, rfl⟩, by simp only; omega⟩
      have hf := elsA_next (l := l) h1 hkl (.slice (some ad) n0 c0)
      simp only [gA, rwA, hgd, ← hf]
      simp only [sx2, encs, sxR, sevalprocAttr] <;> (try simp) <;> (try omega)
    · simp only [↓sx0, sx1, encs, tys, sxR, sevalprocAttr]
      have hke : k = l.length := by simp only at h2; omega
      subst hke
      rw [List.take_length]
      refine ⟨[some 0, some 1], ⟨.row 0, [.own 93 2 (elsA l i (.slice (some ad) n0 c0)), .own 9 1 (l[i].words.map eS)]⟩, 1, .slice (some ad) n0 c0, ⟨rfl, ⟨ad, n0, c0, rfl⟩, rfl⟩, by simp, ?_, ?_, ?_, ?_, ?_⟩
      all_goals (
        simp only [sxL, sxF, sxG, sxY, sxH, sxU, encs, sxN, sevalprocAttr, ne_eq, decide_true, decide_false]
        try simp [kpA, kpS] )
end Go.Proofs.Ytenohgpackcjbaa
