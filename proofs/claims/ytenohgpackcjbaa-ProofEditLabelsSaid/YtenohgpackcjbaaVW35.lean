/-
  Chapter 8, walks: the bound of a place.
-/
import Derived.Test.YtenohgpackcjbaaVW34
namespace Go.Proofs.Ytenohgpackcjbaa
open Go Go.Vx
set_option linter.unusedSimpArgs false
set_option linter.unusedVariables false
set_option maxRecDepth 20000
def mostB (i k : Nat) : Int := if i = 0 ∧ k = 0 then 0 else 100
def bdS (nb : Nat) (L : List Int) (m : Int) (p : (Nat × Nat) × Int) : Int := min m (L.getD (atN nb p.1.1 p.1.2) 0 + p.2)
def bdK (a b : List ByteArray) (L : List Int) (i k n : Nat) : Int := ((stN a b i k).take n).foldl (bdS b.length L) (mostB i k)
def bdV (a b : List ByteArray) (L : List Int) (i k : Nat) : Int := (stN a b i k).foldl (bdS b.length L) (mostB i k)
theorem bdK_all (a b : List ByteArray) (L : List Int) (i k : Nat) : bdK a b L i k (stN a b i k).length = bdV a b L i k := by rw [bdK, List.take_length]; rfl
theorem bdK_succ {a b : List ByteArray} {L : List Int} {i k n : Nat} (h : n < (stN a b i k).length) : bdK a b L i k (n + 1) = bdS b.length L (bdK a b L i k n) (stN a b i k)[n] := by
  rw [bdK, List.take_succ_eq_append_getElem h, List.foldl_append]; rfl
theorem stN_mem {a b : List ByteArray} {i k : Nat} {p : (Nat × Nat) × Int} (h : p ∈ stN a b i k) : p.1.1 ≤ i ∧ p.1.2 ≤ k ∧ p.1.1 + p.1.2 < i + k ∧ 0 ≤ p.2 ∧ p.2 ≤ 1 := by
  unfold stN at h
  simp only [List.mem_append] at h
  rcases h with h | h | h
  · split at h
    · simp only [List.mem_singleton] at h; subst h
      refine ⟨by simp only; omega, by simp only; omega, by simp only; omega, ?_, ?_⟩ <;> (simp only; split <;> omega)
    · cases h
  · split at h
    · simp only [List.mem_singleton] at h; subst h
      exact ⟨by simp only; omega, by simp only; omega, by simp only; omega, by simp only; omega, by simp only; omega⟩
    · cases h
  · split at h
    · simp only [List.mem_singleton] at h; subst h
      exact ⟨by simp only; omega, by simp only; omega, by simp only; omega, by simp only; omega, by simp only; omega⟩
    · cases h
set_option maxHeartbeats 8000000 in
theorem bound_s (b3 : Bool) (a b : List ByteArray) (L : List Int) (i k : Nat) (hi : i ≤ a.length) (hk : k ≤ b.length) (ha : a.length ≤ 1000) (hb : b.length ≤ 1000) (hL : ∀ p ∈ stN a b i k, atN b.length p.1.1 p.1.2 < L.length) (hv : ∀ x ∈ L, 0 ≤ x ∧ x ≤ 100) :
    Ctr Try.prog 76 [gV true true a b, .sl b3 1 (L.map eI), (.v (.int .i64 ((i : Int)))), (.v (.int .i64 ((k : Int))))] (fun rr => rr = ⟨(.v (.int .i64 (bdV a b L i k))), []⟩) := by
  have hit := stepsIt_s a b i k hi hk ha hb
  have hst := steps_s a b i k
  have encs := And.intro encs (And.intro (show ∀ a b i k, stC a b i k = [.pt true [(.v (.int .i64 ((i : Int))))], .pt true [(.v (.int .i64 ((k : Int))))], .pt true [.sl true 1 (a.map eS), .sl true 1 (b.map eS)]] from fun _ _ _ _ => rfl) (show ∀ b1 b2 a b, gV b1 b2 a b = .agg [.sl b1 1 (a.map eS), .sl b2 1 (b.map eS)] from fun _ _ _ _ => rfl))
  have hat := fun (p : (Nat × Nat) × Int) (hp : p ∈ stN a b i k) => at_s true true a b p.1.1 p.1.2 (by have := stN_mem hp; omega) (by have := stN_mem hp; omega) hb
  refine Ctr.of (rs := [.tmp 8]) Tok true Try.func76 rfl rfl rfl rfl (by simp [ofDL]) (fun w0 kp => ?_)
  simp only [↓sx0, sx1, encs, tys, sxR, sevalprocAttr]
  by_cases hz : i = 0 ∧ k = 0
  · have hK0 : bdK a b L i k 0 = 0 := by simp [bdK, mostB, hz]
    repeat ((with_reducible refine BrW.yes (by omega) ?_); simp only [↓sx0, sx1, encs, tys, sxR, sevalprocAttr])
    have encs := And.intro encs hK0
    refine CallI.fn (hst) (by simp only [sx3, encs, sxR, sevalprocAttr] <;> (try simp) <;> (try rfl)) ?_
    simp only [↓sx0, sx1, encs, tys, sxR, sevalprocAttr]
    refine RangeW.it Tok (fun _ => rfl) (fun hro => by first | rfl | exact (by rw [hro] at *; contradiction)) (hit) [(4, .box 0 0), (5, .box 1 0), (9, .box 2 0), (21, .clo 132 (stC a b i k))] (fun ys => [some ⟨113, [.sl true 1 (a.map eS), .sl true 1 (b.map eS)]⟩, some ⟨62, [.sl b3 1 (L.map eI)]⟩, some ⟨3, [(.v (.int .i64 (bdK a b L i k ys.length)))]⟩]) (fun ys => []) (fun _ => True) trivial (by simp only [sx2, encs, sxR, sevalprocAttr] <;> (try simp) <;> (try omega)) rfl rfl (by intro d hd; obtain ⟨p, -, rfl⟩ := List.mem_map.1 hd; rfl) ?_ (fun hJall => ?_)
    · rintro pre d hpre - ρ σ μ ho' hy hs
      obtain ⟨q, hq⟩ := hpre
      have hn : pre.length < (stN a b i k).length := by
        have := congrArg List.length hq
        simp at this; omega
      have hd : d = fY (stN a b i k)[pre.length] := by
        have : ((stN a b i k).map fY)[pre.length]? = some d := by rw [← hq]; simp
        simpa [List.getElem?_eq_getElem hn, eq_comm] using this
      subst hd
      obtain ⟨yd', ro, mks, fr, lp, sz⟩ := ho'
      have hsu := bdK_succ (L := L) hn
      have hpm := List.getElem_mem hn
      have hpb := stN_mem hpm
      have hal := hL _ hpm
      have hpt := hat _ hpm
      have hvl := hv _ (List.getElem_mem hal)
      have hlen : (pre ++ [fY (stN a b i k)[pre.length]]).length = pre.length + 1 := by simp
      rw [hlen, hsu]
      generalize (stN a b i k)[pre.length] = p at hpb hal hpt hvl ⊢
      obtain ⟨⟨p1, p2⟩, c⟩ := p
      simp only at hpb hal hpt hvl
      have hgd : L.getD (atN b.length p1 p2) 0 = L[atN b.length p1 p2] := by simp [List.getD_eq_getElem?_getD, hal]
      have hbd : bdS b.length L (bdK a b L i k pre.length) ((p1, p2), c) = min (bdK a b L i k pre.length) (L[atN b.length p1 p2] + c) := by rw [bdS, hgd]
      rw [hbd]
      have hfy : fY ((p1, p2), c) = [.agg [(.v (.int .i64 ((p1 : Int)))), (.v (.int .i64 ((p2 : Int))))], (.v (.int .i64 c))] := rfl
      rw [hfy]
      simp only [↓sx0, sx1, encs, tys, sxR, sevalprocAttr]
      intro fr'
      refine DrawW.plan Tok mixed (.q 0 <| .q 1 <| .q 2 <| .q 3 <| .q 4 <| .q 5 <| .q 6 <| .q 10 <| .e 7 [0, 1] <| .q 8 <| .q 9 <| .q 11 <| .q 12 <| .e 13 [] <| .done) (by kernel_rfl) (by kernel_rfl) ?_
      simp only [↓sx0, sx1, encs, tys, sxR, sevalprocAttr]
      repeat ((with_reducible refine Vc.go ?_ fun _ => ?_); (focus (first | omega | (simp only [InK]; omega) | (simp [InK]; done) | (simp [InK]; omega))); simp only [↓sx0, sx1, encs, tys, sxR, sevalprocAttr])
      refine CallI.fn (hpt) (by simp only [sx3, encs, sxR, sevalprocAttr] <;> (try simp) <;> (try rfl)) ?_
      simp only [↓sx0, sx1, encs, tys, sxR, sevalprocAttr]
      refine IxW.nat hal ?_
      simp only [↓sx0, sx1, encs, tys, sxR, sevalprocAttr]
      repeat ((with_reducible refine Vc.go ?_ fun _ => ?_); (focus (first | omega | (simp only [InK]; omega) | (simp [InK]; done) | (simp [InK]; omega))); simp only [↓sx0, sx1, encs, tys, sxR, sevalprocAttr])
      simp only [sx2, encs, sxR, sevalprocAttr] <;> (try simp) <;> (try omega)
    · rw [List.length_map, bdK_all]
      simp only [↓sx0, sx1, encs, tys, sxR, sevalprocAttr]
      exact EndW.fn (by simp only [sx4, encs, kpLL_map, sxR, sevalprocAttr] <;> (try simp) <;> (try omega)) (by simp only [sx4, encs, kpLL_map, sxR, sevalprocAttr] <;> (try simp) <;> (try omega))
  · have hK0 : bdK a b L i k 0 = 100 := by simp [bdK, mostB, hz]
    by_cases hi0 : i = 0
    · repeat ((with_reducible refine BrW.yes (by omega) ?_); simp only [↓sx0, sx1, encs, tys, sxR, sevalprocAttr])
      repeat ((with_reducible refine BrW.no (by omega) ?_); simp only [↓sx0, sx1, encs, tys, sxR, sevalprocAttr])
      have encs := And.intro encs hK0
      refine CallI.fn (hst) (by simp only [sx3, encs, sxR, sevalprocAttr] <;> (try simp) <;> (try rfl)) ?_
      simp only [↓sx0, sx1, encs, tys, sxR, sevalprocAttr]
      refine RangeW.it Tok (fun _ => rfl) (fun hro => by first | rfl | exact (by rw [hro] at *; contradiction)) (hit) [(4, .box 0 0), (5, .box 1 0), (9, .box 2 0), (21, .clo 132 (stC a b i k))] (fun ys => [some ⟨113, [.sl true 1 (a.map eS), .sl true 1 (b.map eS)]⟩, some ⟨62, [.sl b3 1 (L.map eI)]⟩, some ⟨3, [(.v (.int .i64 (bdK a b L i k ys.length)))]⟩]) (fun ys => []) (fun _ => True) trivial (by simp only [sx2, encs, sxR, sevalprocAttr] <;> (try simp) <;> (try omega)) rfl rfl (by intro d hd; obtain ⟨p, -, rfl⟩ := List.mem_map.1 hd; rfl) ?_ (fun hJall => ?_)
      · rintro pre d hpre - ρ σ μ ho' hy hs
        obtain ⟨q, hq⟩ := hpre
        have hn : pre.length < (stN a b i k).length := by
          have := congrArg List.length hq
          simp at this; omega
        have hd : d = fY (stN a b i k)[pre.length] := by
          have : ((stN a b i k).map fY)[pre.length]? = some d := by rw [← hq]; simp
          simpa [List.getElem?_eq_getElem hn, eq_comm] using this
        subst hd
        obtain ⟨yd', ro, mks, fr, lp, sz⟩ := ho'
        have hsu := bdK_succ (L := L) hn
        have hpm := List.getElem_mem hn
        have hpb := stN_mem hpm
        have hal := hL _ hpm
        have hpt := hat _ hpm
        have hvl := hv _ (List.getElem_mem hal)
        have hlen : (pre ++ [fY (stN a b i k)[pre.length]]).length = pre.length + 1 := by simp
        rw [hlen, hsu]
        generalize (stN a b i k)[pre.length] = p at hpb hal hpt hvl ⊢
        obtain ⟨⟨p1, p2⟩, c⟩ := p
        simp only at hpb hal hpt hvl
        have hgd : L.getD (atN b.length p1 p2) 0 = L[atN b.length p1 p2] := by simp [List.getD_eq_getElem?_getD, hal]
        have hbd : bdS b.length L (bdK a b L i k pre.length) ((p1, p2), c) = min (bdK a b L i k pre.length) (L[atN b.length p1 p2] + c) := by rw [bdS, hgd]
        rw [hbd]
        have hfy : fY ((p1, p2), c) = [.agg [(.v (.int .i64 ((p1 : Int)))), (.v (.int .i64 ((p2 : Int))))], (.v (.int .i64 c))] := rfl
        rw [hfy]
        simp only [↓sx0, sx1, encs, tys, sxR, sevalprocAttr]
        intro fr'
        refine DrawW.plan Tok mixed (.q 0 <| .q 1 <| .q 2 <| .q 3 <| .q 4 <| .q 5 <| .q 6 <| .q 10 <| .e 7 [0, 1] <| .q 8 <| .q 9 <| .q 11 <| .q 12 <| .e 13 [] <| .done) (by kernel_rfl) (by kernel_rfl) ?_
        simp only [↓sx0, sx1, encs, tys, sxR, sevalprocAttr]
        repeat ((with_reducible refine Vc.go ?_ fun _ => ?_); (focus (first | omega | (simp only [InK]; omega) | (simp [InK]; done) | (simp [InK]; omega))); simp only [↓sx0, sx1, encs, tys, sxR, sevalprocAttr])
        refine CallI.fn (hpt) (by simp only [sx3, encs, sxR, sevalprocAttr] <;> (try simp) <;> (try rfl)) ?_
        simp only [↓sx0, sx1, encs, tys, sxR, sevalprocAttr]
        refine IxW.nat hal ?_
        simp only [↓sx0, sx1, encs, tys, sxR, sevalprocAttr]
        repeat ((with_reducible refine Vc.go ?_ fun _ => ?_); (focus (first | omega | (simp only [InK]; omega) | (simp [InK]; done) | (simp [InK]; omega))); simp only [↓sx0, sx1, encs, tys, sxR, sevalprocAttr])
        simp only [sx2, encs, sxR, sevalprocAttr] <;> (try simp) <;> (try omega)
      · rw [List.length_map, bdK_all]
        simp only [↓sx0, sx1, encs, tys, sxR, sevalprocAttr]
        exact EndW.fn (by simp only [sx4, encs, kpLL_map, sxR, sevalprocAttr] <;> (try simp) <;> (try omega)) (by simp only [sx4, encs, kpLL_map, sxR, sevalprocAttr] <;> (try simp) <;> (try omega))
    · repeat ((with_reducible refine BrW.no (by omega) ?_); simp only [↓sx0, sx1, encs, tys, sxR, sevalprocAttr])
      have encs := And.intro encs hK0
      refine CallI.fn (hst) (by simp only [sx3, encs, sxR, sevalprocAttr] <;> (try simp) <;> (try rfl)) ?_
      simp only [↓sx0, sx1, encs, tys, sxR, sevalprocAttr]
      refine RangeW.it Tok (fun _ => rfl) (fun hro => by first | rfl | exact (by rw [hro] at *; contradiction)) (hit) [(4, .box 0 0), (5, .box 1 0), (9, .box 2 0), (21, .clo 132 (stC a b i k))] (fun ys => [some ⟨113, [.sl true 1 (a.map eS), .sl true 1 (b.map eS)]⟩, some ⟨62, [.sl b3 1 (L.map eI)]⟩, some ⟨3, [(.v (.int .i64 (bdK a b L i k ys.length)))]⟩]) (fun ys => []) (fun _ => True) trivial (by simp only [sx2, encs, sxR, sevalprocAttr] <;> (try simp) <;> (try omega)) rfl rfl (by intro d hd; obtain ⟨p, -, rfl⟩ := List.mem_map.1 hd; rfl) ?_ (fun hJall => ?_)
      · rintro pre d hpre - ρ σ μ ho' hy hs
        obtain ⟨q, hq⟩ := hpre
        have hn : pre.length < (stN a b i k).length := by
          have := congrArg List.length hq
          simp at this; omega
        have hd : d = fY (stN a b i k)[pre.length] := by
          have : ((stN a b i k).map fY)[pre.length]? = some d := by rw [← hq]; simp
          simpa [List.getElem?_eq_getElem hn, eq_comm] using this
        subst hd
        obtain ⟨yd', ro, mks, fr, lp, sz⟩ := ho'
        have hsu := bdK_succ (L := L) hn
        have hpm := List.getElem_mem hn
        have hpb := stN_mem hpm
        have hal := hL _ hpm
        have hpt := hat _ hpm
        have hvl := hv _ (List.getElem_mem hal)
        have hlen : (pre ++ [fY (stN a b i k)[pre.length]]).length = pre.length + 1 := by simp
        rw [hlen, hsu]
        generalize (stN a b i k)[pre.length] = p at hpb hal hpt hvl ⊢
        obtain ⟨⟨p1, p2⟩, c⟩ := p
        simp only at hpb hal hpt hvl
        have hgd : L.getD (atN b.length p1 p2) 0 = L[atN b.length p1 p2] := by simp [List.getD_eq_getElem?_getD, hal]
        have hbd : bdS b.length L (bdK a b L i k pre.length) ((p1, p2), c) = min (bdK a b L i k pre.length) (L[atN b.length p1 p2] + c) := by rw [bdS, hgd]
        rw [hbd]
        have hfy : fY ((p1, p2), c) = [.agg [(.v (.int .i64 ((p1 : Int)))), (.v (.int .i64 ((p2 : Int))))], (.v (.int .i64 c))] := rfl
        rw [hfy]
        simp only [↓sx0, sx1, encs, tys, sxR, sevalprocAttr]
        intro fr'
        refine DrawW.plan Tok mixed (.q 0 <| .q 1 <| .q 2 <| .q 3 <| .q 4 <| .q 5 <| .q 6 <| .q 10 <| .e 7 [0, 1] <| .q 8 <| .q 9 <| .q 11 <| .q 12 <| .e 13 [] <| .done) (by kernel_rfl) (by kernel_rfl) ?_
        simp only [↓sx0, sx1, encs, tys, sxR, sevalprocAttr]
        repeat ((with_reducible refine Vc.go ?_ fun _ => ?_); (focus (first | omega | (simp only [InK]; omega) | (simp [InK]; done) | (simp [InK]; omega))); simp only [↓sx0, sx1, encs, tys, sxR, sevalprocAttr])
        refine CallI.fn (hpt) (by simp only [sx3, encs, sxR, sevalprocAttr] <;> (try simp) <;> (try rfl)) ?_
        simp only [↓sx0, sx1, encs, tys, sxR, sevalprocAttr]
        refine IxW.nat hal ?_
        simp only [↓sx0, sx1, encs, tys, sxR, sevalprocAttr]
        repeat ((with_reducible refine Vc.go ?_ fun _ => ?_); (focus (first | omega | (simp only [InK]; omega) | (simp [InK]; done) | (simp [InK]; omega))); simp only [↓sx0, sx1, encs, tys, sxR, sevalprocAttr])
        simp only [sx2, encs, sxR, sevalprocAttr] <;> (try simp) <;> (try omega)
      · rw [List.length_map, bdK_all]
        simp only [↓sx0, sx1, encs, tys, sxR, sevalprocAttr]
        exact EndW.fn (by simp only [sx4, encs, kpLL_map, sxR, sevalprocAttr] <;> (try simp) <;> (try omega)) (by simp only [sx4, encs, kpLL_map, sxR, sevalprocAttr] <;> (try simp) <;> (try omega))
end Go.Proofs.Ytenohgpackcjbaa
