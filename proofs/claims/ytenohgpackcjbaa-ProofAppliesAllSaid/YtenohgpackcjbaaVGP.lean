/-
 Chapter 8, walks: the reference's way to apply a mark.
-/
import Derived.Test.YtenohgpackcjbaaVGN
import Derived.Test.YtenohgpackcjbaaVW56
import Derived.Test.YtenohgpackcjbaaVGQ
namespace Go.Proofs.Ytenohgpackcjbaa
open Go Go.Vx
set_option linter.unusedSimpArgs false
set_option linter.unusedVariables false
set_option maxRecDepth 20000
theorem part_wd {p : Pt} (h : partErr p = 0) : ∀ s ∈ p.words, s.size ≤ 1000000000 := by
 intro s hs
 unfold partErr at h
 by_cases h1 : 1 ≤ p.kind ∧ p.kind ≤ 3
 ·rw [if_pos h1] at h
  by_cases h2 : p.words.length = 0
  ·rw [if_pos h2] at h; simp at h
  ·rw [if_neg h2] at h
   by_cases h3 : 100 < p.words.length
   ·rw [if_pos h3] at h; simp at h
   ·rw [if_neg h3] at h
    by_cases h4 : p.words.any badW = true ∨ isMk (p.words.headD hash) = true
    ·rw [if_pos h4] at h; simp at h
    ·have hb : ¬ p.words.any badW = true := fun h => h4 (.inl h)
     have hw : isWd s = true := by
      cases hw : isWd s with
      | true => rfl
      | false => exact absurd (List.any_eq_true.2 ⟨s, hs, by rw [badW, hw]; rfl⟩) hb
     exact wd_sz hw
 ·rw [if_neg h1] at h; simp at h
theorem parts_wd {l : List Pt} (h : (partsErr l).2 = 0) : ∀ p ∈ l, ∀ s ∈ p.words, s.size ≤ 1000000000 := by
 unfold partsErr at h
 split at h
 ·simp at h
 ·exact fun p hp => part_wd (partsE_ok l 0 h p hp)
def WOk (p : Pt) : Prop := p.words.length ≤ 1000000 ∧ ∀ s ∈ p.words, s.size ≤ 1000000000
theorem out_ok {l hs : List Pt} {i j : Nat} (hl : ∀ p ∈ l, WOk p) (hh : ∀ p ∈ hs, WOk p) : ∀ p ∈ l.take i ++ hs ++ l.drop j, WOk p := by
 intro p hp
 rcases List.mem_append.1 hp with hp | hp
 ·rcases List.mem_append.1 hp with hp | hp
  ·exact hl p (List.mem_of_mem_take hp)
  ·exact hh p hp
 ·exact hl p (List.mem_of_mem_drop hp)
theorem WOk_take {p : Pt} {k : Nat} {κ : Int} (h : WOk p) : WOk ⟨κ, p.words.take k⟩ := ⟨by simp only [List.length_take]; have := h.1; omega, fun s hs => h.2 s (List.mem_of_mem_take hs)⟩
theorem WOk_drop {p : Pt} {k : Nat} {κ : Int} (h : WOk p) : WOk ⟨κ, p.words.drop k⟩ := ⟨by simp only [List.length_drop]; have := h.1; omega, fun s hs => h.2 s (List.mem_of_mem_drop hs)⟩
theorem set_mid {l : List Pt} {i : Nat} (h : i < l.length) (x : Pt) : l.set i x = l.take i ++ [x] ++ l.drop (i + 1) := by
 rw [List.set_eq_take_append_cons_drop, if_pos h]; simp
theorem swap_mid {w : List ByteArray} {k : Nat} (h : k + 1 < w.length) : (w.set k (w.getD (k + 1) em)).set (k + 1) (w.getD k em) = w.take k ++ [w[k + 1], w[k]] ++ w.drop (k + 2) := by
 obtain ⟨A, u, v, B, rfl, rfl⟩ := split2 h
 simp
set_option maxHeartbeats 8000000 in
theorem appliedTurnR_s (b b2 : Bool) (l : List Pt) (m : Mk) (i k : Nat) (hm : m.mark = 7) (hp : m.part = i) (hw : m.word = k) (hk0 : k = 0) (h0 : (partsErr l).2 = 0) :
  Ctr Try.prog 22 [.sl b 2 (l.map (eP b2)), mV m] (fun rr => rr = ⟨.tup [.sl true 2 ((apV l m).1.map (eP true)), (.v (.int .i64 ((apV l m).2)))], []⟩) := by
 obtain ⟨hl, hws⟩ := parts_ok h0
 have hwd := parts_wd h0
 have hWl : ∀ p ∈ l, WOk p := fun p hp => ⟨by have := hws p hp; omega, hwd p hp⟩
 have encs := And.intro encs (show ∀ p, eSL p = [.sl p.1 1 (p.2.map eS)] from fun _ => rfl)
 refine Ctr.of (rs := [.tmp 4, .tmp 5]) Tok true Try.func22 rfl rfl rfl rfl (by simp [ofDL]) (fun w0 kp => ?_)
 simp only [↓sx0, sxE, encs, sevalprocAttr]
 rw [hm, hp, hw]
 refine BrW.dec (fun hlt => ?_) (fun hlt => ?_)
 ·simp only [↓sx0, sxE, encs, sevalprocAttr]
  have hv : apV l m = ([], 6) := by
   rw [apV, hp, Int.toNat_natCast, List.getElem?_eq_none (by omega)]
  refine EndW.fn ?_ ?_ <;> simp only [sx4, encs, kpLL_map, sxR, sevalprocAttr] <;> (try simp [hv]) <;> (try omega)
 ·simp only [↓sx0, sxE, encs, sevalprocAttr]
  have hi : i < l.length := by omega
  have hwi := hws _ (List.getElem_mem hi)
  have hWi := hWl _ (List.getElem_mem hi)
  have hv0 := apV_at m hp hi
  refine IxW.nat hi ?_
  simp only [↓sx0, sxE, encs, sevalprocAttr]
  refine DrawW.plan Tok mixed (.q 0 <| .q 1 <| .q 2 <| .q 3 <| .q 4 <| .q 5 <| .q 6 <| .done) (by kernel_rfl) (by kernel_rfl) ?_
  simp only [↓sx0, sxE, encs, sevalprocAttr]
  repeat ((with_reducible refine Vc.go ?_ fun _ => ?_); (focus (first | omega | (simp only [InK]; omega) | (simp [InK]; done) | (simp [InK]; omega))); simp only [↓sx0, sxE, encs, sevalprocAttr])
  rw [if_neg (show ¬ _ by simp [hm, hw, hk0])] at hv0
  refine BrW.dec (fun h2 => ?_) (fun h2 => ?_)
  ·simp only [↓sx0, sxE, encs, sevalprocAttr]
   repeat ((with_reducible refine Vc.go ?_ fun _ => ?_); (focus (first | omega | (simp only [InK]; omega) | (simp [InK]; done) | (simp [InK]; omega))); simp only [↓sx0, sxE, encs, sevalprocAttr])
   rw [if_neg (show ¬ _ by simp [hm, h2]), show apL l m i m.word.toNat l[i] = l.take i ++ [⟨m.kind, l[i].words⟩] ++ l.drop (i + 1) by rw [← set_mid hi]; simp [apL, hm]] at hv0
   have hg := glue_s true [(b2, l[i].words)] (by simp) (by simp [cat]; omega)
   rw [show cat [(b2, l[i].words)] = l[i].words by simp [cat]] at hg
   refine DrawW.plan Tok mixed (.q 0 <| .q 1 <| .q 2 <| .q 3 <| .e 4 [1] <| .z 5 <| .e 5 [1] <| .q 6 <| .e 7 [] <| .q 8 <| .done) (by kernel_rfl) (by kernel_rfl) ?_
   simp only [↓sx0, sxE, encs, sevalprocAttr]
   refine CallI.fn (hg) (by simp only [sx3, encs, sxR, sevalprocAttr] <;> (try simp) <;> (try rfl)) ?_
   simp only [↓sx0, sxE, encs, sevalprocAttr]
   repeat ((with_reducible refine Vc.go ?_ fun _ => ?_); (focus (first | omega | (simp only [InK]; omega) | (simp [InK]; done) | (simp [InK]; omega))); simp only [↓sx0, sxE, encs, sevalprocAttr])
   have hcp := copyOfP_s b b2 (l.take i) (by rw [List.length_take]; omega) (fun p hp => (hWl p (List.mem_of_mem_take hp)).1)
   have hcd := copyOf_s b b2 (l.drop (i + 1)) (by rw [List.length_drop]; omega) (fun p hp => (hWl p (List.mem_of_mem_drop hp)).1)
   have hcR := checkPartsR_s false true (l.take i ++ [⟨m.kind, l[i].words⟩] ++ l.drop (i + 1)) (by simp only [List.length_append, List.length_take, List.length_drop, List.length_cons, List.length_nil]; omega) (out_ok hWl (by simpa [WOk] using hWi))
   rw [List.map_take] at hcp
   rw [List.map_drop] at hcd
   simp only [List.map_append, List.map_cons, List.map_nil, encs] at hcR
   refine CallI.ctr (hcp) (by simp only [sx3, encs, sxR, sevalprocAttr] <;> (try simp) <;> (try rfl)) ?_
   rintro _ rfl
   simp only [↓sx0, sxE, encs, sevalprocAttr]
   repeat ((with_reducible refine Vc.go ?_ fun _ => ?_); (focus (first | omega | (simp only [InK]; omega) | (simp [InK]; done) | (simp [InK]; omega))); simp only [↓sx0, sxE, encs, sevalprocAttr])
   refine CallI.fn (hcd) (by simp only [sx3, encs, sxR, sevalprocAttr] <;> (try simp) <;> (try rfl)) ?_
   simp only [↓sx0, sxE, encs, sevalprocAttr]
   repeat ((with_reducible refine Vc.go ?_ fun _ => ?_); (focus (first | omega | (simp only [InK]; omega) | (simp [InK]; done) | (simp [InK]; omega))); simp only [↓sx0, sxE, encs, sevalprocAttr])
   refine CallI.fn (hcR) (by simp only [sx3, encs, sxR, sevalprocAttr] <;> (try simp) <;> (try rfl)) ?_
   simp only [↓sx0, sxE, encs, sevalprocAttr]
   have hkp := kpP (l.take i)
   have hkq := kpP (l.drop (i + 1))
   refine BrW.dec (fun h3 => ?_) (fun h3 => ?_)
   ·simp only [↓sx0, sxE, encs, sevalprocAttr]
    have hv : apV l m = ([], (partsErr (l.take i ++ [⟨m.kind, l[i].words⟩] ++ l.drop (i + 1))).2) := by rw [hv0, chk, if_neg (by simpa using h3)]
    refine EndW.fn ?_ ?_ <;> simp only [sx4, encs, kpLL_map, sxR, sevalprocAttr] <;> (try simp [hv]) <;> (try omega)
   ·simp only [↓sx0, sxE, encs, sevalprocAttr]
    have hv : apV l m = (l.take i ++ [⟨m.kind, l[i].words⟩] ++ l.drop (i + 1), 0) := by rw [hv0, chk, if_pos (by simpa using h3)]
    refine EndW.fn ?_ ?_ <;> simp only [sx4, encs, kpLL_map, sxR, sevalprocAttr] <;> (try simp [hv, encs, hkp, hkq]) <;> (try omega)
  ·simp only [↓sx0, sxE, encs, sevalprocAttr]
   have hv : apV l m = ([], 13) := by
    rw [hv0, if_pos (.inr (.inr ⟨hm, h2⟩))]
   refine EndW.fn ?_ ?_ <;> simp only [sx4, encs, kpLL_map, sxR, sevalprocAttr] <;> (try simp [hv]) <;> (try omega)
set_option maxHeartbeats 8000000 in
theorem appliedOutR_s (b b2 : Bool) (l : List Pt) (m : Mk) (i k : Nat) (hm : m.mark = 1) (hp : m.part = i) (hw : m.word = k) (h0 : (partsErr l).2 = 0) :
  Ctr Try.prog 22 [.sl b 2 (l.map (eP b2)), mV m] (fun rr => rr = ⟨.tup [.sl true 2 ((apV l m).1.map (eP true)), (.v (.int .i64 ((apV l m).2)))], []⟩) := by
 obtain ⟨hl, hws⟩ := parts_ok h0
 have hwd := parts_wd h0
 have hWl : ∀ p ∈ l, WOk p := fun p hp => ⟨by have := hws p hp; omega, hwd p hp⟩
 have encs := And.intro encs (show ∀ p, eSL p = [.sl p.1 1 (p.2.map eS)] from fun _ => rfl)
 refine Ctr.of (rs := [.tmp 4, .tmp 5]) Tok true Try.func22 rfl rfl rfl rfl (by simp [ofDL]) (fun w0 kp => ?_)
 simp only [↓sx0, sxE, encs, sevalprocAttr]
 rw [hm, hp, hw]
 refine BrW.dec (fun hlt => ?_) (fun hlt => ?_)
 ·simp only [↓sx0, sxE, encs, sevalprocAttr]
  have hv : apV l m = ([], 6) := by
   rw [apV, hp, Int.toNat_natCast, List.getElem?_eq_none (by omega)]
  refine EndW.fn ?_ ?_ <;> simp only [sx4, encs, kpLL_map, sxR, sevalprocAttr] <;> (try simp [hv]) <;> (try omega)
 ·simp only [↓sx0, sxE, encs, sevalprocAttr]
  have hi : i < l.length := by omega
  have hwi := hws _ (List.getElem_mem hi)
  have hWi := hWl _ (List.getElem_mem hi)
  have hv0 := apV_at m hp hi
  refine IxW.nat hi ?_
  simp only [↓sx0, sxE, encs, sevalprocAttr]
  refine DrawW.plan Tok mixed (.q 0 <| .q 1 <| .q 2 <| .q 3 <| .q 4 <| .q 5 <| .q 6 <| .done) (by kernel_rfl) (by kernel_rfl) ?_
  simp only [↓sx0, sxE, encs, sevalprocAttr]
  repeat ((with_reducible refine Vc.go ?_ fun _ => ?_); (focus (first | omega | (simp only [InK]; omega) | (simp [InK]; done) | (simp [InK]; omega))); simp only [↓sx0, sxE, encs, sevalprocAttr])
  refine BrW.dec (fun ht => ?_) (fun ht => ?_)
  ·simp only [↓sx0, sxE, encs, sevalprocAttr]
   repeat ((with_reducible refine Vc.go ?_ fun _ => ?_); (focus (first | omega | (simp only [InK]; omega) | (simp [InK]; done) | (simp [InK]; omega))); simp only [↓sx0, sxE, encs, sevalprocAttr])
   rw [if_neg (show ¬ _ by simp [hm, hw]; omega)] at hv0
   have hkn : k < l[i].words.length := by omega
   refine DrawW.plan Tok mixed (.q 0 <| .q 1 <| .q 2 <| .q 3 <| .q 4 <| .q 5 <| .q 6 <| .q 7 <| .q 8 <| .done) (by kernel_rfl) (by kernel_rfl) ?_
   simp only [↓sx0, sxE, encs, sevalprocAttr]
   refine IxW.nat hkn ?_
   simp only [↓sx0, sxE, encs, sevalprocAttr]
   refine BrW.dec (fun h2 => ?_) (fun h2 => ?_)
   ·simp only [↓sx0, sxE, encs, sevalprocAttr]
    repeat ((with_reducible refine Vc.go ?_ fun _ => ?_); (focus (first | omega | (simp only [InK]; omega) | (simp [InK]; done) | (simp [InK]; omega))); simp only [↓sx0, sxE, encs, sevalprocAttr])
    rw [if_neg (show ¬ _ by simp [hm, hw, hkn, h2]), show apL l m i m.word.toNat l[i] = l.take i ++ [⟨l[i].kind, l[i].words.take k ++ l[i].words.drop (k + 1)⟩] ++ l.drop (i + 1) by rw [← set_mid hi]; simp [apL, hm, hw]] at hv0
    have hg := glue_s true [(b2, l[i].words.take k), (b2, l[i].words.drop (k + 1))] (by simp) (by simp [cat]; omega)
    rw [show cat [(b2, l[i].words.take k), (b2, l[i].words.drop (k + 1))] = l[i].words.take k ++ l[i].words.drop (k + 1) by simp [cat]] at hg
    refine DrawW.plan Tok mixed (.q 0 <| .q 1 <| .q 2 <| .q 3 <| .q 4 <| .q 5 <| .q 6 <| .q 7 <| .q 8 <| .q 9 <| .q 10 <| .e 11 [1] <| .z 12 <| .e 12 [1] <| .q 13 <| .e 14 [] <| .q 15 <| .done) (by kernel_rfl) (by kernel_rfl) ?_
    simp only [↓sx0, sxE, encs, sevalprocAttr]
    repeat ((with_reducible refine Vc.go ?_ fun _ => ?_); (focus (first | omega | (simp only [InK]; omega) | (simp [InK]; done) | (simp [InK]; omega))); simp only [↓sx0, sxE, encs, sevalprocAttr])
    refine CallI.fn (hg) (by simp only [sx3, encs, sxR, sevalprocAttr] <;> (try simp) <;> (try rfl)) ?_
    simp only [↓sx0, sxE, encs, sevalprocAttr]
    repeat ((with_reducible refine Vc.go ?_ fun _ => ?_); (focus (first | omega | (simp only [InK]; omega) | (simp [InK]; done) | (simp [InK]; omega))); simp only [↓sx0, sxE, encs, sevalprocAttr])
    have hcp := copyOfP_s b b2 (l.take i) (by rw [List.length_take]; omega) (fun p hp => (hWl p (List.mem_of_mem_take hp)).1)
    have hcd := copyOf_s b b2 (l.drop (i + 1)) (by rw [List.length_drop]; omega) (fun p hp => (hWl p (List.mem_of_mem_drop hp)).1)
    have hcR := checkPartsR_s false true (l.take i ++ [⟨l[i].kind, l[i].words.take k ++ l[i].words.drop (k + 1)⟩] ++ l.drop (i + 1)) (by simp only [List.length_append, List.length_take, List.length_drop, List.length_cons, List.length_nil]; omega) (out_ok hWl (by intro p hp; rw [List.mem_singleton] at hp; subst hp; exact ⟨by simp only [List.length_append, List.length_take, List.length_drop]; omega, fun s hs => (List.mem_append.1 hs).elim (fun h => hWi.2 s (List.mem_of_mem_take h)) (fun h => hWi.2 s (List.mem_of_mem_drop h))⟩))
    rw [List.map_take] at hcp
    rw [List.map_drop] at hcd
    simp only [List.map_append, List.map_cons, List.map_nil, encs] at hcR
    refine CallI.ctr (hcp) (by simp only [sx3, encs, sxR, sevalprocAttr] <;> (try simp) <;> (try rfl)) ?_
    rintro _ rfl
    simp only [↓sx0, sxE, encs, sevalprocAttr]
    repeat ((with_reducible refine Vc.go ?_ fun _ => ?_); (focus (first | omega | (simp only [InK]; omega) | (simp [InK]; done) | (simp [InK]; omega))); simp only [↓sx0, sxE, encs, sevalprocAttr])
    refine CallI.fn (hcd) (by simp only [sx3, encs, sxR, sevalprocAttr] <;> (try simp) <;> (try rfl)) ?_
    simp only [↓sx0, sxE, encs, sevalprocAttr]
    repeat ((with_reducible refine Vc.go ?_ fun _ => ?_); (focus (first | omega | (simp only [InK]; omega) | (simp [InK]; done) | (simp [InK]; omega))); simp only [↓sx0, sxE, encs, sevalprocAttr])
    refine CallI.fn (hcR) (by simp only [sx3, encs, sxR, sevalprocAttr] <;> (try simp) <;> (try rfl)) ?_
    simp only [↓sx0, sxE, encs, sevalprocAttr]
    have hkp := kpP (l.take i)
    have hkq := kpP (l.drop (i + 1))
    refine BrW.dec (fun h3 => ?_) (fun h3 => ?_)
    ·simp only [↓sx0, sxE, encs, sevalprocAttr]
     have hv : apV l m = ([], (partsErr (l.take i ++ [⟨l[i].kind, l[i].words.take k ++ l[i].words.drop (k + 1)⟩] ++ l.drop (i + 1))).2) := by rw [hv0, chk, if_neg (by simpa using h3)]
     refine EndW.fn ?_ ?_ <;> simp only [sx4, encs, kpLL_map, sxR, sevalprocAttr] <;> (try simp [hv]) <;> (try omega)
    ·simp only [↓sx0, sxE, encs, sevalprocAttr]
     have hv : apV l m = (l.take i ++ [⟨l[i].kind, l[i].words.take k ++ l[i].words.drop (k + 1)⟩] ++ l.drop (i + 1), 0) := by rw [hv0, chk, if_pos (by simpa using h3)]
     refine EndW.fn ?_ ?_ <;> simp only [sx4, encs, kpLL_map, sxR, sevalprocAttr] <;> (try simp [hv, encs, hkp, hkq]) <;> (try omega)
   ·simp only [↓sx0, sxE, encs, sevalprocAttr]
    have hv : apV l m = ([], 13) := by rw [hv0, if_pos (by simp [hm, hw, hkn]; exact fun h => h2 h)]
    refine EndW.fn ?_ ?_ <;> simp only [sx4, encs, kpLL_map, sxR, sevalprocAttr] <;> (try simp [hv]) <;> (try omega)
  ·simp only [↓sx0, sxE, encs, sevalprocAttr]
   have hv : apV l m = ([], 6) := by rw [hv0, if_pos (by simp [hm, hw]; omega)]
   refine EndW.fn ?_ ?_ <;> simp only [sx4, encs, kpLL_map, sxR, sevalprocAttr] <;> (try simp [hv]) <;> (try omega)
set_option maxHeartbeats 8000000 in
theorem appliedInR_s (b b2 : Bool) (l : List Pt) (m : Mk) (i k : Nat) (hm : m.mark = 2) (hp : m.part = i) (hw : m.word = k) (hnew : m.new.size ≤ 1000000000) (h0 : (partsErr l).2 = 0) :
  Ctr Try.prog 22 [.sl b 2 (l.map (eP b2)), mV m] (fun rr => rr = ⟨.tup [.sl true 2 ((apV l m).1.map (eP true)), (.v (.int .i64 ((apV l m).2)))], []⟩) := by
 obtain ⟨hl, hws⟩ := parts_ok h0
 have hwd := parts_wd h0
 have hWl : ∀ p ∈ l, WOk p := fun p hp => ⟨by have := hws p hp; omega, hwd p hp⟩
 have encs := And.intro encs (show ∀ p, eSL p = [.sl p.1 1 (p.2.map eS)] from fun _ => rfl)
 refine Ctr.of (rs := [.tmp 4, .tmp 5]) Tok true Try.func22 rfl rfl rfl rfl (by simp [ofDL]) (fun w0 kp => ?_)
 simp only [↓sx0, sxE, encs, sevalprocAttr]
 rw [hm, hp, hw]
 refine BrW.dec (fun hlt => ?_) (fun hlt => ?_)
 ·simp only [↓sx0, sxE, encs, sevalprocAttr]
  have hv : apV l m = ([], 6) := by
   rw [apV, hp, Int.toNat_natCast, List.getElem?_eq_none (by omega)]
  refine EndW.fn ?_ ?_ <;> simp only [sx4, encs, kpLL_map, sxR, sevalprocAttr] <;> (try simp [hv]) <;> (try omega)
 ·simp only [↓sx0, sxE, encs, sevalprocAttr]
  have hi : i < l.length := by omega
  have hwi := hws _ (List.getElem_mem hi)
  have hWi := hWl _ (List.getElem_mem hi)
  have hv0 := apV_at m hp hi
  refine IxW.nat hi ?_
  simp only [↓sx0, sxE, encs, sevalprocAttr]
  refine DrawW.plan Tok mixed (.q 0 <| .q 1 <| .q 2 <| .q 3 <| .q 4 <| .q 5 <| .q 6 <| .done) (by kernel_rfl) (by kernel_rfl) ?_
  simp only [↓sx0, sxE, encs, sevalprocAttr]
  repeat ((with_reducible refine Vc.go ?_ fun _ => ?_); (focus (first | omega | (simp only [InK]; omega) | (simp [InK]; done) | (simp [InK]; omega))); simp only [↓sx0, sxE, encs, sevalprocAttr])
  refine BrW.dec (fun ht => ?_) (fun ht => ?_)
  ·simp only [↓sx0, sxE, encs, sevalprocAttr]
   repeat ((with_reducible refine Vc.go ?_ fun _ => ?_); (focus (first | omega | (simp only [InK]; omega) | (simp [InK]; done) | (simp [InK]; omega))); simp only [↓sx0, sxE, encs, sevalprocAttr])
   rw [if_neg (show ¬ _ by simp [hm, hw]; omega)] at hv0
   repeat ((with_reducible refine Vc.go ?_ fun _ => ?_); (focus (first | omega | (simp only [InK]; omega) | (simp [InK]; done) | (simp [InK]; omega))); simp only [↓sx0, sxE, encs, sevalprocAttr])
   rw [if_neg (show ¬ _ by simp [hm]), show apL l m i m.word.toNat l[i] = l.take i ++ [⟨l[i].kind, l[i].words.take k ++ [m.new] ++ l[i].words.drop k⟩] ++ l.drop (i + 1) by rw [← set_mid hi]; simp [apL, hm, hw, insP]] at hv0
   have hg := glue_s true [(b2, l[i].words.take k), (true, [m.new]), (b2, l[i].words.drop k)] (by simp) (by simp [cat]; omega)
   rw [show cat [(b2, l[i].words.take k), (true, [m.new]), (b2, l[i].words.drop k)] = l[i].words.take k ++ [m.new] ++ l[i].words.drop k by simp [cat]] at hg
   refine DrawW.plan Tok mixed (.q 0 <| .q 1 <| .q 2 <| .q 3 <| .q 4 <| .q 5 <| .q 6 <| .q 7 <| .q 9 <| .q 10 <| .q 11 <| .q 12 <| .e 8 [1, 3, 10] <| .e 13 [1] <| .z 14 <| .e 14 [1] <| .q 15 <| .e 16 [] <| .q 17 <| .done) (by kernel_rfl) (by kernel_rfl) ?_
   simp only [↓sx0, sxE, encs, sevalprocAttr]
   repeat ((with_reducible refine Vc.go ?_ fun _ => ?_); (focus (first | omega | (simp only [InK]; omega) | (simp [InK]; done) | (simp [InK]; omega))); simp only [↓sx0, sxE, encs, sevalprocAttr])
   refine CallI.fn (hg) (by simp only [sx3, encs, sxR, sevalprocAttr] <;> (try simp) <;> (try rfl)) ?_
   simp only [↓sx0, sxE, encs, sevalprocAttr]
   repeat ((with_reducible refine Vc.go ?_ fun _ => ?_); (focus (first | omega | (simp only [InK]; omega) | (simp [InK]; done) | (simp [InK]; omega))); simp only [↓sx0, sxE, encs, sevalprocAttr])
   have hcp := copyOfP_s b b2 (l.take i) (by rw [List.length_take]; omega) (fun p hp => (hWl p (List.mem_of_mem_take hp)).1)
   have hcd := copyOf_s b b2 (l.drop (i + 1)) (by rw [List.length_drop]; omega) (fun p hp => (hWl p (List.mem_of_mem_drop hp)).1)
   have hcR := checkPartsR_s false true (l.take i ++ [⟨l[i].kind, l[i].words.take k ++ [m.new] ++ l[i].words.drop k⟩] ++ l.drop (i + 1)) (by simp only [List.length_append, List.length_take, List.length_drop, List.length_cons, List.length_nil]; omega) (out_ok hWl (by intro p hp; rw [List.mem_singleton] at hp; subst hp; exact ⟨by simp only [List.length_append, List.length_take, List.length_drop, List.length_cons, List.length_nil]; omega, fun s hs => by rcases List.mem_append.1 hs with hs | hs; rcases List.mem_append.1 hs with hs | hs; exact hWi.2 s (List.mem_of_mem_take hs); rw [List.mem_singleton] at hs; rw [hs]; exact hnew; exact hWi.2 s (List.mem_of_mem_drop hs)⟩))
   rw [List.map_take] at hcp
   rw [List.map_drop] at hcd
   simp only [List.map_append, List.map_cons, List.map_nil, encs] at hcR
   refine CallI.ctr (hcp) (by simp only [sx3, encs, sxR, sevalprocAttr] <;> (try simp) <;> (try rfl)) ?_
   rintro _ rfl
   simp only [↓sx0, sxE, encs, sevalprocAttr]
   repeat ((with_reducible refine Vc.go ?_ fun _ => ?_); (focus (first | omega | (simp only [InK]; omega) | (simp [InK]; done) | (simp [InK]; omega))); simp only [↓sx0, sxE, encs, sevalprocAttr])
   refine CallI.fn (hcd) (by simp only [sx3, encs, sxR, sevalprocAttr] <;> (try simp) <;> (try rfl)) ?_
   simp only [↓sx0, sxE, encs, sevalprocAttr]
   repeat ((with_reducible refine Vc.go ?_ fun _ => ?_); (focus (first | omega | (simp only [InK]; omega) | (simp [InK]; done) | (simp [InK]; omega))); simp only [↓sx0, sxE, encs, sevalprocAttr])
   refine CallI.fn (hcR) (by simp only [sx3, encs, sxR, sevalprocAttr] <;> (try simp) <;> (try rfl)) ?_
   simp only [↓sx0, sxE, encs, sevalprocAttr]
   have hkp := kpP (l.take i)
   have hkq := kpP (l.drop (i + 1))
   refine BrW.dec (fun h3 => ?_) (fun h3 => ?_)
   ·simp only [↓sx0, sxE, encs, sevalprocAttr]
    have hv : apV l m = ([], (partsErr (l.take i ++ [⟨l[i].kind, l[i].words.take k ++ [m.new] ++ l[i].words.drop k⟩] ++ l.drop (i + 1))).2) := by rw [hv0, chk, if_neg (by simpa using h3)]
    refine EndW.fn ?_ ?_ <;> simp only [sx4, encs, kpLL_map, sxR, sevalprocAttr] <;> (try simp [hv]) <;> (try omega)
   ·simp only [↓sx0, sxE, encs, sevalprocAttr]
    have hv : apV l m = (l.take i ++ [⟨l[i].kind, l[i].words.take k ++ [m.new] ++ l[i].words.drop k⟩] ++ l.drop (i + 1), 0) := by rw [hv0, chk, if_pos (by simpa using h3)]
    refine EndW.fn ?_ ?_ <;> simp only [sx4, encs, kpLL_map, sxR, sevalprocAttr] <;> (try simp [hv, encs, hkp, hkq]) <;> (try omega)
  ·simp only [↓sx0, sxE, encs, sevalprocAttr]
   have hv : apV l m = ([], 6) := by rw [hv0, if_pos (by simp [hm, hw]; omega)]
   refine EndW.fn ?_ ?_ <;> simp only [sx4, encs, kpLL_map, sxR, sevalprocAttr] <;> (try simp [hv]) <;> (try omega)
set_option maxHeartbeats 8000000 in
theorem appliedChangeR_s (b b2 : Bool) (l : List Pt) (m : Mk) (i k : Nat) (hm : m.mark = 3) (hp : m.part = i) (hw : m.word = k) (hnew : m.new.size ≤ 1000000000) (h0 : (partsErr l).2 = 0) :
  Ctr Try.prog 22 [.sl b 2 (l.map (eP b2)), mV m] (fun rr => rr = ⟨.tup [.sl true 2 ((apV l m).1.map (eP true)), (.v (.int .i64 ((apV l m).2)))], []⟩) := by
 obtain ⟨hl, hws⟩ := parts_ok h0
 have hwd := parts_wd h0
 have hWl : ∀ p ∈ l, WOk p := fun p hp => ⟨by have := hws p hp; omega, hwd p hp⟩
 have encs := And.intro encs (show ∀ p, eSL p = [.sl p.1 1 (p.2.map eS)] from fun _ => rfl)
 refine Ctr.of (rs := [.tmp 4, .tmp 5]) Tok true Try.func22 rfl rfl rfl rfl (by simp [ofDL]) (fun w0 kp => ?_)
 simp only [↓sx0, sxE, encs, sevalprocAttr]
 rw [hm, hp, hw]
 refine BrW.dec (fun hlt => ?_) (fun hlt => ?_)
 ·simp only [↓sx0, sxE, encs, sevalprocAttr]
  have hv : apV l m = ([], 6) := by
   rw [apV, hp, Int.toNat_natCast, List.getElem?_eq_none (by omega)]
  refine EndW.fn ?_ ?_ <;> simp only [sx4, encs, kpLL_map, sxR, sevalprocAttr] <;> (try simp [hv]) <;> (try omega)
 ·simp only [↓sx0, sxE, encs, sevalprocAttr]
  have hi : i < l.length := by omega
  have hwi := hws _ (List.getElem_mem hi)
  have hWi := hWl _ (List.getElem_mem hi)
  have hv0 := apV_at m hp hi
  refine IxW.nat hi ?_
  simp only [↓sx0, sxE, encs, sevalprocAttr]
  refine DrawW.plan Tok mixed (.q 0 <| .q 1 <| .q 2 <| .q 3 <| .q 4 <| .q 5 <| .q 6 <| .done) (by kernel_rfl) (by kernel_rfl) ?_
  simp only [↓sx0, sxE, encs, sevalprocAttr]
  repeat ((with_reducible refine Vc.go ?_ fun _ => ?_); (focus (first | omega | (simp only [InK]; omega) | (simp [InK]; done) | (simp [InK]; omega))); simp only [↓sx0, sxE, encs, sevalprocAttr])
  refine BrW.dec (fun ht => ?_) (fun ht => ?_)
  ·simp only [↓sx0, sxE, encs, sevalprocAttr]
   repeat ((with_reducible refine Vc.go ?_ fun _ => ?_); (focus (first | omega | (simp only [InK]; omega) | (simp [InK]; done) | (simp [InK]; omega))); simp only [↓sx0, sxE, encs, sevalprocAttr])
   rw [if_neg (show ¬ _ by simp [hm, hw]; omega)] at hv0
   have hkn : k < l[i].words.length := by omega
   refine DrawW.plan Tok mixed (.q 0 <| .q 1 <| .q 2 <| .q 3 <| .q 4 <| .q 5 <| .q 6 <| .q 7 <| .q 8 <| .done) (by kernel_rfl) (by kernel_rfl) ?_
   simp only [↓sx0, sxE, encs, sevalprocAttr]
   refine IxW.nat hkn ?_
   simp only [↓sx0, sxE, encs, sevalprocAttr]
   refine BrW.dec (fun h2 => ?_) (fun h2 => ?_)
   ·simp only [↓sx0, sxE, encs, sevalprocAttr]
    repeat ((with_reducible refine Vc.go ?_ fun _ => ?_); (focus (first | omega | (simp only [InK]; omega) | (simp [InK]; done) | (simp [InK]; omega))); simp only [↓sx0, sxE, encs, sevalprocAttr])
    rw [if_neg (show ¬ _ by simp [hm, hw, hkn, h2]), show apL l m i m.word.toNat l[i] = l.take i ++ [⟨l[i].kind, l[i].words.take k ++ [m.new] ++ l[i].words.drop (k + 1)⟩] ++ l.drop (i + 1) by rw [← set_mid hi]; simp [apL, hm, hw, List.set_eq_take_append_cons_drop, hkn]] at hv0
    have hg := glue_s true [(b2, l[i].words.take k), (true, [m.new]), (b2, l[i].words.drop (k + 1))] (by simp) (by simp [cat]; omega)
    rw [show cat [(b2, l[i].words.take k), (true, [m.new]), (b2, l[i].words.drop (k + 1))] = l[i].words.take k ++ [m.new] ++ l[i].words.drop (k + 1) by simp [cat]] at hg
    refine DrawW.plan Tok mixed (.q 0 <| .q 1 <| .q 2 <| .q 3 <| .q 4 <| .q 5 <| .q 6 <| .q 7 <| .q 9 <| .q 10 <| .q 11 <| .q 12 <| .q 13 <| .e 8 [1, 3, 10] <| .e 14 [1] <| .z 15 <| .e 15 [1] <| .q 16 <| .e 17 [] <| .q 18 <| .done) (by kernel_rfl) (by kernel_rfl) ?_
    simp only [↓sx0, sxE, encs, sevalprocAttr]
    repeat ((with_reducible refine Vc.go ?_ fun _ => ?_); (focus (first | omega | (simp only [InK]; omega) | (simp [InK]; done) | (simp [InK]; omega))); simp only [↓sx0, sxE, encs, sevalprocAttr])
    refine CallI.fn (hg) (by simp only [sx3, encs, sxR, sevalprocAttr] <;> (try simp) <;> (try rfl)) ?_
    simp only [↓sx0, sxE, encs, sevalprocAttr]
    repeat ((with_reducible refine Vc.go ?_ fun _ => ?_); (focus (first | omega | (simp only [InK]; omega) | (simp [InK]; done) | (simp [InK]; omega))); simp only [↓sx0, sxE, encs, sevalprocAttr])
    have hcp := copyOfP_s b b2 (l.take i) (by rw [List.length_take]; omega) (fun p hp => (hWl p (List.mem_of_mem_take hp)).1)
    have hcd := copyOf_s b b2 (l.drop (i + 1)) (by rw [List.length_drop]; omega) (fun p hp => (hWl p (List.mem_of_mem_drop hp)).1)
    have hcR := checkPartsR_s false true (l.take i ++ [⟨l[i].kind, l[i].words.take k ++ [m.new] ++ l[i].words.drop (k + 1)⟩] ++ l.drop (i + 1)) (by simp only [List.length_append, List.length_take, List.length_drop, List.length_cons, List.length_nil]; omega) (out_ok hWl (by intro p hp; rw [List.mem_singleton] at hp; subst hp; exact ⟨by simp only [List.length_append, List.length_take, List.length_drop, List.length_cons, List.length_nil]; omega, fun s hs => by rcases List.mem_append.1 hs with hs | hs; rcases List.mem_append.1 hs with hs | hs; exact hWi.2 s (List.mem_of_mem_take hs); rw [List.mem_singleton] at hs; rw [hs]; exact hnew; exact hWi.2 s (List.mem_of_mem_drop hs)⟩))
    rw [List.map_take] at hcp
    rw [List.map_drop] at hcd
    simp only [List.map_append, List.map_cons, List.map_nil, encs] at hcR
    refine CallI.ctr (hcp) (by simp only [sx3, encs, sxR, sevalprocAttr] <;> (try simp) <;> (try rfl)) ?_
    rintro _ rfl
    simp only [↓sx0, sxE, encs, sevalprocAttr]
    repeat ((with_reducible refine Vc.go ?_ fun _ => ?_); (focus (first | omega | (simp only [InK]; omega) | (simp [InK]; done) | (simp [InK]; omega))); simp only [↓sx0, sxE, encs, sevalprocAttr])
    refine CallI.fn (hcd) (by simp only [sx3, encs, sxR, sevalprocAttr] <;> (try simp) <;> (try rfl)) ?_
    simp only [↓sx0, sxE, encs, sevalprocAttr]
    repeat ((with_reducible refine Vc.go ?_ fun _ => ?_); (focus (first | omega | (simp only [InK]; omega) | (simp [InK]; done) | (simp [InK]; omega))); simp only [↓sx0, sxE, encs, sevalprocAttr])
    refine CallI.fn (hcR) (by simp only [sx3, encs, sxR, sevalprocAttr] <;> (try simp) <;> (try rfl)) ?_
    simp only [↓sx0, sxE, encs, sevalprocAttr]
    have hkp := kpP (l.take i)
    have hkq := kpP (l.drop (i + 1))
    refine BrW.dec (fun h3 => ?_) (fun h3 => ?_)
    ·simp only [↓sx0, sxE, encs, sevalprocAttr]
     have hv : apV l m = ([], (partsErr (l.take i ++ [⟨l[i].kind, l[i].words.take k ++ [m.new] ++ l[i].words.drop (k + 1)⟩] ++ l.drop (i + 1))).2) := by rw [hv0, chk, if_neg (by simpa using h3)]
     refine EndW.fn ?_ ?_ <;> simp only [sx4, encs, kpLL_map, sxR, sevalprocAttr] <;> (try simp [hv]) <;> (try omega)
    ·simp only [↓sx0, sxE, encs, sevalprocAttr]
     have hv : apV l m = (l.take i ++ [⟨l[i].kind, l[i].words.take k ++ [m.new] ++ l[i].words.drop (k + 1)⟩] ++ l.drop (i + 1), 0) := by rw [hv0, chk, if_pos (by simpa using h3)]
     refine EndW.fn ?_ ?_ <;> simp only [sx4, encs, kpLL_map, sxR, sevalprocAttr] <;> (try simp [hv, encs, hkp, hkq]) <;> (try omega)
   ·simp only [↓sx0, sxE, encs, sevalprocAttr]
    have hv : apV l m = ([], 13) := by rw [hv0, if_pos (by simp [hm, hw, hkn]; exact fun h => h2 h)]
    refine EndW.fn ?_ ?_ <;> simp only [sx4, encs, kpLL_map, sxR, sevalprocAttr] <;> (try simp [hv]) <;> (try omega)
  ·simp only [↓sx0, sxE, encs, sevalprocAttr]
   have hv : apV l m = ([], 6) := by rw [hv0, if_pos (by simp [hm, hw]; omega)]
   refine EndW.fn ?_ ?_ <;> simp only [sx4, encs, kpLL_map, sxR, sevalprocAttr] <;> (try simp [hv]) <;> (try omega)
end Go.Proofs.Ytenohgpackcjbaa
/-
 Chapter 8, walks: the reference's way to apply a mark, swaps, breaks and joins.
-/
namespace Go.Proofs.Ytenohgpackcjbaa
open Go Go.Vx
set_option linter.unusedSimpArgs false
set_option linter.unusedVariables false
set_option maxRecDepth 20000
set_option maxHeartbeats 8000000 in
theorem appliedSwapR_s (b b2 : Bool) (l : List Pt) (m : Mk) (i k : Nat) (hm : m.mark = 4) (hp : m.part = i) (hw : m.word = k) (hk : k ≤ 100) (h0 : (partsErr l).2 = 0) :
  Ctr Try.prog 22 [.sl b 2 (l.map (eP b2)), mV m] (fun rr => rr = ⟨.tup [.sl true 2 ((apV l m).1.map (eP true)), (.v (.int .i64 ((apV l m).2)))], []⟩) := by
 obtain ⟨hl, hws⟩ := parts_ok h0
 have hwd := parts_wd h0
 have hWl : ∀ p ∈ l, WOk p := fun p hp => ⟨by have := hws p hp; omega, hwd p hp⟩
 have encs := And.intro encs (show ∀ p, eSL p = [.sl p.1 1 (p.2.map eS)] from fun _ => rfl)
 refine Ctr.of (rs := [.tmp 4, .tmp 5]) Tok true Try.func22 rfl rfl rfl rfl (by simp [ofDL]) (fun w0 kp => ?_)
 simp only [↓sx0, sxE, encs, sevalprocAttr]
 rw [hm, hp, hw]
 refine BrW.dec (fun hlt => ?_) (fun hlt => ?_)
 ·simp only [↓sx0, sxE, encs, sevalprocAttr]
  have hv : apV l m = ([], 6) := by
   rw [apV, hp, Int.toNat_natCast, List.getElem?_eq_none (by omega)]
  refine EndW.fn ?_ ?_ <;> simp only [sx4, encs, kpLL_map, sxR, sevalprocAttr] <;> (try simp [hv]) <;> (try omega)
 ·simp only [↓sx0, sxE, encs, sevalprocAttr]
  have hi : i < l.length := by omega
  have hwi := hws _ (List.getElem_mem hi)
  have hWi := hWl _ (List.getElem_mem hi)
  have hv0 := apV_at m hp hi
  refine IxW.nat hi ?_
  simp only [↓sx0, sxE, encs, sevalprocAttr]
  refine DrawW.plan Tok mixed (.q 0 <| .q 1 <| .q 2 <| .q 3 <| .q 4 <| .q 5 <| .q 6 <| .done) (by kernel_rfl) (by kernel_rfl) ?_
  simp only [↓sx0, sxE, encs, sevalprocAttr]
  repeat ((with_reducible refine Vc.go ?_ fun _ => ?_); (focus (first | omega | (simp only [InK]; omega) | (simp [InK]; done) | (simp [InK]; omega))); simp only [↓sx0, sxE, encs, sevalprocAttr])
  repeat ((with_reducible refine Vc.go ?_ fun _ => ?_); (focus (first | omega | (simp only [InK]; omega) | (simp [InK]; done) | (simp [InK]; omega))); simp only [↓sx0, sxE, encs, sevalprocAttr])
  refine BrW.dec (fun ht => ?_) (fun ht => ?_)
  ·simp only [↓sx0, sxE, encs, sevalprocAttr]
   repeat ((with_reducible refine Vc.go ?_ fun _ => ?_); (focus (first | omega | (simp only [InK]; omega) | (simp [InK]; done) | (simp [InK]; omega))); simp only [↓sx0, sxE, encs, sevalprocAttr])
   rw [if_neg (show ¬ _ by simp [hm, hw]; omega)] at hv0
   repeat ((with_reducible refine Vc.go ?_ fun _ => ?_); (focus (first | omega | (simp only [InK]; omega) | (simp [InK]; done) | (simp [InK]; omega))); simp only [↓sx0, sxE, encs, sevalprocAttr])
   rw [if_neg (show ¬ _ by simp [hm]), show apL l m i m.word.toNat l[i] = l.take i ++ [⟨l[i].kind, l[i].words.take k ++ [l[i].words[k + 1]'(by omega), l[i].words[k]'(by omega)] ++ l[i].words.drop (k + 2)⟩] ++ l.drop (i + 1) by rw [← set_mid hi]; rw [← swap_mid (by omega)]; simp [apL, hm, hw]] at hv0
   have hg := glue_s true [(b2, l[i].words.take k), (true, [l[i].words[k + 1]'(by omega), l[i].words[k]'(by omega)]), (b2, l[i].words.drop (k + 2))] (by simp) (by simp [cat]; omega)
   rw [show cat [(b2, l[i].words.take k), (true, [l[i].words[k + 1]'(by omega), l[i].words[k]'(by omega)]), (b2, l[i].words.drop (k + 2))] = l[i].words.take k ++ [l[i].words[k + 1]'(by omega), l[i].words[k]'(by omega)] ++ l[i].words.drop (k + 2) by simp [cat]] at hg
   refine DrawW.plan Tok mixed (.q 0 <| .q 1 <| .q 2 <| .q 3 <| .q 4 <| .q 5 <| .q 6 <| .q 7 <| .q 8 <| .q 9 <| .q 10 <| .q 11 <| .q 12 <| .q 13 <| .q 14 <| .q 15 <| .q 16 <| .q 18 <| .q 19 <| .q 20 <| .q 21 <| .q 22 <| .e 17 [1, 3, 19] <| .e 23 [1] <| .z 24 <| .e 24 [1] <| .q 25 <| .e 26 [] <| .q 27 <| .done) (by kernel_rfl) (by kernel_rfl) ?_
   simp only [↓sx0, sxE, encs, sevalprocAttr]
   repeat ((with_reducible refine Vc.go ?_ fun _ => ?_); (focus (first | omega | (simp only [InK]; omega) | (simp [InK]; done) | (simp [InK]; omega))); simp only [↓sx0, sxE, encs, sevalprocAttr])
   refine ⟨by omega, _, (by rw [show ((k : Int) + 1).toNat = k + 1 by omega, List.getElem?_map, List.getElem?_eq_getElem (show k + 1 < l[i].words.length by omega)]; rfl), ?_⟩
   simp only [↓sx0, sxE, encs, sevalprocAttr]
   refine IxW.nat (show k < l[i].words.length by omega) ?_
   simp only [↓sx0, sxE, encs, sevalprocAttr]
   repeat ((with_reducible refine Vc.go ?_ fun _ => ?_); (focus (first | omega | (simp only [InK]; omega) | (simp [InK]; done) | (simp [InK]; omega))); simp only [↓sx0, sxE, encs, sevalprocAttr])
   refine CallI.fn (hg) (by simp only [sx3, encs, sxR, sevalprocAttr] <;> (try simp) <;> (first | rfl | exact ⟨rfl, rfl⟩)) ?_; simp only [↓sx0, sxE, encs, sevalprocAttr]
   repeat ((with_reducible refine Vc.go ?_ fun _ => ?_); (focus (first | omega | (simp only [InK]; omega) | (simp [InK]; done) | (simp [InK]; omega))); simp only [↓sx0, sxE, encs, sevalprocAttr])
   have hcp := copyOfP_s b b2 (l.take i) (by rw [List.length_take]; omega) (fun p hp => (hWl p (List.mem_of_mem_take hp)).1)
   have hcd := copyOf_s b b2 (l.drop (i + 1)) (by rw [List.length_drop]; omega) (fun p hp => (hWl p (List.mem_of_mem_drop hp)).1)
   have hcR := checkPartsR_s false true (l.take i ++ [⟨l[i].kind, l[i].words.take k ++ [l[i].words[k + 1]'(by omega), l[i].words[k]'(by omega)] ++ l[i].words.drop (k + 2)⟩] ++ l.drop (i + 1)) (by simp only [List.length_append, List.length_take, List.length_drop, List.length_cons, List.length_nil]; omega) (out_ok hWl (by intro p hp; rw [List.mem_singleton] at hp; subst hp; exact ⟨by simp only [List.length_append, List.length_take, List.length_drop, List.length_cons, List.length_nil]; omega, fun s hs => by rcases List.mem_append.1 hs with hs | hs; rcases List.mem_append.1 hs with hs | hs; exact hWi.2 s (List.mem_of_mem_take hs); (rcases List.mem_cons.1 hs with hs | hs; rw [hs]; exact hWi.2 _ (List.getElem_mem _); rw [List.mem_singleton] at hs; rw [hs]; exact hWi.2 _ (List.getElem_mem _)); exact hWi.2 s (List.mem_of_mem_drop hs)⟩))
   rw [List.map_take] at hcp
   rw [List.map_drop] at hcd
   simp only [List.map_append, List.map_cons, List.map_nil, encs] at hcR
   refine CallI.ctr (hcp) (by simp only [sx3, encs, sxR, sevalprocAttr] <;> (try simp) <;> (try rfl)) ?_
   rintro _ rfl
   simp only [↓sx0, sxE, encs, sevalprocAttr]
   repeat ((with_reducible refine Vc.go ?_ fun _ => ?_); (focus (first | omega | (simp only [InK]; omega) | (simp [InK]; done) | (simp [InK]; omega))); simp only [↓sx0, sxE, encs, sevalprocAttr])
   refine CallI.fn (hcd) (by simp only [sx3, encs, sxR, sevalprocAttr] <;> (try simp) <;> (try rfl)) ?_
   simp only [↓sx0, sxE, encs, sevalprocAttr]
   repeat ((with_reducible refine Vc.go ?_ fun _ => ?_); (focus (first | omega | (simp only [InK]; omega) | (simp [InK]; done) | (simp [InK]; omega))); simp only [↓sx0, sxE, encs, sevalprocAttr])
   refine CallI.fn (hcR) (by simp only [sx3, encs, sxR, sevalprocAttr] <;> (try simp) <;> (first | rfl | exact ⟨rfl, rfl⟩)) ?_; simp only [↓sx0, sxE, encs, sevalprocAttr]
   have hkp := kpP (l.take i)
   have hkq := kpP (l.drop (i + 1))
   refine BrW.dec (fun h3 => ?_) (fun h3 => ?_)
   ·simp only [↓sx0, sxE, encs, sevalprocAttr]
    have hv : apV l m = ([], (partsErr (l.take i ++ [⟨l[i].kind, l[i].words.take k ++ [l[i].words[k + 1]'(by omega), l[i].words[k]'(by omega)] ++ l[i].words.drop (k + 2)⟩] ++ l.drop (i + 1))).2) := by rw [hv0, chk, if_neg (by simpa using h3)]
    refine EndW.fn ?_ ?_ <;> simp only [sx4, encs, kpLL_map, sxR, sevalprocAttr] <;> (try simp [hv]) <;> (try omega)
   ·simp only [↓sx0, sxE, encs, sevalprocAttr]
    have hv : apV l m = (l.take i ++ [⟨l[i].kind, l[i].words.take k ++ [l[i].words[k + 1]'(by omega), l[i].words[k]'(by omega)] ++ l[i].words.drop (k + 2)⟩] ++ l.drop (i + 1), 0) := by rw [hv0, chk, if_pos (by simpa using h3)]
    refine EndW.fn ?_ ?_ <;> simp only [sx4, encs, kpLL_map, sxR, sevalprocAttr] <;> (try simp [hv, encs, hkp, hkq]) <;> (try omega)
  ·simp only [↓sx0, sxE, encs, sevalprocAttr]
   have hv : apV l m = ([], 6) := by rw [hv0, if_pos (by simp [hm, hw]; omega)]
   refine EndW.fn ?_ ?_ <;> simp only [sx4, encs, kpLL_map, sxR, sevalprocAttr] <;> (try simp [hv]) <;> (try omega)
set_option maxHeartbeats 8000000 in
theorem appliedBreakR_s (b b2 : Bool) (l : List Pt) (m : Mk) (i k : Nat) (hm : m.mark = 5) (hp : m.part = i) (hw : m.word = k) (h0 : (partsErr l).2 = 0) :
  Ctr Try.prog 22 [.sl b 2 (l.map (eP b2)), mV m] (fun rr => rr = ⟨.tup [.sl true 2 ((apV l m).1.map (eP true)), (.v (.int .i64 ((apV l m).2)))], []⟩) := by
 obtain ⟨hl, hws⟩ := parts_ok h0
 have hwd := parts_wd h0
 have hWl : ∀ p ∈ l, WOk p := fun p hp => ⟨by have := hws p hp; omega, hwd p hp⟩
 have encs := And.intro encs (show ∀ p, eSL p = [.sl p.1 1 (p.2.map eS)] from fun _ => rfl)
 refine Ctr.of (rs := [.tmp 4, .tmp 5]) Tok true Try.func22 rfl rfl rfl rfl (by simp [ofDL]) (fun w0 kp => ?_)
 simp only [↓sx0, sxE, encs, sevalprocAttr]
 rw [hm, hp, hw]
 refine BrW.dec (fun hlt => ?_) (fun hlt => ?_)
 ·simp only [↓sx0, sxE, encs, sevalprocAttr]
  have hv : apV l m = ([], 6) := by
   rw [apV, hp, Int.toNat_natCast, List.getElem?_eq_none (by omega)]
  refine EndW.fn ?_ ?_ <;> simp only [sx4, encs, kpLL_map, sxR, sevalprocAttr] <;> (try simp [hv]) <;> (try omega)
 ·simp only [↓sx0, sxE, encs, sevalprocAttr]
  have hi : i < l.length := by omega
  have hwi := hws _ (List.getElem_mem hi)
  have hWi := hWl _ (List.getElem_mem hi)
  have hv0 := apV_at m hp hi
  refine IxW.nat hi ?_
  simp only [↓sx0, sxE, encs, sevalprocAttr]
  refine DrawW.plan Tok mixed (.q 0 <| .q 1 <| .q 2 <| .q 3 <| .q 4 <| .q 5 <| .q 6 <| .done) (by kernel_rfl) (by kernel_rfl) ?_
  simp only [↓sx0, sxE, encs, sevalprocAttr]
  repeat ((with_reducible refine Vc.go ?_ fun _ => ?_); (focus (first | omega | (simp only [InK]; omega) | (simp [InK]; done) | (simp [InK]; omega))); simp only [↓sx0, sxE, encs, sevalprocAttr])
  refine BrW.dec (fun ht => ?_) (fun ht => ?_)
  ·simp only [↓sx0, sxE, encs, sevalprocAttr]
   repeat ((with_reducible refine Vc.go ?_ fun _ => ?_); (focus (first | omega | (simp only [InK]; omega) | (simp [InK]; done) | (simp [InK]; omega))); simp only [↓sx0, sxE, encs, sevalprocAttr])
   rw [if_neg (show ¬ _ by simp [hm, hw]; omega)] at hv0
   repeat ((with_reducible refine Vc.go ?_ fun _ => ?_); (focus (first | omega | (simp only [InK]; omega) | (simp [InK]; done) | (simp [InK]; omega))); simp only [↓sx0, sxE, encs, sevalprocAttr])
   rw [if_neg (show ¬ _ by simp [hm]), show apL l m i m.word.toNat l[i] = l.take i ++ [⟨l[i].kind, l[i].words.take k⟩, ⟨m.kind, l[i].words.drop k⟩] ++ l.drop (i + 1) by simp [apL, hm, hw]] at hv0
   have hg := glue_s true [(b2, l[i].words.take k)] (by simp) (by simp [cat]; omega)
   rw [show cat [(b2, l[i].words.take k)] = l[i].words.take k by simp [cat]] at hg
   have hg2 := glue_s true [(b2, l[i].words.drop k)] (by simp) (by simp [cat]; omega)
   rw [show cat [(b2, l[i].words.drop k)] = l[i].words.drop k by simp [cat]] at hg2
   refine DrawW.plan Tok mixed (.q 0 <| .q 1 <| .q 2 <| .q 3 <| .q 4 <| .q 5 <| .q 9 <| .q 10 <| .q 11 <| .q 12 <| .q 13 <| .q 14 <| .e2 6 [1, 10, 12] (.z 7 <| .e2 7 [1, 10, 12] (.q 8 <| .e 15 [1, 3, 10] <| .z 16 <| .e 16 [1, 10] <| .q 17 <| .e 18 [] <| .q 19 <| .done) 15 [1, 3, 10] (.z 7 <| .e 7 [1, 10, 12] <| .q 8 <| .z 16 <| .e 16 [1, 10] <| .q 17 <| .e 18 [] <| .q 19 <| .done)) 15 [1, 3, 10] (.e 6 [1, 10, 12] <| .z 7 <| .e 7 [1, 10, 12] <| .q 8 <| .z 16 <| .e 16 [1, 10] <| .q 17 <| .e 18 [] <| .q 19 <| .done)) (by kernel_rfl) (by kernel_rfl) ?_
   simp only [↓sx0, sxE, encs, sevalprocAttr]
   repeat ((with_reducible refine Vc.go ?_ fun _ => ?_); (focus (first | omega | (simp only [InK]; omega) | (simp [InK]; done) | (simp [InK]; omega))); simp only [↓sx0, sxE, encs, sevalprocAttr])
   repeat' (first | (with_reducible refine And.intro ?_ ?_) | ((with_reducible refine Vc.go ?_ fun _ => ?_); (focus (first | trivial | omega | (simp only [InK]; omega) | (simp [InK]; done) | (simp [InK]; omega))); (try simp only [↓sx0, sxE, encs, sevalprocAttr])) | (refine CallI.fn (hg) ?_ ?_; (focus ((simp only [sx3, encs, sxR, sevalprocAttr] <;> (try simp) <;> (try rfl)); done)); (try simp only [↓sx0, sxE, encs, sevalprocAttr])) | (refine CallI.fn (hg2) ?_ ?_; (focus ((simp only [sx3, encs, sxR, sevalprocAttr] <;> (try simp) <;> (try rfl)); done)); (try simp only [↓sx0, sxE, encs, sevalprocAttr])))
   all_goals (
    skip
    repeat ((with_reducible refine Vc.go ?_ fun _ => ?_); (focus (first | omega | (simp only [InK]; omega) | (simp [InK]; done) | (simp [InK]; omega))); simp only [↓sx0, sxE, encs, sevalprocAttr])
    have hcp := copyOfP_s b b2 (l.take i) (by rw [List.length_take]; omega) (fun p hp => (hWl p (List.mem_of_mem_take hp)).1)
    have hcd := copyOf_s b b2 (l.drop (i + 1)) (by rw [List.length_drop]; omega) (fun p hp => (hWl p (List.mem_of_mem_drop hp)).1)
    have hcR := checkPartsR_s false true (l.take i ++ [⟨l[i].kind, l[i].words.take k⟩, ⟨m.kind, l[i].words.drop k⟩] ++ l.drop (i + 1)) (by simp only [List.length_append, List.length_take, List.length_drop, List.length_cons, List.length_nil]; omega) (out_ok hWl (by intro p hp; rcases List.mem_cons.1 hp with hp | hp; rw [hp]; exact WOk_take hWi; rw [List.mem_singleton] at hp; rw [hp]; exact WOk_drop hWi))
    rw [List.map_take] at hcp
    rw [List.map_drop] at hcd
    simp only [List.map_append, List.map_cons, List.map_nil, encs] at hcR
    refine CallI.ctr (hcp) (by simp only [sx3, encs, sxR, sevalprocAttr] <;> (try simp) <;> (try rfl)) ?_
    rintro _ rfl
    simp only [↓sx0, sxE, encs, sevalprocAttr]
    repeat ((with_reducible refine Vc.go ?_ fun _ => ?_); (focus (first | omega | (simp only [InK]; omega) | (simp [InK]; done) | (simp [InK]; omega))); simp only [↓sx0, sxE, encs, sevalprocAttr])
    refine CallI.fn (hcd) (by simp only [sx3, encs, sxR, sevalprocAttr] <;> (try simp) <;> (try rfl)) ?_
    simp only [↓sx0, sxE, encs, sevalprocAttr]
    repeat ((with_reducible refine Vc.go ?_ fun _ => ?_); (focus (first | omega | (simp only [InK]; omega) | (simp [InK]; done) | (simp [InK]; omega))); simp only [↓sx0, sxE, encs, sevalprocAttr])
    refine CallI.fn (hcR) (by simp only [sx3, encs, sxR, sevalprocAttr] <;> (try simp) <;> (try rfl)) ?_
    simp only [↓sx0, sxE, encs, sevalprocAttr]
    have hkp := kpP (l.take i)
    have hkq := kpP (l.drop (i + 1))
    refine BrW.dec (fun h3 => ?_) (fun h3 => ?_)
    ·simp only [↓sx0, sxE, encs, sevalprocAttr]
     have hv : apV l m = ([], (partsErr (l.take i ++ [⟨l[i].kind, l[i].words.take k⟩, ⟨m.kind, l[i].words.drop k⟩] ++ l.drop (i + 1))).2) := by rw [hv0, chk, if_neg (by simpa using h3)]
     refine EndW.fn ?_ ?_ <;> simp only [sx4, encs, kpLL_map, sxR, sevalprocAttr] <;> (try simp [hv]) <;> (try omega)
    ·simp only [↓sx0, sxE, encs, sevalprocAttr]
     have hv : apV l m = (l.take i ++ [⟨l[i].kind, l[i].words.take k⟩, ⟨m.kind, l[i].words.drop k⟩] ++ l.drop (i + 1), 0) := by rw [hv0, chk, if_pos (by simpa using h3)]
     refine EndW.fn ?_ ?_ <;> simp only [sx4, encs, kpLL_map, sxR, sevalprocAttr] <;> (try simp [hv, encs, hkp, hkq]) <;> (try omega)
   )
  ·simp only [↓sx0, sxE, encs, sevalprocAttr]
   have hv : apV l m = ([], 6) := by rw [hv0, if_pos (by simp [hm, hw]; omega)]
   refine EndW.fn ?_ ?_ <;> simp only [sx4, encs, kpLL_map, sxR, sevalprocAttr] <;> (try simp [hv]) <;> (try omega)
set_option maxHeartbeats 8000000 in
theorem appliedJoinR_s (b b2 : Bool) (l : List Pt) (m : Mk) (i k : Nat) (hm : m.mark = 6) (hp : m.part = i) (hw : m.word = k) (hk : k ≤ 100) (h0 : (partsErr l).2 = 0) :
  Ctr Try.prog 22 [.sl b 2 (l.map (eP b2)), mV m] (fun rr => rr = ⟨.tup [.sl true 2 ((apV l m).1.map (eP true)), (.v (.int .i64 ((apV l m).2)))], []⟩) := by
 obtain ⟨hl, hws⟩ := parts_ok h0
 have hwd := parts_wd h0
 have hWl : ∀ p ∈ l, WOk p := fun p hp => ⟨by have := hws p hp; omega, hwd p hp⟩
 have encs := And.intro encs (show ∀ p, eSL p = [.sl p.1 1 (p.2.map eS)] from fun _ => rfl)
 refine Ctr.of (rs := [.tmp 4, .tmp 5]) Tok true Try.func22 rfl rfl rfl rfl (by simp [ofDL]) (fun w0 kp => ?_)
 simp only [↓sx0, sxE, encs, sevalprocAttr]
 rw [hm, hp, hw]
 refine BrW.dec (fun hlt => ?_) (fun hlt => ?_)
 ·simp only [↓sx0, sxE, encs, sevalprocAttr]
  have hv : apV l m = ([], 6) := by
   rw [apV, hp, Int.toNat_natCast, List.getElem?_eq_none (by omega)]
  refine EndW.fn ?_ ?_ <;> simp only [sx4, encs, kpLL_map, sxR, sevalprocAttr] <;> (try simp [hv]) <;> (try omega)
 ·simp only [↓sx0, sxE, encs, sevalprocAttr]
  have hi : i < l.length := by omega
  have hwi := hws _ (List.getElem_mem hi)
  have hWi := hWl _ (List.getElem_mem hi)
  have hv0 := apV_at m hp hi
  refine IxW.nat hi ?_
  simp only [↓sx0, sxE, encs, sevalprocAttr]
  refine DrawW.plan Tok mixed (.q 0 <| .q 1 <| .q 2 <| .q 3 <| .q 4 <| .q 5 <| .q 6 <| .done) (by kernel_rfl) (by kernel_rfl) ?_
  simp only [↓sx0, sxE, encs, sevalprocAttr]
  repeat ((with_reducible refine Vc.go ?_ fun _ => ?_); (focus (first | omega | (simp only [InK]; omega) | (simp [InK]; done) | (simp [InK]; omega))); simp only [↓sx0, sxE, encs, sevalprocAttr])
  repeat ((with_reducible refine Vc.go ?_ fun _ => ?_); (focus (first | omega | (simp only [InK]; omega) | (simp [InK]; done) | (simp [InK]; omega))); simp only [↓sx0, sxE, encs, sevalprocAttr])
  refine BrW.dec (fun ht => ?_) (fun ht => ?_)
  ·simp only [↓sx0, sxE, encs, sevalprocAttr]
   repeat ((with_reducible refine Vc.go ?_ fun _ => ?_); (focus (first | omega | (simp only [InK]; omega) | (simp [InK]; done) | (simp [InK]; omega))); simp only [↓sx0, sxE, encs, sevalprocAttr])
   have hj : i + 1 < l.length := by omega
   have hWj := hWl _ (List.getElem_mem hj)
   have hwj := hws _ (List.getElem_mem hj)
   have hgd : l.getD (i + 1) ⟨0, []⟩ = l[i + 1] := by simp [List.getD_eq_getElem?_getD, hj]
   rw [if_neg (show ¬ _ by simp [hm, hw, hp]; omega), hgd] at hv0
   refine DrawW.plan Tok mixed (.q 0 <| .q 1 <| .q 2 <| .q 3 <| .q 4 <| .q 5 <| .q 6 <| .q 7 <| .q 8 <| .q 9 <| .q 10 <| .q 11 <| .q 12 <| .q 13 <| .q 14 <| .q 15 <| .done) (by kernel_rfl) (by kernel_rfl) ?_
   simp only [↓sx0, sxE, encs, sevalprocAttr]
   refine BrW.dec (fun q1 => ?_) (fun q1 => ?_)
   ·simp only [↓sx0, sxE, encs, sevalprocAttr]
    repeat ((with_reducible refine Vc.go ?_ fun _ => ?_); (focus (first | omega | (simp only [InK]; omega) | (simp [InK]; done) | (simp [InK]; omega))); simp only [↓sx0, sxE, encs, sevalprocAttr])
    refine ⟨by omega, _, (by rw [show ((i : Int) + 1).toNat = i + 1 by omega, List.getElem?_map, List.getElem?_eq_getElem hj]; rfl), ?_⟩
    simp only [↓sx0, sxE, encs, sevalprocAttr]
    refine BrW.dec (fun q2 => ?_) (fun q2 => ?_)
    ·simp only [↓sx0, sxE, encs, sevalprocAttr]
     repeat ((with_reducible refine Vc.go ?_ fun _ => ?_); (focus (first | omega | (simp only [InK]; omega) | (simp [InK]; done) | (simp [InK]; omega))); simp only [↓sx0, sxE, encs, sevalprocAttr])
     rw [if_neg (show ¬ _ by simp [hm, hw, q2]; omega), show apL l m i m.word.toNat l[i] = l.take i ++ [⟨l[i].kind, l[i].words ++ l[i + 1].words⟩] ++ l.drop (i + 2) by simp [apL, hm, hw, hj]] at hv0
     have hg := glue_s true [(b2, l[i].words), (b2, l[i + 1].words)] (by simp) (by simp [cat]; omega)
     rw [show cat [(b2, l[i].words), (b2, l[i + 1].words)] = l[i].words ++ l[i + 1].words by simp [cat]] at hg
     refine DrawW.plan Tok mixed (.q 0 <| .q 1 <| .q 2 <| .q 3 <| .q 4 <| .q 5 <| .q 6 <| .q 7 <| .q 8 <| .q 9 <| .q 10 <| .e 11 [1] <| .z 12 <| .e 12 [1] <| .q 13 <| .e 14 [] <| .q 15 <| .done) (by kernel_rfl) (by kernel_rfl) ?_
     simp only [↓sx0, sxE, encs, sevalprocAttr]
     repeat ((with_reducible refine Vc.go ?_ fun _ => ?_); (focus (first | omega | (simp only [InK]; omega) | (simp [InK]; done) | (simp [InK]; omega))); simp only [↓sx0, sxE, encs, sevalprocAttr])
     refine ⟨by omega, _, (by rw [show ((i : Int) + 1).toNat = i + 1 by omega, List.getElem?_map, List.getElem?_eq_getElem hj]; rfl), ?_⟩
     simp only [↓sx0, sxE, encs, sevalprocAttr]
     refine CallI.fn (hg) (by simp only [sx3, encs, sxR, sevalprocAttr] <;> (try simp) <;> (try rfl)) ?_
     simp only [↓sx0, sxE, encs, sevalprocAttr]
     repeat ((with_reducible refine Vc.go ?_ fun _ => ?_); (focus (first | omega | (simp only [InK]; omega) | (simp [InK]; done) | (simp [InK]; omega))); simp only [↓sx0, sxE, encs, sevalprocAttr])
     have hcp := copyOfP_s b b2 (l.take i) (by rw [List.length_take]; omega) (fun p hp => (hWl p (List.mem_of_mem_take hp)).1)
     have hcd := copyOf_s b b2 (l.drop (i + 2)) (by rw [List.length_drop]; omega) (fun p hp => (hWl p (List.mem_of_mem_drop hp)).1)
     have hcR := checkPartsR_s false true (l.take i ++ [⟨l[i].kind, l[i].words ++ l[i + 1].words⟩] ++ l.drop (i + 2)) (by simp only [List.length_append, List.length_take, List.length_drop, List.length_cons, List.length_nil]; omega) (out_ok hWl (by intro p hp; rw [List.mem_singleton] at hp; rw [hp]; exact ⟨by simp only [List.length_append]; omega, fun s hs => (List.mem_append.1 hs).elim (hWi.2 s) (hWj.2 s)⟩))
     rw [List.map_take] at hcp
     rw [List.map_drop] at hcd
     simp only [List.map_append, List.map_cons, List.map_nil, encs] at hcR
     refine CallI.ctr (hcp) (by simp only [sx3, encs, sxR, sevalprocAttr] <;> (try simp) <;> (try rfl)) ?_
     rintro _ rfl
     simp only [↓sx0, sxE, encs, sevalprocAttr]
     repeat ((with_reducible refine Vc.go ?_ fun _ => ?_); (focus (first | omega | (simp only [InK]; omega) | (simp [InK]; done) | (simp [InK]; omega))); simp only [↓sx0, sxE, encs, sevalprocAttr])
     refine CallI.fn (hcd) (by simp only [sx3, encs, sxR, sevalprocAttr] <;> (try simp) <;> (try rfl)) ?_
     simp only [↓sx0, sxE, encs, sevalprocAttr]
     repeat ((with_reducible refine Vc.go ?_ fun _ => ?_); (focus (first | omega | (simp only [InK]; omega) | (simp [InK]; done) | (simp [InK]; omega))); simp only [↓sx0, sxE, encs, sevalprocAttr])
     refine CallI.fn (hcR) (by simp only [sx3, encs, sxR, sevalprocAttr] <;> (try simp) <;> (try rfl)) ?_
     simp only [↓sx0, sxE, encs, sevalprocAttr]
     have hkp := kpP (l.take i)
     have hkq := kpP (l.drop (i + 2))
     refine BrW.dec (fun h3 => ?_) (fun h3 => ?_)
     ·simp only [↓sx0, sxE, encs, sevalprocAttr]
      have hv : apV l m = ([], (partsErr (l.take i ++ [⟨l[i].kind, l[i].words ++ l[i + 1].words⟩] ++ l.drop (i + 2))).2) := by rw [hv0, chk, if_neg (by simpa using h3)]
      refine EndW.fn ?_ ?_ <;> simp only [sx4, encs, kpLL_map, sxR, sevalprocAttr] <;> (try simp [hv]) <;> (try omega)
     ·simp only [↓sx0, sxE, encs, sevalprocAttr]
      have hv : apV l m = (l.take i ++ [⟨l[i].kind, l[i].words ++ l[i + 1].words⟩] ++ l.drop (i + 2), 0) := by rw [hv0, chk, if_pos (by simpa using h3)]
      refine EndW.fn ?_ ?_ <;> simp only [sx4, encs, kpLL_map, sxR, sevalprocAttr] <;> (try simp [hv, encs, hkp, hkq]) <;> (try omega)
    ·simp only [↓sx0, sxE, encs, sevalprocAttr]
     have hv : apV l m = ([], 13) := by rw [hv0, if_pos (.inr (.inl ⟨hm, .inr q2⟩))]
     refine EndW.fn ?_ ?_ <;> simp only [sx4, encs, kpLL_map, sxR, sevalprocAttr] <;> (try simp [hv]) <;> (try omega)
   ·simp only [↓sx0, sxE, encs, sevalprocAttr]
    have hv : apV l m = ([], 13) := by rw [hv0, if_pos (.inr (.inl ⟨hm, .inl (by omega)⟩))]
    refine EndW.fn ?_ ?_ <;> simp only [sx4, encs, kpLL_map, sxR, sevalprocAttr] <;> (try simp [hv]) <;> (try omega)
  ·simp only [↓sx0, sxE, encs, sevalprocAttr]
   have hv : apV l m = ([], 6) := by rw [hv0, if_pos (.inr ⟨hm, by omega⟩)]
   refine EndW.fn ?_ ?_ <;> simp only [sx4, encs, kpLL_map, sxR, sevalprocAttr] <;> (try simp [hv]) <;> (try omega)
end Go.Proofs.Ytenohgpackcjbaa
/-
 Chapter 8, walks: the laws of applying.
-/
namespace Go.Proofs.Ytenohgpackcjbaa
open Go Go.Vx
set_option linter.unusedSimpArgs false
set_option linter.unusedVariables false
set_option maxRecDepth 20000
theorem appliedR_s (b b2 : Bool) (l : List Pt) (m : Mk) (h0 : (partsErr l).2 = 0) (h1 : mkErr m = 0) :
  Ctr Try.prog 22 [.sl b 2 (l.map (eP b2)), mV m] (fun rr => rr = ⟨.tup [.sl true 2 ((apV l m).1.map (eP true)), (.v (.int .i64 ((apV l m).2)))], []⟩) := by
 obtain ⟨⟨a1, a2⟩, hr, -, h7⟩ := mk_ok h1
 obtain ⟨⟨p1, p2⟩, w1, w2⟩ := inR_b hr
 obtain ⟨i, hp⟩ : ∃ i : Nat, m.part = i := ⟨m.part.toNat, by omega⟩
 obtain ⟨k, hw⟩ : ∃ k : Nat, m.word = k := ⟨m.word.toNat, by omega⟩
 have hz := (mk_sz h1).2
 have hm : m.mark = 1 ∨ m.mark = 2 ∨ m.mark = 3 ∨ m.mark = 4 ∨ m.mark = 5 ∨ m.mark = 6 ∨ m.mark = 7 := by omega
 rcases hm with hm | hm | hm | hm | hm | hm | hm
 ·exact appliedOutR_s b b2 l m i k hm hp hw h0
 ·exact appliedInR_s b b2 l m i k hm hp hw hz h0
 ·exact appliedChangeR_s b b2 l m i k hm hp hw hz h0
 ·exact appliedSwapR_s b b2 l m i k hm hp hw (by omega) h0
 ·exact appliedBreakR_s b b2 l m i k hm hp hw h0
 ·exact appliedJoinR_s b b2 l m i k hm hp hw (by omega) h0
 ·have hk : k = 0 := by
   unfold bdE at h7
   split at h7
   ·omega
   ·rename_i hn; exact Decidable.byContradiction fun hc => hn (.inr ⟨hm, by omega⟩)
  exact appliedTurnR_s b b2 l m i k hm hp hw hk h0
theorem apV_bad {l : List Pt} {m : Mk} (h : ¬ (apV l m).2 = 0) : (apV l m).1 = [] := by
 unfold apV at h ⊢
 cases hq : l[m.part.toNat]? with
 | none => rfl
 | some p =>
  rw [hq] at h
  simp only at h ⊢
  by_cases c1 : (if m.mark = 2 then (p.words.length : Int) else if m.mark = 4 then (p.words.length : Int) - 2 else if m.mark = 6 then 100 else if m.mark = 7 then 0 else (p.words.length : Int) - 1) < m.word ∨ (m.mark = 6 ∧ m.part = l.length - 1)
  ·rw [if_pos c1]
  ·rw [if_neg c1] at h ⊢
   by_cases c2 : ((m.mark = 1 ∨ m.mark = 3) ∧ p.words.getD m.word.toNat em ≠ m.old) ∨ (m.mark = 6 ∧ ((p.words.length : Int) ≠ m.word ∨ (l.getD (m.part.toNat + 1) ⟨0, []⟩).kind ≠ m.kind)) ∨ (m.mark = 7 ∧ p.kind ≠ m.was)
   ·rw [if_pos c2]
   ·rw [if_neg c2] at h ⊢
    unfold chk at h ⊢
    by_cases c3 : (partsErr (apL l m m.part.toNat m.word.toNat p)).2 = 0
    ·rw [if_pos c3] at h; exact absurd rfl h
    ·rw [if_neg c3]
set_option maxHeartbeats 16000000 in
theorem appliesLaw_s (l : List Pt) (m : Mk) (hl : l.length ≤ maxLen) (hw : ∀ p ∈ l, p.words.length ≤ maxLen) : Ctr Try.prog 3 [.sl true 2 (l.map (eP true)), mV m] (fun rr => rr = ⟨(.v (.bool (true))), []⟩) := by
 have encs := And.intro encs prE
 refine Ctr.of (rs := [.tmp 4]) Tok true Try.func3 rfl rfl rfl rfl (by simp [ofDL]) (fun w0 kp => ?_)
 simp only [↓sx0, sxE, encs, sevalprocAttr]
 refine CallI.fn (awake_s) (by simp only [sx3, encs, sxR, sevalprocAttr] <;> (try simp) <;> (try rfl)) ?_
 simp only [↓sx0, sxE, encs, sevalprocAttr]
 refine CallI.fn (light_s true true l hl hw) (by simp only [sx3, encs, sxR, sevalprocAttr] <;> (try simp) <;> (try rfl)) ?_
 simp only [↓sx0, sxE, encs, sevalprocAttr]
 refine BrW.of (fun fl => ?_) (fun fl => ?_)
 ·obtain ⟨l62, lw⟩ := light_all fl
  have lw2 : ∀ p ∈ l, p.words.length ≤ 1000000 := fun p hp => by have := (lw p hp).1; omega
  simp only [↓sx0, sxE, encs, sevalprocAttr]
  repeat ((with_reducible refine BrW.tt fl ?_); simp only [↓sx0, sxE, encs, sevalprocAttr])
  refine CallI.fn (brief_s m) (by simp only [sx3, encs, sxR, sevalprocAttr] <;> (try simp) <;> (try rfl)) ?_
  simp only [↓sx0, sxE, encs, sevalprocAttr]
  by_cases fb : m.old.size ≤ 40 ∧ m.new.size ≤ 40
  ·repeat ((with_reducible refine BrW.yes fb ?_); simp only [↓sx0, sxE, encs, sevalprocAttr])
   have zm : MkSz m := ⟨by omega, by omega⟩
   have hA := Applied_s true true l m zm
   have hC := checkPartsR_s true true l (by omega) (fun p hp => ⟨lw2 p hp, (lw p hp).2⟩)
   have hM := checkMarkR_s m zm
   refine DrawW.plan Tok mixed (.q 0 <| .q 2 <| .e 1 [2] <| .e 3 [] <| .q 4 <| .q 5 <| .q 6 <| .q 7 <| .q 8 <| .done) (by kernel_rfl) (by kernel_rfl) ?_
   simp only [↓sx0, sxE, encs, sevalprocAttr]
   refine CallI.fn (copyOf_s true true l (by omega) lw2) (by simp only [sx3, encs, sxR, sevalprocAttr] <;> (try simp) <;> (try rfl)) ?_
   simp only [↓sx0, sxE, encs, sevalprocAttr]
   by_cases h0 : (partsErr l).2 = 0
   ·rw [show apA l m = if mkErr m = 0 then apV l m else ([], mkErr m) by rw [apA, if_pos h0]] at hA
    have hC1 : (partsErr l).1 = 0 ∨ True := .inr trivial
    generalize (partsErr l).1 = q at hC
    rw [h0] at hC
    by_cases h1 : mkErr m = 0
    ·have hR := appliedR_s true true l m h0 h1
     have hok := apV_ok (l := l) (m := m)
     have hbad := apV_bad (l := l) (m := m)
     rw [if_pos h1] at hA
     rw [h1] at hM
     generalize apV l m = r at hA hR hok hbad
     obtain ⟨x, e⟩ := r
     simp only at hA hR hok hbad
     have hx : x.length ≤ 1000000000 ∧ ∀ p ∈ x, p.words.length ≤ 1000000000 := by
      by_cases he : e = 0
      ·obtain ⟨x60, xw⟩ := parts_ok (hok he)
       exact ⟨by omega, fun p hp => by have := xw p hp; omega⟩
      ·rw [hbad he]; exact ⟨by simp, by simp⟩
     refine CallI.fn (hA) (by simp only [sx3, encs, sxR, sevalprocAttr] <;> (try simp) <;> (try rfl)) ?_
     simp only [↓sx0, sxE, encs, sevalprocAttr]
     refine CallI.fn (hC) (by simp only [sx3, encs, sxR, sevalprocAttr] <;> (try simp) <;> (try rfl)) ?_
     simp only [↓sx0, sxE, encs, sevalprocAttr]
     repeat ((with_reducible refine BrW.yes (by simp) ?_); simp only [↓sx0, sxE, encs, sevalprocAttr])
     refine CallI.fn (hM) (by simp only [sx3, encs, sxR, sevalprocAttr] <;> (try simp) <;> (try rfl)) ?_
     simp only [↓sx0, sxE, encs, sevalprocAttr]
     repeat ((with_reducible refine BrW.yes (by simp) ?_); simp only [↓sx0, sxE, encs, sevalprocAttr])
     refine CallI.fn (hR) (by simp only [sx3, encs, sxR, sevalprocAttr] <;> (try simp) <;> (try rfl)) ?_
     simp only [↓sx0, sxE, encs, sevalprocAttr]
     refine CallI.fn (copies_s true true true true x x hx.1 hx.2) (by simp only [sx3, encs, sxR, sevalprocAttr] <;> (try simp) <;> (try rfl)) ?_
     simp only [↓sx0, sxE, encs, sevalprocAttr]
     refine EndW.fn ?_ ?_ <;> simp only [sx4, encs, kpLL_map, sxR, sevalprocAttr] <;> (try simp) <;> (try omega)
    ·rw [if_neg h1] at hA
     refine CallI.fn (hA) (by simp only [sx3, encs, sxR, sevalprocAttr] <;> (try simp) <;> (try rfl)) ?_
     simp only [↓sx0, sxE, encs, sevalprocAttr]
     refine CallI.fn (hC) (by simp only [sx3, encs, sxR, sevalprocAttr] <;> (try simp) <;> (try rfl)) ?_
     simp only [↓sx0, sxE, encs, sevalprocAttr]
     repeat ((with_reducible refine BrW.yes (by simp) ?_); simp only [↓sx0, sxE, encs, sevalprocAttr])
     refine CallI.fn (hM) (by simp only [sx3, encs, sxR, sevalprocAttr] <;> (try simp) <;> (try rfl)) ?_
     simp only [↓sx0, sxE, encs, sevalprocAttr]
     refine BrW.no h1 ?_
     simp only [↓sx0, sxE, encs, sevalprocAttr]
     refine CallI.fn (copies_s true true true true [] [] (by simp) (by simp)) (by simp only [sx3, encs, sxR, sevalprocAttr] <;> (try simp) <;> (try rfl)) ?_
     simp only [↓sx0, sxE, encs, sevalprocAttr]
     refine EndW.fn ?_ ?_ <;> simp only [sx4, encs, kpLL_map, sxR, sevalprocAttr] <;> (try simp) <;> (try omega)
   ·rw [show apA l m = ([], (partsErr l).2) by rw [apA, if_neg h0]] at hA
    refine CallI.fn (hA) (by simp only [sx3, encs, sxR, sevalprocAttr] <;> (try simp) <;> (try rfl)) ?_
    simp only [↓sx0, sxE, encs, sevalprocAttr]
    refine CallI.fn (hC) (by simp only [sx3, encs, sxR, sevalprocAttr] <;> (try simp) <;> (try rfl)) ?_
    simp only [↓sx0, sxE, encs, sevalprocAttr]
    refine BrW.no h0 ?_
    simp only [↓sx0, sxE, encs, sevalprocAttr]
    refine BrW.no h0 ?_
    simp only [↓sx0, sxE, encs, sevalprocAttr]
    refine CallI.fn (copies_s true true true true [] [] (by simp) (by simp)) (by simp only [sx3, encs, sxR, sevalprocAttr] <;> (try simp) <;> (try rfl)) ?_
    simp only [↓sx0, sxE, encs, sevalprocAttr]
    refine EndW.fn ?_ ?_ <;> simp only [sx4, encs, kpLL_map, sxR, sevalprocAttr] <;> (try simp) <;> (try omega)
  ·repeat ((with_reducible refine BrW.no fb ?_); simp only [↓sx0, sxE, encs, sevalprocAttr])
   refine EndW.fn ?_ ?_ <;> simp only [sx4, encs, kpLL_map, sxR, sevalprocAttr] <;> (try simp) <;> (try omega)
 ·simp only [↓sx0, sxE, encs, sevalprocAttr]
  repeat ((with_reducible refine BrW.ff fl ?_); simp only [↓sx0, sxE, encs, sevalprocAttr])
  refine EndW.fn ?_ ?_ <;> simp only [sx4, encs, kpLL_map, sxR, sevalprocAttr] <;> (try simp) <;> (try omega)
set_option maxHeartbeats 8000000 in
theorem AppliedAllR_s (b b2 b3 : Bool) (l : List Pt) (ms : List Mk) (h0 : (partsErr l).2 = 0) (h1 : lstErr ms = 0) : Ctr Try.prog 30 [.sl b 2 (l.map (eP b2)), .sl b3 7 (ms.map eM)] (fun rr => rr = ⟨.tup [.sl true 2 ((apF l 0 ms).1.map (eP true)), (.v (.int .i64 ((apF l 0 ms).2.1))), (.v (.int .i64 ((apF l 0 ms).2.2)))], []⟩) := by
 obtain ⟨hl60, hws⟩ := parts_ok h0
 obtain ⟨m60, mok⟩ := lstA h1
 refine Ctr.of (rs := [.tmp 4, .tmp 5, .tmp 6]) Tok true Try.func30 rfl rfl rfl rfl (by simp [ofDL]) (fun w0 kp => ?_)
 simp only [↓sx0, sxE, encs, sevalprocAttr]
 refine CallI.fn (copyOf_s b b2 l (by omega) (fun p hp => by have := hws p hp; omega)) (by simp only [sx3, encs, sxR, sevalprocAttr] <;> (try simp) <;> (try rfl)) ?_
 simp only [↓sx0, sxE, encs, sevalprocAttr]
 refine LoopW.comp [1, 7, 8] (by simp only [sx2, encs, sxR, sevalprocAttr] <;> (try simp) <;> (try omega)) ?_
 simp only [sx2, sxR, sevalprocAttr]
 refine LoopW.up Tok (fun s : AS => [(7, .sl true 2 (s.l.map (eP true))), (8, (.v (.int .i64 s.k)))]) (fun s => []) (fun s => []) (fun s => []) (fun s => s.k ≤ ms.length ∧ (partsErr s.l).2 = 0 ∧ apF s.l s.k (ms.drop s.k) = apF l 0 ms) (fun s => ms.length - s.k) (⟨0, l⟩) (by simp only [sx2, encs, sxR, sevalprocAttr] <;> (try simp) <;> (try omega)) ?_ ?_
 ·exact ⟨by simp, h0, rfl⟩
 rintro ⟨k, cur⟩ ⟨hk, hr, hA⟩
 simp only at hk hr hA
 simp only [↓sx0, sxE, encs, sevalprocAttr]
 refine BrW.dec (fun hlt => ?_) (fun hlt => ?_)
 ·simp only [↓sx0, sxE, encs, sevalprocAttr]
  have hkl : k < ms.length := by omega
  have hd : ms.drop k = ms[k] :: ms.drop (k + 1) := List.drop_eq_getElem_cons hkl
  have hm : mkErr ms[k] = 0 := mok _ (List.getElem_mem hkl)
  rw [hd] at hA
  refine IxW.nat hkl ?_
  simp only [↓sx0, sxE, encs, sevalprocAttr]
  generalize ms[k] = m at hA hm ⊢
  have hap := appliedR_s true true cur m hr hm
  have hok := apV_ok (l := cur) (m := m)
  rw [apF] at hA
  generalize apV cur m = r at hA hap hok
  obtain ⟨nx, e⟩ := r
  simp only at hA hap hok
  refine CallI.fn (hap) (by simp only [sx3, encs, sxR, sevalprocAttr] <;> (try simp) <;> (try rfl)) ?_
  simp only [↓sx0, sxE, encs, sevalprocAttr]
  refine BrW.dec (fun he => ?_) (fun he => ?_)
  ·rw [if_neg he] at hA
   rw [← hA]
   simp only [↓sx0, sxE, encs, sevalprocAttr]
   refine EndW.fn ?_ ?_ <;> simp only [sx4, encs, kpLL_map, sxR, sevalprocAttr] <;> (try simp) <;> (try omega)
  ·have he := Decidable.not_not.1 he
   rw [if_pos he] at hA
   simp only [↓sx0, sxE, encs, sevalprocAttr]
   repeat ((with_reducible refine Vc.go ?_ fun _ => ?_); (focus (first | omega | (simp only [InK]; omega) | (simp [InK]; done) | (simp [InK]; omega))); simp only [↓sx0, sxE, encs, sevalprocAttr])
   refine ⟨⟨k + 1, nx⟩, StLe.auto (by simp only [sx2, encs, sxR, sevalprocAttr] <;> (try simp) <;> (try omega)), ?_, ?_⟩
   ·exact ⟨by simp only; omega, hok he, hA⟩
   ·simp only; omega
 ·have hke : k = ms.length := by omega
  subst hke
  rw [List.drop_length, apF] at hA
  rw [← hA]
  have hkp := kpP cur
  simp only [↓sx0, sxE, encs, sevalprocAttr]
  refine EndW.fn ?_ ?_ <;> simp only [sx4, encs, kpLL_map, sxR, sevalprocAttr] <;> (try simp [hkp]) <;> (try omega)
theorem apF_right {ms : List Mk} {l : List Pt} {k : Nat} (h0 : (partsErr l).2 = 0) : (partsErr (apF l k ms).1).2 = 0 ∨ (apF l k ms).1 = [] := by
 induction ms generalizing l k with
 | nil => exact .inl h0
 | cons m ms ih =>
  rw [apF]
  by_cases hv : (apV l m).2 = 0
  ·rw [if_pos hv]; exact ih (apV_ok hv)
  ·rw [if_neg hv]; exact .inr rfl
set_option maxHeartbeats 16000000 in
theorem appliesAllLaw_s (l : List Pt) (ms : List Mk) (hl : l.length ≤ maxLen) (hw : ∀ p ∈ l, p.words.length ≤ maxLen) (hms : ms.length ≤ maxLen) : Ctr Try.prog 5 [.sl true 2 (l.map (eP true)), .sl true 7 (ms.map eM)] (fun rr => rr = ⟨(.v (.bool (true))), []⟩) := by
 have encs := And.intro encs prE
 refine Ctr.of (rs := [.tmp 4]) Tok true Try.func5 rfl rfl rfl rfl (by simp [ofDL]) (fun w0 kp => ?_)
 simp only [↓sx0, sxE, encs, sevalprocAttr]
 refine CallI.fn (awake_s) (by simp only [sx3, encs, sxR, sevalprocAttr] <;> (try simp) <;> (try rfl)) ?_
 simp only [↓sx0, sxE, encs, sevalprocAttr]
 refine CallI.fn (light_s true true l hl hw) (by simp only [sx3, encs, sxR, sevalprocAttr] <;> (try simp) <;> (try rfl)) ?_
 simp only [↓sx0, sxE, encs, sevalprocAttr]
 refine BrW.of (fun fl => ?_) (fun fl => ?_)
 ·obtain ⟨l62, lw⟩ := light_all fl
  have lw2 : ∀ p ∈ l, p.words.length ≤ 1000000 := fun p hp => by have := (lw p hp).1; omega
  simp only [↓sx0, sxE, encs, sevalprocAttr]
  repeat ((with_reducible refine BrW.tt fl ?_); simp only [↓sx0, sxE, encs, sevalprocAttr])
  refine CallI.fn (few_s true ms hms) (by simp only [sx3, encs, sxR, sevalprocAttr] <;> (try simp) <;> (try rfl)) ?_
  simp only [↓sx0, sxE, encs, sevalprocAttr]
  refine BrW.of (fun fb => ?_) (fun fb => ?_)
  ·obtain ⟨zb, nb⟩ := few_all fb
   simp only [↓sx0, sxE, encs, sevalprocAttr]
   repeat ((with_reducible refine BrW.tt fb ?_); simp only [↓sx0, sxE, encs, sevalprocAttr])
   have hA := AppliedAll_s true true true l ms zb (by omega)
   have hC := checkPartsR_s true true l (by omega) (fun p hp => ⟨lw2 p hp, (lw p hp).2⟩)
   have hM := checkMarksR_s true ms zb (by omega)
   refine CallI.fn (copyOf_s true true l (by omega) lw2) (by simp only [sx3, encs, sxR, sevalprocAttr] <;> (try simp) <;> (try rfl)) ?_
   simp only [↓sx0, sxE, encs, sevalprocAttr]
   refine CallI.fn (copyMarks_s true ms (by omega)) (by simp only [sx3, encs, sxR, sevalprocAttr] <;> (try simp) <;> (try rfl)) ?_
   simp only [↓sx0, sxE, encs, sevalprocAttr]
   by_cases h0 : (partsErr l).2 = 0
   ·rw [show apAll l ms = if lstErr ms = 0 then apF l 0 ms else ([], 0, lstErr ms) by rw [apAll, if_pos h0]] at hA
    generalize (partsErr l).1 = q at hC
    rw [h0] at hC
    by_cases h1 : lstErr ms = 0
    ·have hR := AppliedAllR_s true true true l ms h0 h1
     have hrt := apF_right (k := 0) (ms := ms) h0
     rw [if_pos h1] at hA
     rw [h1] at hM
     generalize apF l 0 ms = r at hA hR hrt
     obtain ⟨x, n, e⟩ := r
     simp only at hA hR hrt
     have hx : x.length ≤ 1000000000 ∧ ∀ p ∈ x, p.words.length ≤ 1000000000 := by
      rcases hrt with h | h
      ·obtain ⟨x60, xw⟩ := parts_ok h
       exact ⟨by omega, fun p hp => by have := xw p hp; omega⟩
      ·rw [h]; exact ⟨by simp, by simp⟩
     refine CallI.fn (hA) (by simp only [sx3, encs, sxR, sevalprocAttr] <;> (try simp) <;> (try rfl)) ?_
     simp only [↓sx0, sxE, encs, sevalprocAttr]
     refine CallI.fn (hC) (by simp only [sx3, encs, sxR, sevalprocAttr] <;> (try simp) <;> (try rfl)) ?_
     simp only [↓sx0, sxE, encs, sevalprocAttr]
     repeat ((with_reducible refine BrW.yes (by simp) ?_); simp only [↓sx0, sxE, encs, sevalprocAttr])
     refine CallI.fn (hM) (by simp only [sx3, encs, sxR, sevalprocAttr] <;> (try simp) <;> (try rfl)) ?_
     simp only [↓sx0, sxE, encs, sevalprocAttr]
     repeat ((with_reducible refine BrW.no (by simp) ?_); simp only [↓sx0, sxE, encs, sevalprocAttr])
     refine CallI.fn (hR) (by simp only [sx3, encs, sxR, sevalprocAttr] <;> (try simp) <;> (try rfl)) ?_
     simp only [↓sx0, sxE, encs, sevalprocAttr]
     refine CallI.fn (copies_s true true true true x x hx.1 hx.2) (by simp only [sx3, encs, sxR, sevalprocAttr] <;> (try simp) <;> (try rfl)) ?_
     simp only [↓sx0, sxE, encs, sevalprocAttr]
     refine EndW.fn ?_ ?_ <;> simp only [sx4, encs, kpLL_map, sxR, sevalprocAttr] <;> (try simp) <;> (try omega)
    ·rw [if_neg h1] at hA
     refine CallI.fn (hA) (by simp only [sx3, encs, sxR, sevalprocAttr] <;> (try simp) <;> (try rfl)) ?_
     simp only [↓sx0, sxE, encs, sevalprocAttr]
     refine CallI.fn (hC) (by simp only [sx3, encs, sxR, sevalprocAttr] <;> (try simp) <;> (try rfl)) ?_
     simp only [↓sx0, sxE, encs, sevalprocAttr]
     repeat ((with_reducible refine BrW.yes (by simp) ?_); simp only [↓sx0, sxE, encs, sevalprocAttr])
     refine CallI.fn (hM) (by simp only [sx3, encs, sxR, sevalprocAttr] <;> (try simp) <;> (try rfl)) ?_
     simp only [↓sx0, sxE, encs, sevalprocAttr]
     refine BrW.yes h1 ?_
     simp only [↓sx0, sxE, encs, sevalprocAttr]
     refine EndW.fn ?_ ?_ <;> simp only [sx4, encs, kpLL_map, sxR, sevalprocAttr] <;> (try simp) <;> (try omega)
   ·rw [show apAll l ms = ([], 0, (partsErr l).2) by rw [apAll, if_neg h0]] at hA
    refine CallI.fn (hA) (by simp only [sx3, encs, sxR, sevalprocAttr] <;> (try simp) <;> (try rfl)) ?_
    simp only [↓sx0, sxE, encs, sevalprocAttr]
    refine CallI.fn (hC) (by simp only [sx3, encs, sxR, sevalprocAttr] <;> (try simp) <;> (try rfl)) ?_
    simp only [↓sx0, sxE, encs, sevalprocAttr]
    refine BrW.no h0 ?_
    simp only [↓sx0, sxE, encs, sevalprocAttr]
    refine BrW.yes h0 ?_
    simp only [↓sx0, sxE, encs, sevalprocAttr]
    refine EndW.fn ?_ ?_ <;> simp only [sx4, encs, kpLL_map, sxR, sevalprocAttr] <;> (try simp) <;> (try omega)
  ·simp only [↓sx0, sxE, encs, sevalprocAttr]
   repeat ((with_reducible refine BrW.ff fb ?_); simp only [↓sx0, sxE, encs, sevalprocAttr])
   refine EndW.fn ?_ ?_ <;> simp only [sx4, encs, kpLL_map, sxR, sevalprocAttr] <;> (try simp) <;> (try omega)
 ·simp only [↓sx0, sxE, encs, sevalprocAttr]
  repeat ((with_reducible refine BrW.ff fl ?_); simp only [↓sx0, sxE, encs, sevalprocAttr])
  refine EndW.fn ?_ ?_ <;> simp only [sx4, encs, kpLL_map, sxR, sevalprocAttr] <;> (try simp) <;> (try omega)
end Go.Proofs.Ytenohgpackcjbaa
