/-
 Chapter 8, walks: no fewer marks than the least edits cost.
-/
import Derived.Test.YtmiibjncomgneaaVGQ
import Derived.Test.YtmiibjncomgneaaVGN
import Derived.Test.YtmiibjncomgneaaVW40
import Derived.Test.YtmiibjncomgneaaVGE
import Derived.Test.YtmiibjncomgneaaVP8L
namespace Go.Proofs.Ytmiibjncomgneaa
open Go Go.Vx
set_option linter.unusedSimpArgs false
set_option linter.unusedVariables false
set_option maxRecDepth 20000
theorem fox_ap : apA foxL inMk = (fox4, 0) := by kernel_rfl
theorem marked_s : Ctr Try.prog 4 [] (fun rr => rr = ⟨(.v (.bool (true))), []⟩) := by
 have hA := Applied_s true true foxL inMk ⟨by decide, by decide⟩
 rw [fox_ap] at hA
 have encs := And.intro encs (And.intro awE prE)
 refine Ctr.of (rs := [.tmp 0]) Tok true Try.func4 rfl rfl rfl rfl (by simp [ofDL]) (fun w0 kp => ?_)
 simp only [↓sx0, sxE, encs, sevalprocAttr]
 refine CallI.fn (fox_s) (by simp only [sx3, encs, sxR, sevalprocAttr] <;> (try simp) <;> (try rfl)) ?_
 simp only [↓sx0, sxE, encs, sevalprocAttr]
 refine CallI.fn (hA) (by simp only [sx3, encs, sxR, sevalprocAttr] <;> (try simp) <;> (try rfl)) ?_
 simp only [↓sx0, sxE, encs, sevalprocAttr]
 repeat ((with_reducible refine BrW.yes (by simp) ?_); simp only [↓sx0, sxE, encs, sevalprocAttr])
 repeat ((with_reducible refine Vc.go trivial fun _ => ?_); simp only [↓sx0, sxE, encs, sevalprocAttr])
 refine ⟨by omega, _, rfl, ?_⟩
 simp only [↓sx0, sxE, encs, sevalprocAttr]
 refine CallI.fn (texts_s true false [⟨#[116, 104, 101]⟩, ⟨#[118, 101, 114, 121]⟩, ⟨#[113, 117, 105, 99, 107]⟩, ⟨#[102, 111, 120]⟩] [⟨#[116, 104, 101]⟩, ⟨#[118, 101, 114, 121]⟩, ⟨#[113, 117, 105, 99, 107]⟩, ⟨#[102, 111, 120]⟩] (by decide)) (by simp only [sx3, encs, sxR, sevalprocAttr] <;> (try simp) <;> (try rfl)) ?_
 simp only [↓sx0, sxE, encs, sevalprocAttr]
 refine EndW.fn ?_ ?_ <;> simp only [sx4, encs, kpLL_map, sxR, sevalprocAttr] <;> (try simp) <;> (try omega)
theorem apAllB {l : List Pt} {ms : List Mk} (h : ¬ (apAll l ms).2.2 = 0) : (apAll l ms).1 = [] := by
 have hF : ∀ (ms : List Mk) (l : List Pt) (k : Nat), ¬ (apF l k ms).2.2 = 0 → (apF l k ms).1 = [] := by
  intro ms
  induction ms with
  | nil => intro l k h; exact absurd rfl h
  | cons m ms ih =>
   intro l k h
   rw [apF] at h ⊢
   by_cases hv : (apV l m).2 = 0
   ·rw [if_pos hv] at h ⊢; exact ih _ _ h
   ·rw [if_neg hv]
 unfold apAll at h ⊢
 by_cases h0 : (partsErr l).2 = 0
 ·rw [if_pos h0] at h ⊢
  by_cases h1 : lstErr ms = 0
  ·rw [if_pos h1] at h ⊢; exact hF _ _ _ h
  ·rw [if_neg h1]
 ·rw [if_neg h0]
theorem light_one (w : List ByteArray) : lgtB [⟨0, w⟩] = shrtB w := by simp [lgtB, lenP, shrtP]
theorem moves_8 {ms : List Mk} (h : fewB ms = true) (h2 : ms.length ≤ 60) : ms.length ≤ 8 := by
 simp only [fewB, Bool.and_eq_true] at h
 have := h.1
 simp only [lenB, Bool.or_eq_true, Bool.and_eq_true, decide_eq_true_eq] at this
 omega
/-- what the marks come to. -/
theorem least_all {w : List ByteArray} {ms : List Mk} (hl : w.length ≤ 8) (hf : fewB ms = true) (hm : ∀ m ∈ ms, (1 ≤ m.mark ∧ m.mark ≤ 3) ∧ m.part = 0) (h : (apAll [⟨1, w⟩] ms).2.2 = 0) :
  ∃ w', (apAll [⟨1, w⟩] ms).1 = [⟨1, w'⟩] ∧ (w'.length ≤ 20 ∧ 0 < w.length ∧ 0 < w'.length) ∧ dst w w' w.length w'.length ≤ ms.length ∧ wdsErr w w' = 0 := by
 unfold apAll at h ⊢
 by_cases h0 : (partsErr [⟨1, w⟩]).2 = 0
 ·rw [if_pos h0] at h ⊢
  by_cases h1 : lstErr ms = 0
  ·rw [if_pos h1] at h ⊢
   obtain ⟨h60, hok⟩ := lstA h1
   obtain ⟨e1, e2⟩ := apF_RPs hok h
   have e2 := e2 h0
   obtain ⟨w', hw, d1, d2⟩ := RPs_one (w0 := w) hm e1
   have h8 := moves_8 hf h60
   rw [dst_self] at d1
   rw [hw] at e2 ⊢
   have p1 := (parts_ok h0).2 ⟨1, w⟩ (by simp)
   have p2 := (parts_ok e2).2 ⟨1, w'⟩ (by simp)
   have wd : ∀ v : List ByteArray, (partsErr [⟨1, v⟩]).2 = 0 → v.any badW = false := fun v hv => by
    have : partErr ⟨1, v⟩ = 0 := by
     unfold partsErr at hv
     rw [if_neg (by simp)] at hv
     exact partsE_ok _ 0 hv _ (by simp)
    unfold partErr at this
    rw [if_pos ⟨by simp, by simp⟩] at this
    cases hb : v.any badW with
    | false => rfl
    | true =>
     rw [if_pos (show v.any badW = true ∨ isMk (v.headD hash) = true from .inl hb)] at this
     split at this
     ·simp at this
     ·split at this
      ·simp at this
      ·simp at this
   refine ⟨w', rfl, ⟨by omega, p1.1, p2.1⟩, by omega, ?_⟩
   rw [wdsErr, if_pos ⟨by omega, by omega⟩, List.any_append, wd w h0, wd w' e2]
   rfl
  ·rw [if_neg h1] at h; exact absurd h h1
 ·rw [if_neg h0] at h; exact absurd h h0
theorem all_sz {w : List ByteArray} (h : w.any badW = false) : AllSz w := fun s hs => by
 have := List.any_eq_false.1 h s hs
 exact wd_sz (by simpa [badW] using this)
set_option maxHeartbeats 16000000 in
theorem leastEditsLaw_s (w : List ByteArray) (ms : List Mk) (hl : w.length ≤ maxLen) (hms : ms.length ≤ maxLen) : Ctr Try.prog 3 [.sl true 1 (w.map eS), .sl true 7 (ms.map eM)] (fun rr => rr = ⟨(.v (.bool (true))), []⟩) := by
 have encs := And.intro encs prE
 refine Ctr.of (rs := [.tmp 4]) Tok true Try.func3 rfl rfl rfl rfl (by simp [ofDL]) (fun w0 kp => ?_)
 simp only [↓sx0, sxE, encs, sevalprocAttr]
 refine CallI.fn (marked_s) (by simp only [sx3, encs, sxR, sevalprocAttr] <;> (try simp) <;> (try rfl)) ?_
 simp only [↓sx0, sxE, encs, sevalprocAttr]
 refine BrW.dec (fun h8 => ?_) (fun h8 => ?_)
 ·simp only [↓sx0, sxE, encs, sevalprocAttr]
  refine EndW.fn ?_ ?_ <;> simp only [sx4, encs, kpLL_map, sxR, sevalprocAttr] <;> (try simp) <;> (try omega)
 ·have hw8 : w.length ≤ 8 := by omega
  simp only [↓sx0, sxE, encs, sevalprocAttr]
  have hL := light_s false true [⟨0, w⟩] (by simp [maxLen]) (fun p hp => by rw [List.mem_singleton] at hp; subst hp; exact hl)
  rw [light_one] at hL
  simp only [List.map_cons, List.map_nil, encs] at hL
  repeat ((with_reducible refine Vc.go ?_ fun _ => ?_); (focus (first | omega | (simp only [InK]; omega) | (simp [InK]; done) | (simp [InK]; omega))); simp only [↓sx0, sxE, encs, sevalprocAttr])
  refine CallI.fn (hL) (by simp only [sx3, encs, sxR, sevalprocAttr] <;> (try simp) <;> (try rfl)) ?_
  simp only [↓sx0, sxE, encs, sevalprocAttr]
  refine BrW.of (fun fl => ?_) (fun fl => ?_)
  ·obtain ⟨wz, -⟩ := shrt_all fl
   simp only [↓sx0, sxE, encs, sevalprocAttr]
   repeat ((with_reducible refine BrW.tt fl ?_); simp only [↓sx0, sxE, encs, sevalprocAttr])
   refine CallI.fn (few_s true ms hms) (by simp only [sx3, encs, sxR, sevalprocAttr] <;> (try simp) <;> (try rfl)) ?_
   simp only [↓sx0, sxE, encs, sevalprocAttr]
   refine BrW.of (fun fb => ?_) (fun fb => ?_)
   ·obtain ⟨zb, nb⟩ := few_all fb
    simp only [↓sx0, sxE, encs, sevalprocAttr]
    repeat ((with_reducible refine BrW.tt fb ?_); simp only [↓sx0, sxE, encs, sevalprocAttr])
    refine LoopW.comp [0, 1, 5] (by simp only [sx2, encs, sxR, sevalprocAttr] <;> (try simp) <;> (try omega)) ?_
    simp only [sx2, sxR, sevalprocAttr]
    refine LoopW.up Tok (fun k : Nat => [(5, (.v (.int .i64 k)))]) (fun k => []) (fun k => []) (fun k => []) (fun k => k ≤ ms.length ∧ ∀ m ∈ ms.take k, (1 ≤ m.mark ∧ m.mark ≤ 3) ∧ m.part = 0) (fun k => ms.length - k) (0) (by simp only [sx2, encs, sxR, sevalprocAttr] <;> (try simp) <;> (try omega)) ?_ ?_
    ·exact ⟨by omega, by simp⟩
    rintro k ⟨hk, ht⟩
    simp only [↓sx0, sxE, encs, sevalprocAttr]
    refine BrW.dec (fun hlt => ?_) (fun hlt => ?_)
    ·simp only [↓sx0, sxE, encs, sevalprocAttr]
     have hkl : k < ms.length := by omega
     refine IxW.nat hkl ?_
     simp only [↓sx0, sxE, encs, sevalprocAttr]
     refine CallI.fn (withinB_s ms[k].mark 1 3) (by simp only [sx3, encs, sxR, sevalprocAttr] <;> (try simp) <;> (try rfl)) ?_
     simp only [↓sx0, sxE, encs, sevalprocAttr]
     by_cases q1 : 1 ≤ ms[k].mark ∧ ms[k].mark ≤ 3
     ·repeat ((with_reducible refine BrW.yes q1 ?_); simp only [↓sx0, sxE, encs, sevalprocAttr])
      refine IxW.nat hkl ?_
      simp only [↓sx0, sxE, encs, sevalprocAttr]
      refine BrW.dec (fun q2 => ?_) (fun q2 => ?_)
      ·simp only [↓sx0, sxE, encs, sevalprocAttr]
       refine EndW.fn ?_ ?_ <;> simp only [sx4, encs, kpLL_map, sxR, sevalprocAttr] <;> (try simp) <;> (try omega)
      ·have q2 := Decidable.not_not.1 q2
       simp only [↓sx0, sxE, encs, sevalprocAttr]
       repeat ((with_reducible refine Vc.go ?_ fun _ => ?_); (focus (first | omega | (simp only [InK]; omega) | (simp [InK]; done) | (simp [InK]; omega))); simp only [↓sx0, sxE, encs, sevalprocAttr])
       refine ⟨k + 1, StLe.auto (by simp only [sx2, encs, sxR, sevalprocAttr] <;> (try simp) <;> (try omega)), ?_, ?_⟩
       ·refine ⟨hkl, fun m hm => ?_⟩
        rw [List.take_succ_eq_append_getElem hkl, List.mem_append, List.mem_singleton] at hm
        rcases hm with hm | rfl
        ·exact ht m hm
        ·exact ⟨q1, q2⟩
       ·omega
     ·repeat ((with_reducible refine BrW.no q1 ?_); simp only [↓sx0, sxE, encs, sevalprocAttr])
      refine EndW.fn ?_ ?_ <;> simp only [sx4, encs, kpLL_map, sxR, sevalprocAttr] <;> (try simp) <;> (try omega)
    ·have hke : k = ms.length := by omega
     subst hke
     rw [List.take_length] at ht
     have hA := AppliedAll_s false true true [⟨1, w⟩] ms zb (by omega)
     have hall := least_all hw8 fb ht
     have hbad := apAllB (l := [⟨1, w⟩]) (ms := ms)
     generalize apAll [⟨1, w⟩] ms = r at hA hall hbad
     obtain ⟨x, n, e⟩ := r
     simp only at hA hall hbad
     simp only [List.map_cons, List.map_nil, encs] at hA
     simp only [↓sx0, sxE, encs, sevalprocAttr]
     refine CallI.fn (copyTexts_s true w (by omega)) (by simp only [sx3, encs, sxR, sevalprocAttr] <;> (try simp) <;> (try rfl)) ?_
     simp only [↓sx0, sxE, encs, sevalprocAttr]
     repeat ((with_reducible refine Vc.go ?_ fun _ => ?_); (focus (first | omega | (simp only [InK]; omega) | (simp [InK]; done) | (simp [InK]; omega))); simp only [↓sx0, sxE, encs, sevalprocAttr])
     refine CallI.fn (copyMarks_s true ms (by omega)) (by simp only [sx3, encs, sxR, sevalprocAttr] <;> (try simp) <;> (try rfl)) ?_
     simp only [↓sx0, sxE, encs, sevalprocAttr]
     refine CallI.fn (hA) (by simp only [sx3, encs, sxR, sevalprocAttr] <;> (try simp) <;> (try rfl)) ?_
     simp only [↓sx0, sxE, encs, sevalprocAttr]
     refine BrW.dec (fun he => ?_) (fun he => ?_)
     ·have hxe := hbad he
      subst hxe
      simp only [↓sx0, sxE, encs, sevalprocAttr]
      refine EndW.fn ?_ ?_ <;> simp only [sx4, encs, kpLL_map, sxR, sevalprocAttr] <;> (try simp) <;> (try omega)
     ·have he := Decidable.not_not.1 he
      obtain ⟨w', rfl, ⟨g1, g2, g3⟩, g4, g5⟩ := hall he
      have hbad2 : (w ++ w').any badW = false := by
       obtain ⟨l1, l2⟩ := wds_len g5
       unfold wdsErr at g5
       rw [if_pos ⟨l1, l2⟩] at g5
       cases hb : (w ++ w').any badW with
       | false => rfl
       | true => rw [hb, if_pos rfl] at g5; simp at g5
      rw [List.any_append, Bool.or_eq_false_iff] at hbad2
      have z1 := all_sz hbad2.1
      have z2 := all_sz hbad2.2
      obtain ⟨l1, l2⟩ := wds_len g5
      have cL := leastEdits_s w w' z1 z2
      rw [show lsV w w' = (lsE w w', dL w w' (nLab w w'), 0) by rw [lsV, if_pos g5]] at cL
      have hll := lsE_len w w'
      have hdl := dL_len w w' (nLab w w')
      have hm1 := Nat.mul_le_mul (show w.length + 1 ≤ 41 by omega) (show w'.length + 1 ≤ 41 by omega)
      have hnl : nLab w w' = (w.length + 1) * (w'.length + 1) := rfl
      have cE := checkEdits_s true true true w w' (lsE w w') z1 z2 (by omega)
      rw [show edV w w' (lsE w w') = (dst w w' w.length w'.length, 0) by rw [edV, if_pos g5, lsE_cost]] at cE
      have cB := checkLabels_s w w' (dL w w' (nLab w w')) z1 z2 (by omega)
      rw [show labV w w' (dL w w' (nLab w w')) = (dst w w' w.length w'.length, 0) by rw [labV, if_pos g5, labE_eq, labR_dL l1 l2]] at cB
      have cM := marksOf_s w w' 0 z1 z2
      have hlen := moL_len (part := 0) (lsE w w') 0 0 0 (by rw [lsE_cost])
      rw [lsE_cost] at hlen
      simp only at cL cE cB hlen
      simp only [List.map_cons, List.map_nil, encs]
      simp only [↓sx0, sxE, encs, sevalprocAttr]
      refine BrW.no (by simp) ?_
      simp only [↓sx0, sxE, encs, sevalprocAttr]
      refine ⟨by omega, _, rfl, ?_⟩
      simp only [↓sx0, sxE, encs, sevalprocAttr]
      refine BrW.no (by simp; omega) ?_
      simp only [↓sx0, sxE, encs, sevalprocAttr]
      refine DrawW.plan Tok mixed (.q 0 <| .q 2 <| .q 3 <| .q 4 <| .q 5 <| .e 1 [5] <| .e 6 [] <| .e 7 [] <| .q 8 <| .q 9 <| .q 10 <| .q 11 <| .q 12 <| .q 13 <| .q 14 <| .done) (by kernel_rfl) (by kernel_rfl) ?_
      simp only [↓sx0, sxE, encs, sevalprocAttr]
      refine ⟨by omega, _, rfl, ?_⟩
      simp only [↓sx0, sxE, encs, sevalprocAttr]
      refine CallI.fn (copyTexts_s true w (by omega)) (by simp only [sx3, encs, sxR, sevalprocAttr] <;> (try simp) <;> (try rfl)) ?_
      simp only [↓sx0, sxE, encs, sevalprocAttr]
      refine CallI.fn (copyTexts_s true w' (by omega)) (by simp only [sx3, encs, sxR, sevalprocAttr] <;> (try simp) <;> (try rfl)) ?_
      simp only [↓sx0, sxE, encs, sevalprocAttr]
      refine CallI.fn (cL) (by simp only [sx3, encs, sxR, sevalprocAttr] <;> (try simp) <;> (try rfl)) ?_
      simp only [↓sx0, sxE, encs, sevalprocAttr]
      refine DrawW.plan Tok mixed (.q 0 <| .q 2 <| .q 3 <| .q 4 <| .q 5 <| .q 7 <| .e 1 [5] <| .e 6 [] <| .e 8 [] <| .q 9 <| .q 10 <| .q 11 <| .q 12 <| .q 13 <| .done) (by kernel_rfl) (by kernel_rfl) ?_
      simp only [↓sx0, sxE, encs, sevalprocAttr]
      refine ⟨by omega, _, rfl, ?_⟩
      simp only [↓sx0, sxE, encs, sevalprocAttr]
      refine CallI.fn (copyTexts_s true w (by omega)) (by simp only [sx3, encs, sxR, sevalprocAttr] <;> (try simp) <;> (try rfl)) ?_
      simp only [↓sx0, sxE, encs, sevalprocAttr]
      refine CallI.fn (copyTexts_s true w' (by omega)) (by simp only [sx3, encs, sxR, sevalprocAttr] <;> (try simp) <;> (try rfl)) ?_
      simp only [↓sx0, sxE, encs, sevalprocAttr]
      refine CallI.fn (cE) (by simp only [sx3, encs, sxR, sevalprocAttr] <;> (try simp) <;> (try rfl)) ?_
      simp only [↓sx0, sxE, encs, sevalprocAttr]
      refine DrawW.plan Tok mixed (.q 0 <| .q 2 <| .q 3 <| .q 4 <| .q 5 <| .q 7 <| .e 1 [5] <| .e 6 [] <| .e 8 [] <| .q 9 <| .q 10 <| .q 11 <| .q 12 <| .q 13 <| .done) (by kernel_rfl) (by kernel_rfl) ?_
      simp only [↓sx0, sxE, encs, sevalprocAttr]
      refine ⟨by omega, _, rfl, ?_⟩
      simp only [↓sx0, sxE, encs, sevalprocAttr]
      refine CallI.fn (copyTexts_s true w (by omega)) (by simp only [sx3, encs, sxR, sevalprocAttr] <;> (try simp) <;> (try rfl)) ?_
      simp only [↓sx0, sxE, encs, sevalprocAttr]
      refine CallI.fn (copyTexts_s true w' (by omega)) (by simp only [sx3, encs, sxR, sevalprocAttr] <;> (try simp) <;> (try rfl)) ?_
      simp only [↓sx0, sxE, encs, sevalprocAttr]
      refine CallI.fn (cB) (by simp only [sx3, encs, sxR, sevalprocAttr] <;> (try simp) <;> (try rfl)) ?_
      simp only [↓sx0, sxE, encs, sevalprocAttr]
      repeat ((with_reducible refine BrW.no (by first | omega | simp) ?_); simp only [↓sx0, sxE, encs, sevalprocAttr])
      have hE : mofE w w' 0 = if (w ++ w').any isMk = true then 3 else 0 := by
       rw [mofE, if_pos g5, if_neg (show ¬ (w.length = 0 ∨ w'.length = 0) by omega), if_pos (show (0 : Int) ≤ 0 ∧ (0 : Int) ≤ 59 by decide)]
      refine DrawW.plan Tok mixed (.q 0 <| .q 2 <| .q 3 <| .q 4 <| .q 5 <| .e 1 [5] <| .e 6 [] <| .e 7 [] <| .q 8 <| .q 9 <| .q 10 <| .q 11 <| .q 12 <| .done) (by kernel_rfl) (by kernel_rfl) ?_
      simp only [↓sx0, sxE, encs, sevalprocAttr]
      refine ⟨by omega, _, rfl, ?_⟩
      simp only [↓sx0, sxE, encs, sevalprocAttr]
      refine CallI.fn (copyTexts_s true w (by omega)) (by simp only [sx3, encs, sxR, sevalprocAttr] <;> (try simp) <;> (try rfl)) ?_
      simp only [↓sx0, sxE, encs, sevalprocAttr]
      refine CallI.fn (copyTexts_s true w' (by omega)) (by simp only [sx3, encs, sxR, sevalprocAttr] <;> (try simp) <;> (try rfl)) ?_
      simp only [↓sx0, sxE, encs, sevalprocAttr]
      by_cases hmk : (w ++ w').any isMk = true
      ·rw [if_pos hmk] at hE
       rw [show mofV w w' 0 = ([], 3) by rw [mofV, hE]; rfl] at cM
       refine CallI.fn (cM) (by simp only [sx3, encs, sxR, sevalprocAttr] <;> (try simp) <;> (try rfl)) ?_
       simp only [↓sx0, sxE, encs, sevalprocAttr]
       refine EndW.fn ?_ ?_ <;> simp only [sx4, encs, kpLL_map, sxR, sevalprocAttr] <;> (try simp) <;> (try omega)
      ·rw [if_neg hmk] at hE
       rw [show mofV w w' 0 = (moL 0 w w' (lsE w w') 0, 0) by rw [mofV, hE]; rfl] at cM
       generalize moL 0 w w' (lsE w w') 0 = M at cM hlen
       refine CallI.fn (cM) (by simp only [sx3, encs, sxR, sevalprocAttr] <;> (try simp) <;> (try rfl)) ?_
       simp only [↓sx0, sxE, encs, sevalprocAttr]
       refine EndW.fn ?_ ?_ <;> simp only [sx4, encs, kpLL_map, sxR, sevalprocAttr] <;> (try simp [hlen]) <;> (try omega)
   ·simp only [↓sx0, sxE, encs, sevalprocAttr]
    repeat ((with_reducible refine BrW.ff fb ?_); simp only [↓sx0, sxE, encs, sevalprocAttr])
    refine EndW.fn ?_ ?_ <;> simp only [sx4, encs, kpLL_map, sxR, sevalprocAttr] <;> (try simp) <;> (try omega)
  ·simp only [↓sx0, sxE, encs, sevalprocAttr]
   repeat ((with_reducible refine BrW.ff fl ?_); simp only [↓sx0, sxE, encs, sevalprocAttr])
   refine EndW.fn ?_ ?_ <;> simp only [sx4, encs, kpLL_map, sxR, sevalprocAttr] <;> (try simp) <;> (try omega)
end Go.Proofs.Ytmiibjncomgneaa
