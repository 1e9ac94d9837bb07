/-
  Chapter 9, walks: runs, by the reference; minutes and cents.
-/
import Derived.Test.YtfojggadhhaleaaGreatDoorVGB
import Derived.Test.YtfojggadhhaleaaGreatDoorVP9Ch
namespace Go.Proofs.YtfojggadhhaleaaGreatDoor
open Go Go.Vx
set_option linter.unusedSimpArgs false
set_option maxRecDepth 20000
theorem checkRunR_s (b : Bool) (x : Run) : Ctr Tryz.prog 12 [rV b x] (fun rr => rr = ⟨(.v (.int .i64 (runErr x))), []⟩) := by
  refine Ctr.of (rs := [.tmp 2]) Tok true Tryz.func12 rfl rfl rfl rfl (by simp [ofDL]) (fun w0 kp => ?_)
  simp only [↓sx0, sxE, encs, sevalprocAttr]
  refine CallI.fn (isNameB_s x.job) (by simp only [sx3, encs, sxR, sevalprocAttr] <;> (try simp) <;> (try rfl)) ?_
  simp only [↓sx0, sxE, encs, sevalprocAttr]
  refine BrW.of (fun h1 => ?_) (fun h1 => ?_)
  · simp only [↓sx0, sxE, encs, sevalprocAttr]
    refine CallI.fn (withinB_s x.day 0 100000) (by simp only [sx3, encs, sxR, sevalprocAttr] <;> (try simp) <;> (try rfl)) ?_
    simp only [↓sx0, sxE, encs, sevalprocAttr]
    refine BrW.dec (fun h2 => ?_) (fun h2 => ?_)
    · simp only [↓sx0, sxE, encs, sevalprocAttr]
      refine CallI.fn (withinB_s x.wanted 1 2000) (by simp only [sx3, encs, sxR, sevalprocAttr] <;> (try simp) <;> (try rfl)) ?_
      simp only [↓sx0, sxE, encs, sevalprocAttr]
      refine BrW.dec (fun h3 => ?_) (fun h3 => ?_)
      · simp only [↓sx0, sxE, encs, sevalprocAttr]
        refine CallI.fn (withinB_s x.given x.wanted 2000) (by simp only [sx3, encs, sxR, sevalprocAttr] <;> (try simp) <;> (try rfl)) ?_
        simp only [↓sx0, sxE, encs, sevalprocAttr]
        refine BrW.dec (fun h4 => ?_) (fun h4 => ?_)
        · simp only [↓sx0, sxE, encs, sevalprocAttr]
          refine BrW.dec (fun h5 => ?_) (fun h5 => ?_)
          · simp only [↓sx0, sxE, encs, sevalprocAttr]
            have h5 : x.cols = [] := List.length_eq_zero_iff.1 (by omega)
            refine EndW.fn ?_ ?_ <;> simp only [sx4, encs, kpLL_map, sxR, sevalprocAttr] <;> (try simp [runErr, h1, h2, h3, h4, h5]) <;> (try omega)
          · simp only [↓sx0, sxE, encs, sevalprocAttr]
            have h5 : ¬ x.cols = [] := fun e => h5 (by rw [e]; rfl)
            refine BrW.dec (fun h6 => ?_) (fun h6 => ?_)
            · simp only [↓sx0, sxE, encs, sevalprocAttr]
              have h6 : 6 < x.cols.length := by omega
              refine EndW.fn ?_ ?_ <;> simp only [sx4, encs, kpLL_map, sxR, sevalprocAttr] <;> (try simp [runErr, h1, h2, h3, h4, h5, h6]) <;> (try omega)
            · simp only [↓sx0, sxE, encs, sevalprocAttr]
              have h6 : ¬ 6 < x.cols.length := by omega
              refine LoopW.comp [1, 3] (by simp only [sx2, encs, sxR, sevalprocAttr] <;> (try simp) <;> (try omega)) ?_
              simp only [sx2, sxR, sevalprocAttr]
              refine LoopW.up Tok (fun k : Nat => [(3, (.v (.int .i64 k)))]) (fun k => []) (fun k => []) (fun k => []) (fun k => k ≤ x.cols.length ∧ colsErr (x.cols.take k) (x.cols.drop k) = colsErr [] x.cols) (fun k => x.cols.length - k) (0) (by simp only [sx2, encs, sxR, sevalprocAttr] <;> (try simp) <;> (try omega)) ?_ ?_
              · exact ⟨by omega, by simp⟩
              rintro k ⟨hk, ht⟩
              simp only [↓sx0, sxE, encs, sevalprocAttr]
              refine BrW.dec (fun hlt => ?_) (fun hlt => ?_)
              · simp only [↓sx0, sxE, encs, sevalprocAttr]
                have hlt : k < x.cols.length := by omega
                have hce := colsErr_at hlt ht
                refine IxW.nat hlt ?_
                simp only [↓sx0, sxE, encs, sevalprocAttr]
                refine CallI.fn (isNameB_s x.cols[k]) (by simp only [sx3, encs, sxR, sevalprocAttr] <;> (try simp) <;> (try rfl)) ?_
                simp only [↓sx0, sxE, encs, sevalprocAttr]
                refine BrW.of (fun h7 => ?_) (fun h7 => ?_)
                · simp only [↓sx0, sxE, encs, sevalprocAttr]
                  refine DrawW.plan Tok mixed (.q 0 <| .q 1 <| .q 2 <| .q 3 <| .q 4 <| .q 5 <| .q 6 <| .q 7 <| .q 8 <| .e 9 [] <| .done) (by kernel_rfl) (by kernel_rfl) ?_
                  simp only [↓sx0, sxE, encs, sevalprocAttr]
                  (with_reducible refine Vc.go ?_ fun _ => ?_); focus (first | omega | (simp only [InK]; omega) | (simp [InK]; done) | (simp [InK]; omega))
                  simp only [↓sx0, sxE, encs, sevalprocAttr]
                  refine IxW.nat hlt ?_
                  simp only [↓sx0, sxE, encs, sevalprocAttr]
                  refine CallI.fn (hasText_s b (x.cols.take k) x.cols[k] (by simp; omega)) (by simp only [sx3, encs, sxR, sevalprocAttr] <;> (try simp) <;> (try rfl)) ?_
                  simp only [↓sx0, sxE, encs, sevalprocAttr]
                  refine BrW.of (fun h8 => ?_) (fun h8 => ?_)
                  · simp only [↓sx0, sxE, encs, sevalprocAttr]
                    have : colsErr [] x.cols = 5 := by rw [hce]; simp [h7, h8]
                    refine EndW.fn ?_ ?_ <;> simp only [sx4, encs, kpLL_map, sxR, sevalprocAttr] <;> (try simp [runErr, h1, h2, h3, h4, h5, h6, this]) <;> (try omega)
                  · simp only [↓sx0, sxE, encs, sevalprocAttr]
                    (with_reducible refine Vc.go ?_ fun _ => ?_); focus (first | omega | (simp only [InK]; omega) | (simp [InK]; done) | (simp [InK]; omega))
                    simp only [↓sx0, sxE, encs, sevalprocAttr]
                    refine ⟨k + 1, StLe.auto (by simp only [sx2, encs, sxR, sevalprocAttr] <;> (try simp) <;> (try omega)), ?_, ?_⟩
                    · exact ⟨hlt, by rw [hce]; simp [h7, h8]⟩
                    · omega
                · simp only [↓sx0, sxE, encs, sevalprocAttr]
                  have : colsErr [] x.cols = 4 := by rw [hce]; simp [h7]
                  refine EndW.fn ?_ ?_ <;> simp only [sx4, encs, kpLL_map, sxR, sevalprocAttr] <;> (try simp [runErr, h1, h2, h3, h4, h5, h6, this]) <;> (try omega)
              · simp only [↓sx0, sxE, encs, sevalprocAttr]
                have hke : k = x.cols.length := by omega
                subst hke
                have hz : colsErr [] x.cols = 0 := by rw [← ht]; simp [colsErr]
                refine CallI.fn (withinB_s x.ready 0 10000) (by simp only [sx3, encs, sxR, sevalprocAttr] <;> (try simp) <;> (try rfl)) ?_
                simp only [↓sx0, sxE, encs, sevalprocAttr]
                refine BrW.dec (fun h7 => ?_) (fun h7 => ?_)
                · simp only [↓sx0, sxE, encs, sevalprocAttr]
                  refine CallI.fn (withinB_s x.hour 1 10000) (by simp only [sx3, encs, sxR, sevalprocAttr] <;> (try simp) <;> (try rfl)) ?_
                  simp only [↓sx0, sxE, encs, sevalprocAttr]
                  refine BrW.dec (fun h8 => ?_) (fun h8 => ?_)
                  · simp only [↓sx0, sxE, encs, sevalprocAttr]
                    refine EndW.fn ?_ ?_ <;> simp only [sx4, encs, kpLL_map, sxR, sevalprocAttr] <;> (try simp [runErr, h1, h2, h3, h4, h5, h6, hz, h7, h8]) <;> (try omega)
                  · simp only [↓sx0, sxE, encs, sevalprocAttr]
                    refine EndW.fn ?_ ?_ <;> simp only [sx4, encs, kpLL_map, sxR, sevalprocAttr] <;> (try simp [runErr, h1, h2, h3, h4, h5, h6, hz, h7, h8]) <;> (try omega)
                · simp only [↓sx0, sxE, encs, sevalprocAttr]
                  refine EndW.fn ?_ ?_ <;> simp only [sx4, encs, kpLL_map, sxR, sevalprocAttr] <;> (try simp [runErr, h1, h2, h3, h4, h5, h6, hz, h7]) <;> (try omega)
        · simp only [↓sx0, sxE, encs, sevalprocAttr]
          refine EndW.fn ?_ ?_ <;> simp only [sx4, encs, kpLL_map, sxR, sevalprocAttr] <;> (try simp [runErr, h1, h2, h3, h4]) <;> (try omega)
      · simp only [↓sx0, sxE, encs, sevalprocAttr]
        refine EndW.fn ?_ ?_ <;> simp only [sx4, encs, kpLL_map, sxR, sevalprocAttr] <;> (try simp [runErr, h1, h2, h3]) <;> (try omega)
    · simp only [↓sx0, sxE, encs, sevalprocAttr]
      refine EndW.fn ?_ ?_ <;> simp only [sx4, encs, kpLL_map, sxR, sevalprocAttr] <;> (try simp [runErr, h1, h2]) <;> (try omega)
  · simp only [↓sx0, sxE, encs, sevalprocAttr]
    refine EndW.fn ?_ ?_ <;> simp only [sx4, encs, kpLL_map, sxR, sevalprocAttr] <;> (try simp [runErr, h1]) <;> (try omega)
structure RunOk (x : Run) : Prop where
  g0 : 1 ≤ x.given
  g1 : x.given ≤ 2000
  n0 : 1 ≤ x.cols.length
  n1 : x.cols.length ≤ 6
  r0 : 0 ≤ x.ready
  r1 : x.ready ≤ 10000
  h0 : 1 ≤ x.hour
  h1 : x.hour ≤ 10000
theorem runErr_ok {x : Run} (h : runErr x = 0) : RunOk x := by
  unfold runErr at h
  split at h
  · split at h
    · split at h
      · omega
      · split at h
        · omega
        · split at h
          · split at h
            · have : x.cols.length ≠ 0 := fun e => by rename_i h1 _ _ _; exact h1 (List.length_eq_zero_iff.1 e)
              constructor <;> omega
            · omega
          · rename_i h2; exact (h2 h).elim
    · omega
  · omega
def runMin (x : Run) : Int := x.ready * (x.cols.length : Int) + (60 * x.given * (x.cols.length : Int) + x.hour - 1) / x.hour
theorem runMin_b {x : Run} (h : RunOk x) : 0 ≤ x.ready * (x.cols.length : Int) ∧ x.ready * (x.cols.length : Int) ≤ 60000 ∧ 0 ≤ 60 * x.given * (x.cols.length : Int) ∧ 60 * x.given * (x.cols.length : Int) ≤ 720000 ∧
    0 ≤ (60 * x.given * (x.cols.length : Int) + x.hour - 1) / x.hour ∧ (60 * x.given * (x.cols.length : Int) + x.hour - 1) / x.hour ≤ 730000 := by
  obtain ⟨g0, g1, n0, n1, r0, r1, h0, h1⟩ := h
  have a1 : x.ready * (x.cols.length : Int) ≤ 10000 * 6 := Int.mul_le_mul r1 (by omega) (by omega) (by omega)
  have a2 : 0 ≤ x.ready * (x.cols.length : Int) := Int.mul_nonneg r0 (by omega)
  have a3 : 60 * x.given * (x.cols.length : Int) ≤ (60 * 2000) * 6 := Int.mul_le_mul (by omega) (by omega) (by omega) (by omega)
  have a4 : 0 ≤ 60 * x.given * (x.cols.length : Int) := Int.mul_nonneg (by omega) (by omega)
  have a5 : 0 ≤ (60 * x.given * (x.cols.length : Int) + x.hour - 1) / x.hour := Int.ediv_nonneg (by omega) (by omega)
  have a6 := Int.ediv_le_self x.hour (a := 60 * x.given * (x.cols.length : Int) + x.hour - 1) (by omega)
  exact ⟨a2, by omega, a4, by omega, a5, by omega⟩
theorem minutes_s (b : Bool) (x : Run) (h : RunOk x) : Ctr Tryz.prog 38 [rV b x] (fun rr => rr = ⟨(.v (.int .i64 (runMin x))), []⟩) := by
  have hb := runMin_b h
  have h60 : 0 ≤ 60 * x.given ∧ 60 * x.given ≤ 120000 := by have := h.g0; have := h.g1; omega
  have := h.h0
  have := h.h1
  refine Ctr.of (rs := [.tmp 2]) Tok true Tryz.func38 rfl rfl rfl rfl (by simp [ofDL]) (fun w0 kp => ?_)
  simp only [↓sx0, sxE, encs, sevalprocAttr]
  refine DrawW.plan Tok mixed (.q 0 <| .q 1 <| .q 2 <| .q 3 <| .q 4 <| .q 5 <| .q 6 <| .q 7 <| .q 8 <| .q 9 <| .q 10 <| .q 11 <| .q 12 <| .q 13 <| .q 14 <| .e 15 [1, 3] <| .q 16 <| .q 17 <| .done) (by kernel_rfl) (by kernel_rfl) ?_
  simp only [↓sx0, sxE, encs, sevalprocAttr]
  repeat ((with_reducible refine Vc.go ?_ fun _ => ?_); (focus (first | omega | (simp only [InK]; omega) | (simp [InK]; done) | (simp [InK]; omega))); simp only [↓sx0, sxE, encs, sevalprocAttr])
  refine CallI.fn (up_s (60 * x.given * (x.cols.length : Int)) x.hour (by omega) (by omega) (by omega) (by omega)) (by simp only [sx3, encs, sxR, sevalprocAttr] <;> (try simp) <;> (try rfl)) ?_
  simp only [↓sx0, sxE, encs, sevalprocAttr]
  (with_reducible refine Vc.go ?_ fun _ => ?_); focus (first | omega | (simp only [InK]; omega) | (simp [InK]; done) | (simp [InK]; omega))
  simp only [↓sx0, sxE, encs, sevalprocAttr]
  refine EndW.fn ?_ ?_ <;> simp only [sx4, encs, kpLL_map, sxR, sevalprocAttr] <;> (try simp [runMin]) <;> (try omega)
end Go.Proofs.YtfojggadhhaleaaGreatDoor
/-
 Chapter 9: a run read (the reference).
-/
namespace Go.Proofs.YtfojggadhhaleaaGreatDoor
open Go Go.Vx
set_option linter.unusedSimpArgs false
set_option linter.unusedVariables false
set_option maxRecDepth 20000
def nuR (w : List UInt8) : Int × Bool := numR w 7
def nvR (W : List (List UInt8)) (k i : Nat) : Int := if i ≤ k then (nuR (wAt W i)).1 else 0
set_option maxHeartbeats 8000000 in
theorem parseRun_R (l : List UInt8) (hl : l.length ≤ 1000) : Ctr Tryz.prog 9 [(.v (.string (bs l)))] (fun rr => rr = ⟨.tup [rV true (prsR nuR l).1, (.v (.int .i64 ((prsR nuR l).2)))], []⟩) := by
 have encs := And.intro encs eW_def
 have hsp := cut_R l 32 (by omega)
 have hpr : prsR nuR l = if (cutL 32 [] l).length < 6 then (run0, 7) else
  if okW nuR (cutL 32 [] l) = true then
   (if runErr (mkRun (cutL 32 [] l) fun i => (nuR (wAt (cutL 32 [] l) i)).1) = 0 then (mkRun (cutL 32 [] l) fun i => (nuR (wAt (cutL 32 [] l) i)).1, 0) else (run0, runErr (mkRun (cutL 32 [] l) fun i => (nuR (wAt (cutL 32 [] l) i)).1)))
  else (run0, 7) := rfl
 have hWs : ∀ w ∈ cutL 32 [] l, w.length ≤ 1000 := fun w hw => by have := cutL_mem 32 l [] w hw; simp only [List.length_nil] at this; omega
 have hWl : (cutL 32 [] l).length ≤ 1001 := by rw [cutL_len]; have := List.count_le_length (a := (32 : UInt8)) (l := l); omega
 generalize cutL 32 [] l = W at hsp hpr hWs hWl
 generalize prsR nuR l = R at hpr ⊢
 refine Ctr.of (rs := [.cell 2 24, .tmp 3]) Tok true Tryz.func9 rfl rfl rfl rfl (by simp [ofDL]) (fun w0 kp => ?_)
 simp only [↓sx0, sxE, encs, sevalprocAttr]
 refine CallI.fn (hsp) (by simp only [sx3, encs, sxR, sevalprocAttr] <;> (try simp) <;> (try rfl)) ?_
 simp only [↓sx0, sxE, encs, sevalprocAttr]
 refine BrW.dec (fun h6 => ?_) (fun h6 => ?_)
 ·rw [if_pos (by omega)] at hpr
  subst hpr
  simp only [↓sx0, sxE, encs, sevalprocAttr]
  refine EndW.fn ?_ ?_ <;> simp only [sx4, encs, kpLL_map, sxR, sevalprocAttr] <;> (try simp [run0]) <;> (try omega)
 ·rw [if_neg (by omega)] at hpr
  simp only [↓sx0, sxE, encs, sevalprocAttr]
  have hWg : ∀ i (h : i < W.length), wAt W i = W[i] := fun i h => by rw [wAt, List.getElem?_eq_getElem h]; rfl
  have hbad : ∀ k, k < 5 → (nuR (wAt W (k + 1))).2 = false → ¬ okW nuR W = true := fun k hk h ho => by
   have := List.all_eq_true.1 ho k (List.mem_range.2 hk)
   rw [h] at this; cases this
  have hz : nvR W 0 1 = 0 ∧ nvR W 0 2 = 0 ∧ nvR W 0 3 = 0 ∧ nvR W 0 4 = 0 ∧ nvR W 0 5 = 0 := by simp [nvR]
  refine LoopW.comp [2, 4, 5, 6, 7] (by simp only [sx2, encs, sxR, sevalprocAttr] <;> (try simp) <;> (try omega)) ?_
  simp only [sx2, sxR, sevalprocAttr]
  refine LoopW.up Tok (fun k : Nat => [(7, (.v (.int .i64 ((k : Int)))))]) (fun k => [(2, [(.v (.int .i64 (nvR W k 1))), (.v (.int .i64 (nvR W k 2))), (.v (.int .i64 (nvR W k 3))), (.v (.int .i64 (nvR W k 4))), (.v (.int .i64 (nvR W k 5)))])]) (fun k => []) (fun k => []) (fun k => k ≤ 5 ∧ ∀ i, i < k → (nuR (wAt W (i + 1))).2 = true) (fun k => 5 - k) (0) (by simp only [sx2, encs, sxR, sevalprocAttr] <;> (try simp [hz, encs]) <;> (try omega)) ?_ ?_
  ·exact ⟨by omega, fun i hi => by omega⟩
  rintro k ⟨hk, hok⟩
  simp only [↓sx0, sxE, encs, sevalprocAttr]
  refine BrW.dec (fun hlt => ?_) (fun hlt => ?_)
  ·have h5 : k = 0 ∨ k = 1 ∨ k = 2 ∨ k = 3 ∨ k = 4 := by omega
   rcases h5 with rfl | rfl | rfl | rfl | rfl
   ·have hnu := number_R W[1] 7 (by decide) (by have := hWs _ (List.getElem_mem (show 1 < W.length by omega)); omega)
    have hnv1 : nuR (wAt W 1) = numR W[1] 7 := by rw [hWg 1 (by omega)]; rfl
    rw [← hnv1] at hnu
    obtain ⟨n, o, hno⟩ : ∃ n o, nuR (wAt W 1) = (n, o) := ⟨_, _, rfl⟩
    rw [hno] at hnu
    simp only [↓sx0, sxE, encs, sevalprocAttr]
    repeat ((with_reducible refine Vc.go ?_ fun _ => ?_); (focus (first | omega | (simp only [InK]; omega) | (simp [List.length_map, InK]; done) | (simp [List.length_map, InK]; omega))); simp only [↓sx0, sxE, encs, sevalprocAttr])
    refine ⟨by omega, eW W[1], (by rw [List.getElem?_map, List.getElem?_eq_getElem (by omega)]; rfl), ?_⟩
    simp only [↓sx0, sxE, encs, sevalprocAttr]
    refine CallI.fn (hnu) (by simp only [sx3, encs, sxR, sevalprocAttr] <;> (try simp) <;> (try rfl)) ?_
    simp only [↓sx0, sxE, encs, sevalprocAttr]
    refine BrW.of (fun ho => ?_) (fun ho => ?_)
    ·subst ho
     have hv1 : (nuR (wAt W 1)).1 = n := by rw [hno]
     simp only [↓sx0, sxE, encs, sevalprocAttr]
     repeat ((with_reducible refine Vc.go ?_ fun _ => ?_); (focus (first | omega | (simp only [InK]; omega) | (simp [InK]; done) | (simp [InK]; omega))); simp only [↓sx0, sxE, encs, sevalprocAttr])
     have hr : nvR W 1 1 = n ∧ nvR W 1 2 = nvR W 0 2 ∧ nvR W 1 3 = nvR W 0 3 ∧ nvR W 1 4 = nvR W 0 4 ∧ nvR W 1 5 = nvR W 0 5 := by simp [nvR, hv1]
     refine ⟨1, StLe.auto (by simp only [sx2, encs, sxR, sevalprocAttr] <;> (try simp [hr, encs]) <;> (try omega)), ?_, ?_⟩
     ·refine ⟨by omega, fun i hi => ?_⟩
      by_cases h : i = 0
      ·subst h; rw [hno]
      ·exact hok i (by omega)
     ·omega
    ·rw [if_neg (hbad 0 (by omega) (by rw [hno, ho]))] at hpr
     subst hpr
     subst ho
     simp only [↓sx0, sxE, encs, sevalprocAttr]
     refine EndW.fn ?_ ?_ <;> simp only [sx4, encs, kpLL_map, sxR, sevalprocAttr] <;> (try simp [run0]) <;> (try omega)
   ·have hnu := number_R W[2] 7 (by decide) (by have := hWs _ (List.getElem_mem (show 2 < W.length by omega)); omega)
    have hnv1 : nuR (wAt W 2) = numR W[2] 7 := by rw [hWg 2 (by omega)]; rfl
    rw [← hnv1] at hnu
    obtain ⟨n, o, hno⟩ : ∃ n o, nuR (wAt W 2) = (n, o) := ⟨_, _, rfl⟩
    rw [hno] at hnu
    simp only [↓sx0, sxE, encs, sevalprocAttr]
    repeat ((with_reducible refine Vc.go ?_ fun _ => ?_); (focus (first | omega | (simp only [InK]; omega) | (simp [List.length_map, InK]; done) | (simp [List.length_map, InK]; omega))); simp only [↓sx0, sxE, encs, sevalprocAttr])
    refine ⟨by omega, eW W[2], (by rw [List.getElem?_map, List.getElem?_eq_getElem (by omega)]; rfl), ?_⟩
    simp only [↓sx0, sxE, encs, sevalprocAttr]
    refine CallI.fn (hnu) (by simp only [sx3, encs, sxR, sevalprocAttr] <;> (try simp) <;> (try rfl)) ?_
    simp only [↓sx0, sxE, encs, sevalprocAttr]
    refine BrW.of (fun ho => ?_) (fun ho => ?_)
    ·subst ho
     have hv1 : (nuR (wAt W 2)).1 = n := by rw [hno]
     simp only [↓sx0, sxE, encs, sevalprocAttr]
     repeat ((with_reducible refine Vc.go ?_ fun _ => ?_); (focus (first | omega | (simp only [InK]; omega) | (simp [InK]; done) | (simp [InK]; omega))); simp only [↓sx0, sxE, encs, sevalprocAttr])
     have hr : nvR W 2 1 = nvR W 1 1 ∧ nvR W 2 2 = n ∧ nvR W 2 3 = nvR W 1 3 ∧ nvR W 2 4 = nvR W 1 4 ∧ nvR W 2 5 = nvR W 1 5 := by simp [nvR, hv1]
     refine ⟨2, StLe.auto (by simp only [sx2, encs, sxR, sevalprocAttr] <;> (try simp [hr, encs]) <;> (try omega)), ?_, ?_⟩
     ·refine ⟨by omega, fun i hi => ?_⟩
      by_cases h : i = 1
      ·subst h; rw [hno]
      ·exact hok i (by omega)
     ·omega
    ·rw [if_neg (hbad 1 (by omega) (by rw [hno, ho]))] at hpr
     subst hpr
     subst ho
     simp only [↓sx0, sxE, encs, sevalprocAttr]
     refine EndW.fn ?_ ?_ <;> simp only [sx4, encs, kpLL_map, sxR, sevalprocAttr] <;> (try simp [run0]) <;> (try omega)
   ·have hnu := number_R W[3] 7 (by decide) (by have := hWs _ (List.getElem_mem (show 3 < W.length by omega)); omega)
    have hnv1 : nuR (wAt W 3) = numR W[3] 7 := by rw [hWg 3 (by omega)]; rfl
    rw [← hnv1] at hnu
    obtain ⟨n, o, hno⟩ : ∃ n o, nuR (wAt W 3) = (n, o) := ⟨_, _, rfl⟩
    rw [hno] at hnu
    simp only [↓sx0, sxE, encs, sevalprocAttr]
    repeat ((with_reducible refine Vc.go ?_ fun _ => ?_); (focus (first | omega | (simp only [InK]; omega) | (simp [List.length_map, InK]; done) | (simp [List.length_map, InK]; omega))); simp only [↓sx0, sxE, encs, sevalprocAttr])
    refine ⟨by omega, eW W[3], (by rw [List.getElem?_map, List.getElem?_eq_getElem (by omega)]; rfl), ?_⟩
    simp only [↓sx0, sxE, encs, sevalprocAttr]
    refine CallI.fn (hnu) (by simp only [sx3, encs, sxR, sevalprocAttr] <;> (try simp) <;> (try rfl)) ?_
    simp only [↓sx0, sxE, encs, sevalprocAttr]
    refine BrW.of (fun ho => ?_) (fun ho => ?_)
    ·subst ho
     have hv1 : (nuR (wAt W 3)).1 = n := by rw [hno]
     simp only [↓sx0, sxE, encs, sevalprocAttr]
     repeat ((with_reducible refine Vc.go ?_ fun _ => ?_); (focus (first | omega | (simp only [InK]; omega) | (simp [InK]; done) | (simp [InK]; omega))); simp only [↓sx0, sxE, encs, sevalprocAttr])
     have hr : nvR W 3 1 = nvR W 2 1 ∧ nvR W 3 2 = nvR W 2 2 ∧ nvR W 3 3 = n ∧ nvR W 3 4 = nvR W 2 4 ∧ nvR W 3 5 = nvR W 2 5 := by simp [nvR, hv1]
     refine ⟨3, StLe.auto (by simp only [sx2, encs, sxR, sevalprocAttr] <;> (try simp [hr, encs]) <;> (try omega)), ?_, ?_⟩
     ·refine ⟨by omega, fun i hi => ?_⟩
      by_cases h : i = 2
      ·subst h; rw [hno]
      ·exact hok i (by omega)
     ·omega
    ·rw [if_neg (hbad 2 (by omega) (by rw [hno, ho]))] at hpr
     subst hpr
     subst ho
     simp only [↓sx0, sxE, encs, sevalprocAttr]
     refine EndW.fn ?_ ?_ <;> simp only [sx4, encs, kpLL_map, sxR, sevalprocAttr] <;> (try simp [run0]) <;> (try omega)
   ·have hnu := number_R W[4] 7 (by decide) (by have := hWs _ (List.getElem_mem (show 4 < W.length by omega)); omega)
    have hnv1 : nuR (wAt W 4) = numR W[4] 7 := by rw [hWg 4 (by omega)]; rfl
    rw [← hnv1] at hnu
    obtain ⟨n, o, hno⟩ : ∃ n o, nuR (wAt W 4) = (n, o) := ⟨_, _, rfl⟩
    rw [hno] at hnu
    simp only [↓sx0, sxE, encs, sevalprocAttr]
    repeat ((with_reducible refine Vc.go ?_ fun _ => ?_); (focus (first | omega | (simp only [InK]; omega) | (simp [List.length_map, InK]; done) | (simp [List.length_map, InK]; omega))); simp only [↓sx0, sxE, encs, sevalprocAttr])
    refine ⟨by omega, eW W[4], (by rw [List.getElem?_map, List.getElem?_eq_getElem (by omega)]; rfl), ?_⟩
    simp only [↓sx0, sxE, encs, sevalprocAttr]
    refine CallI.fn (hnu) (by simp only [sx3, encs, sxR, sevalprocAttr] <;> (try simp) <;> (try rfl)) ?_
    simp only [↓sx0, sxE, encs, sevalprocAttr]
    refine BrW.of (fun ho => ?_) (fun ho => ?_)
    ·subst ho
     have hv1 : (nuR (wAt W 4)).1 = n := by rw [hno]
     simp only [↓sx0, sxE, encs, sevalprocAttr]
     repeat ((with_reducible refine Vc.go ?_ fun _ => ?_); (focus (first | omega | (simp only [InK]; omega) | (simp [InK]; done) | (simp [InK]; omega))); simp only [↓sx0, sxE, encs, sevalprocAttr])
     have hr : nvR W 4 1 = nvR W 3 1 ∧ nvR W 4 2 = nvR W 3 2 ∧ nvR W 4 3 = nvR W 3 3 ∧ nvR W 4 4 = n ∧ nvR W 4 5 = nvR W 3 5 := by simp [nvR, hv1]
     refine ⟨4, StLe.auto (by simp only [sx2, encs, sxR, sevalprocAttr] <;> (try simp [hr, encs]) <;> (try omega)), ?_, ?_⟩
     ·refine ⟨by omega, fun i hi => ?_⟩
      by_cases h : i = 3
      ·subst h; rw [hno]
      ·exact hok i (by omega)
     ·omega
    ·rw [if_neg (hbad 3 (by omega) (by rw [hno, ho]))] at hpr
     subst hpr
     subst ho
     simp only [↓sx0, sxE, encs, sevalprocAttr]
     refine EndW.fn ?_ ?_ <;> simp only [sx4, encs, kpLL_map, sxR, sevalprocAttr] <;> (try simp [run0]) <;> (try omega)
   ·have hnu := number_R W[5] 7 (by decide) (by have := hWs _ (List.getElem_mem (show 5 < W.length by omega)); omega)
    have hnv1 : nuR (wAt W 5) = numR W[5] 7 := by rw [hWg 5 (by omega)]; rfl
    rw [← hnv1] at hnu
    obtain ⟨n, o, hno⟩ : ∃ n o, nuR (wAt W 5) = (n, o) := ⟨_, _, rfl⟩
    rw [hno] at hnu
    simp only [↓sx0, sxE, encs, sevalprocAttr]
    repeat ((with_reducible refine Vc.go ?_ fun _ => ?_); (focus (first | omega | (simp only [InK]; omega) | (simp [List.length_map, InK]; done) | (simp [List.length_map, InK]; omega))); simp only [↓sx0, sxE, encs, sevalprocAttr])
    refine ⟨by omega, eW W[5], (by rw [List.getElem?_map, List.getElem?_eq_getElem (by omega)]; rfl), ?_⟩
    simp only [↓sx0, sxE, encs, sevalprocAttr]
    refine CallI.fn (hnu) (by simp only [sx3, encs, sxR, sevalprocAttr] <;> (try simp) <;> (try rfl)) ?_
    simp only [↓sx0, sxE, encs, sevalprocAttr]
    refine BrW.of (fun ho => ?_) (fun ho => ?_)
    ·subst ho
     have hv1 : (nuR (wAt W 5)).1 = n := by rw [hno]
     simp only [↓sx0, sxE, encs, sevalprocAttr]
     repeat ((with_reducible refine Vc.go ?_ fun _ => ?_); (focus (first | omega | (simp only [InK]; omega) | (simp [InK]; done) | (simp [InK]; omega))); simp only [↓sx0, sxE, encs, sevalprocAttr])
     have hr : nvR W 5 1 = nvR W 4 1 ∧ nvR W 5 2 = nvR W 4 2 ∧ nvR W 5 3 = nvR W 4 3 ∧ nvR W 5 4 = nvR W 4 4 ∧ nvR W 5 5 = n := by simp [nvR, hv1]
     refine ⟨5, StLe.auto (by simp only [sx2, encs, sxR, sevalprocAttr] <;> (try simp [hr, encs]) <;> (try omega)), ?_, ?_⟩
     ·refine ⟨by omega, fun i hi => ?_⟩
      by_cases h : i = 4
      ·subst h; rw [hno]
      ·exact hok i (by omega)
     ·omega
    ·rw [if_neg (hbad 4 (by omega) (by rw [hno, ho]))] at hpr
     subst hpr
     subst ho
     simp only [↓sx0, sxE, encs, sevalprocAttr]
     refine EndW.fn ?_ ?_ <;> simp only [sx4, encs, kpLL_map, sxR, sevalprocAttr] <;> (try simp [run0]) <;> (try omega)
  ·have hk5 : k = 5 := by omega
   subst hk5
   have hok5 : okW nuR W = true := List.all_eq_true.2 fun i hi => hok i (List.mem_range.1 hi)
   rw [if_pos hok5] at hpr
   have hn5 : ∀ i, i ≤ 5 → nvR W 5 i = (nuR (wAt W i)).1 := fun i h => by rw [nvR, if_pos h]
   simp only [↓sx0, sxE, encs, sevalprocAttr]
   refine DrawW.plan Tok mixed (.q 0 <| .q 1 <| .q 2 <| .q 3 <| .q 4 <| .q 5 <| .q 6 <| .q 7 <| .q 8 <| .q 9 <| .q 10 <| .q 11 <| .q 12 <| .q 13 <| .q 14 <| .q 15 <| .e 16 [2, 4, 6, 8, 10, 12] <| .e 17 [] <| .done) (by kernel_rfl) (by kernel_rfl) ?_
   simp only [↓sx0, sxE, encs, sevalprocAttr]
   repeat ((with_reducible refine Vc.go ?_ fun _ => ?_); (focus (first | omega | (simp only [InK]; omega) | (simp [List.length_map, List.length_drop, InK]; done) | (simp [List.length_map, List.length_drop, InK]; omega))); simp only [↓sx0, sxE, encs, sevalprocAttr])
   refine ⟨by omega, eW W[0], (by rw [show (0 : Int).toNat = 0 from rfl, List.getElem?_map, List.getElem?_eq_getElem (by omega)]; rfl), ?_⟩
   simp only [↓sx0, sxE, encs, sevalprocAttr]
   repeat ((with_reducible refine Vc.go ?_ fun _ => ?_); (focus (first | omega | (simp only [InK]; omega) | (simp [List.length_map, List.length_drop, InK]; done) | (simp [List.length_map, List.length_drop, InK]; omega))); simp only [↓sx0, sxE, encs, sevalprocAttr])
   obtain ⟨X, hX⟩ : ∃ X, X = mkRun W fun i => (nuR (wAt W i)).1 := ⟨_, rfl⟩
   rw [← hX] at hpr
   have e0 : bs W[0] = X.job := by rw [hX, ← hWg 0 (by omega)]; rfl
   have e1 : nvR W 5 1 = X.day := by rw [hX, hn5 1 (by omega)]; rfl
   have e2 : nvR W 5 2 = X.wanted := by rw [hX, hn5 2 (by omega)]; rfl
   have e3 : nvR W 5 3 = X.given := by rw [hX, hn5 3 (by omega)]; rfl
   have e4 : nvR W 5 4 = X.ready := by rw [hX, hn5 4 (by omega)]; rfl
   have e5 : nvR W 5 5 = X.hour := by rw [hX, hn5 5 (by omega)]; rfl
   have ec : (W.map eW).drop 6 = X.cols.map eS := by
    rw [hX, cols_W, ← List.map_drop]
    have em : ((W.drop 6).map bs).map (·.data.toList) = W.drop 6 := by
     rw [List.map_map]
     conv => rhs; rw [← List.map_id (W.drop 6)]
     exact List.map_congr_left fun w _ => bs_toList w
    show _ = (((W.drop 6).map bs).map (·.data.toList)).map eW
    rw [em]
   clear hX
   rw [e0, e1, e2, e3, e4, e5, ec]
   refine CallI.fn (checkRunR_s true X) (by simp only [sx3, encs, sxR, sevalprocAttr] <;> (try simp) <;> (try rfl)) ?_
   simp only [↓sx0, sxE, encs, sevalprocAttr]
   refine BrW.dec (fun he => ?_) (fun he => ?_)
   ·rw [if_neg he] at hpr
    subst hpr
    simp only [↓sx0, sxE, encs, sevalprocAttr]
    refine EndW.fn ?_ ?_ <;> simp only [sx4, encs, kpLL_map, sxR, sevalprocAttr] <;> (try simp [run0]) <;> (try omega)
   ·rw [if_pos (Decidable.not_not.1 he)] at hpr
    subst hpr
    simp only [↓sx0, sxE, encs, sevalprocAttr]
    refine EndW.fn ?_ ?_ <;> simp only [sx4, encs, kpLL_map, sxR, sevalprocAttr] <;> (try simp) <;> (try omega)
end Go.Proofs.YtfojggadhhaleaaGreatDoor
/-
 Chapter 9: both read alike; a right run is read back.
-/
namespace Go.Proofs.YtfojggadhhaleaaGreatDoor
open Go Go.Vx Go.Lib
set_option linter.unusedSimpArgs false
set_option linter.unusedVariables false
set_option maxRecDepth 20000
theorem prs_same (l : List UInt8) : prsR nuP l = prsR nuR l := by
 unfold prsR
 generalize cutL 32 [] l = W
 have hs : ∀ w, (nuP w).2 = (nuR w).2 ∧ ((nuR w).2 = true → (nuP w).1 = (nuR w).1) := fun w => num_same w 7 (by decide)
 have ho : okW nuP W = okW nuR W := by
  unfold okW
  rw [show (fun i => (nuP (wAt W (i + 1))).2) = fun i => (nuR (wAt W (i + 1))).2 from funext fun i => (hs _).1]
 rw [ho]
 by_cases h6 : W.length < 6
 ·rw [if_pos h6, if_pos h6]
 rw [if_neg h6, if_neg h6]
 by_cases hk : okW nuR W = true
 ·rw [if_pos hk, if_pos hk]
  have hv : ∀ i, 1 ≤ i → i ≤ 5 → (nuP (wAt W i)).1 = (nuR (wAt W i)).1 := fun i h1 h2 => by
   have := List.all_eq_true.1 hk (i - 1) (List.mem_range.2 (by omega))
   rw [show i - 1 + 1 = i by omega] at this
   exact (hs _).2 this
  have hm : (mkRun W fun i => (nuP (wAt W i)).1) = mkRun W fun i => (nuR (wAt W i)).1 := by
   simp only [mkRun]
   rw [hv 1 (by omega) (by omega), hv 2 (by omega) (by omega), hv 3 (by omega) (by omega), hv 4 (by omega) (by omega), hv 5 (by omega) (by omega)]
  rw [hm]
 ·rw [if_neg hk, if_neg hk]
theorem itoa_nat {n : Int} (h : 0 ≤ n) : itoa n = decDigits n.toNat := by rw [itoa, if_neg (by omega)]
theorem nuR_itoa {n : Int} (h : 0 ≤ n ∧ n ≤ 9999999) : nuR (itoa n) = (n, true) ∧ ¬ (32 : UInt8) ∈ itoa n := by
 rw [itoa_nat h.1]
 have ha := dec_all n.toNat
 have hne := dec_ne n.toNat
 have hv := dec_val n.toNat
 have hl := dec_len 6 n.toNat (by omega)
 have hd : ∀ c ∈ decDigits n.toNat, 48 ≤ c.toNat ∧ c.toNat ≤ 57 := fun c hc => by
  have := List.all_eq_true.1 ha c hc
  simpa [dgB] using this
 have h0 : ¬ ((decDigits n.toNat).head? = some 48 ∧ 1 < (decDigits n.toNat).length) := fun ⟨e1, e2⟩ => by
  by_cases hz : n.toNat = 0
  ·rw [hz, decDigits, dif_pos (by omega)] at e2; simp at e2
  ·obtain ⟨c, r, e3, e4⟩ := dec_head n.toNat (by omega)
   rw [e3] at e1
   simp only [List.head?_cons, Option.some.injEq] at e1
   rw [e1] at e4; exact e4 rfl
 have h45 : (decDigits n.toNat).head? ≠ some 45 := fun e => by
  cases hq : decDigits n.toNat with
  | nil => rw [hq] at e; cases e
  | cons c r =>
   rw [hq] at e
   simp only [List.head?_cons, Option.some.injEq] at e
   have := hd c (by rw [hq]; simp)
   rw [e] at this
   exact absurd this.1 (by decide)
 refine ⟨?_, fun hm => absurd (hd 32 hm).1 (by decide)⟩
 unfold nuR numR
 rw [if_neg h45, if_neg (fun h => by
  rcases h with h | h | h
  ·exact hne h
  ·omega
  ·exact h0 h), if_pos ha, hv]
 simp only [Prod.mk.injEq, and_true]; omega
theorem isNm_sp {s : ByteArray} (h : isNm s = true) : ¬ (32 : UInt8) ∈ s.data.toList := fun hm => by
 obtain ⟨h1, h2, h3⟩ := isNm_iff.1 h
 obtain ⟨j, hj, he⟩ := List.getElem_of_mem hm
 have := h3 j 32 hj (by rw [List.getElem?_eq_getElem hj, he])
 simp [okB] at this
theorem colsErr_nm : ∀ (l pre : List ByteArray), colsErr pre l = 0 → ∀ s ∈ l, isNm s = true
 | [], _, _, s, hs => by cases hs
 | x :: l, pre, h, s, hs => by
  simp only [colsErr] at h
  split at h
  ·rename_i hx
   split at h
   ·cases h
   ·rcases List.mem_cons.1 hs with rfl | hs
    ·exact hx
    ·exact colsErr_nm l _ h s hs
  ·cases h
theorem fmt_back {x : Run} (h : runErr x = 0) : prsR nuR (runT x) = (x, 0) := by
 have hh := h
 unfold runErr at h
 split at h
 ·rename_i hnm
  split at h
  ·rename_i hrg
   split at h
   ·cases h
   ·split at h
    ·cases h
    ·split at h
     ·rename_i hc
      split at h
      ·rename_i hrh
       have hcut : cutL 32 [] (runT x) = runW x := by
        refine cut_join _ (by simp [runW]) fun w hw => ?_
        simp only [runW, runN, List.map_cons, List.map_nil, List.cons_append, List.nil_append, List.mem_cons, List.mem_map] at hw
        rcases hw with rfl | rfl | rfl | rfl | rfl | rfl | ⟨s, hs, rfl⟩
        ·exact isNm_sp hnm
        ·exact (nuR_itoa ⟨by omega, by omega⟩).2
        ·exact (nuR_itoa ⟨by omega, by omega⟩).2
        ·exact (nuR_itoa ⟨by omega, by omega⟩).2
        ·exact (nuR_itoa ⟨by omega, by omega⟩).2
        ·exact (nuR_itoa ⟨by omega, by omega⟩).2
        ·exact isNm_sp (colsErr_nm _ _ hc s hs)
       have w1 : wAt (runW x) 1 = itoa x.day := rfl
       have w2 : wAt (runW x) 2 = itoa x.wanted := rfl
       have w3 : wAt (runW x) 3 = itoa x.given := rfl
       have w4 : wAt (runW x) 4 = itoa x.ready := rfl
       have w5 : wAt (runW x) 5 = itoa x.hour := rfl
       have n1 := (nuR_itoa (n := x.day) ⟨by omega, by omega⟩).1
       have n2 := (nuR_itoa (n := x.wanted) ⟨by omega, by omega⟩).1
       have n3 := (nuR_itoa (n := x.given) ⟨by omega, by omega⟩).1
       have n4 := (nuR_itoa (n := x.ready) ⟨by omega, by omega⟩).1
       have n5 := (nuR_itoa (n := x.hour) ⟨by omega, by omega⟩).1
       have hmk : (mkRun (runW x) fun i => (nuR (wAt (runW x) i)).1) = x := by
        simp only [mkRun, w1, w2, w3, w4, w5, n1, n2, n3, n4, n5]
        have e0 : bs (wAt (runW x) 0) = x.job := bs_data _
        have e6 : ((runW x).drop 6).map bs = x.cols := by
         show (x.cols.map (·.data.toList)).map bs = x.cols
         rw [List.map_map]
         conv => rhs; rw [← List.map_id x.cols]
         exact List.map_congr_left fun s _ => bs_data s
        rw [e0, e6]
       unfold prsR
       rw [hcut, if_neg (by simp [runW, runN]), if_pos (show okW nuR (runW x) = true from List.all_eq_true.2 fun i hi => by
        have hi5 := List.mem_range.1 hi
        have : i = 0 ∨ i = 1 ∨ i = 2 ∨ i = 3 ∨ i = 4 := by omega
        rcases this with rfl | rfl | rfl | rfl | rfl
        ·rw [w1, n1]
        ·rw [w2, n2]
        ·rw [w3, n3]
        ·rw [w4, n4]
        ·rw [w5, n5]), hmk, if_pos hh]
      ·cases h
     ·exact absurd h (by assumption)
  ·cases h
 ·cases h
end Go.Proofs.YtfojggadhhaleaaGreatDoor
/-
  Chapter 9, walks: cents of runs; copies.
-/
namespace Go.Proofs.YtfojggadhhaleaaGreatDoor
open Go Go.Vx
set_option linter.unusedSimpArgs false
set_option maxRecDepth 20000
/-- Prices. -/
structure Prices where
  sheet : Int
  colour : Int
  hour : Int
def prV (p : Prices) : SV := .agg [.v (.int .i64 p.sheet), .v (.int .i64 p.colour), .v (.int .i64 p.hour)]
theorem prV_eq (p : Prices) : prV p = .agg [.v (.int .i64 p.sheet), .v (.int .i64 p.colour), .v (.int .i64 p.hour)] := rfl
def PrOk (p : Prices) : Prop := (0 ≤ p.sheet ∧ p.sheet ≤ 1000000) ∧ (0 ≤ p.colour ∧ p.colour ≤ 1000000) ∧ (0 ≤ p.hour ∧ p.hour ≤ 1000000)
instance (p : Prices) : Decidable (PrOk p) := by unfold PrOk; infer_instance
def estim (x : Run) (p : Prices) : Int := x.given * p.sheet + (x.cols.length : Int) * p.colour + (runMin x * p.hour + 60 - 1) / 60
theorem estim_b {x : Run} {p : Prices} (h : RunOk x) (hp : PrOk p) : 0 ≤ x.given * p.sheet ∧ x.given * p.sheet ≤ 2000000000 ∧ 0 ≤ (x.cols.length : Int) * p.colour ∧ (x.cols.length : Int) * p.colour ≤ 6000000 ∧ 0 ≤ runMin x * p.hour ∧ runMin x * p.hour ≤ 790000000000 ∧
    0 ≤ (runMin x * p.hour + 60 - 1) / 60 ∧ (runMin x * p.hour + 60 - 1) / 60 ≤ 800000000000 := by
  have hb := runMin_b h
  obtain ⟨g0, g1, n0, n1, r0, r1, h0, h1⟩ := h
  obtain ⟨⟨p0, p1⟩, ⟨p2, p3⟩, p4, p5⟩ := hp
  have a0 : 0 ≤ runMin x := by unfold runMin; omega
  have a00 : runMin x ≤ 790000 := by unfold runMin; omega
  have a1 : x.given * p.sheet ≤ 2000 * 1000000 := Int.mul_le_mul g1 p1 p0 (by omega)
  have a2 : 0 ≤ x.given * p.sheet := Int.mul_nonneg (by omega) p0
  have a3 : (x.cols.length : Int) * p.colour ≤ 6 * 1000000 := Int.mul_le_mul (by omega) p3 p2 (by omega)
  have a4 : 0 ≤ (x.cols.length : Int) * p.colour := Int.mul_nonneg (by omega) p2
  have a5 : runMin x * p.hour ≤ 790000 * 1000000 := Int.mul_le_mul a00 p5 p4 (by omega)
  have a6 : 0 ≤ runMin x * p.hour := Int.mul_nonneg a0 p4
  refine ⟨a2, by omega, a4, by omega, a6, by omega, by omega, by omega⟩
theorem estimate_s (b : Bool) (x : Run) (p : Prices) : Ctr Tryz.prog 13 [rV b x, prV p] (fun rr => rr = ⟨.tup [(.v (.int .i64 (if runErr x = 0 ∧ PrOk p then estim x p else 0))), (.v (.int .i64 (if runErr x = 0 then (if PrOk p then 0 else 2) else runErr x)))], []⟩) := by
  have encs := And.intro encs prV_eq
  refine Ctr.of (rs := [.tmp 4, .tmp 5]) Tok true Tryz.func13 rfl rfl rfl rfl (by simp [ofDL]) (fun w0 kp => ?_)
  simp only [↓sx0, sxE, encs, sevalprocAttr]
  refine CallI.fn (checkRun_s b x) (by simp only [sx3, encs, sxR, sevalprocAttr] <;> (try simp) <;> (try rfl)) ?_
  simp only [↓sx0, sxE, encs, sevalprocAttr]
  refine BrW.dec (fun h => ?_) (fun h => ?_)
  · simp only [↓sx0, sxE, encs, sevalprocAttr]
    refine EndW.fn ?_ ?_ <;> simp only [sx4, encs, kpLL_map, sxR, sevalprocAttr] <;> (try simp [h]) <;> (try omega)
  · simp only [↓sx0, sxE, encs, sevalprocAttr]
    have h : runErr x = 0 := Decidable.not_not.1 h
    refine LoopW.comp [2, 3, 20, 21] (by simp only [sx2, encs, sxR, sevalprocAttr] <;> (try simp) <;> (try omega)) ?_
    simp only [sx2, sxR, sevalprocAttr]
    refine LoopW.up Tok (fun k : Nat => [(21, (.v (.int .i64 k)))]) (fun k => []) (fun k => []) (fun k => []) (fun k => k ≤ 3 ∧ (0 < k → 0 ≤ p.sheet ∧ p.sheet ≤ 1000000) ∧ (1 < k → 0 ≤ p.colour ∧ p.colour ≤ 1000000) ∧ (2 < k → 0 ≤ p.hour ∧ p.hour ≤ 1000000)) (fun k => 3 - k) (0) (by simp only [sx2, encs, sxR, sevalprocAttr] <;> (try simp) <;> (try omega)) ?_ ?_
    · refine ⟨by omega, ?_, ?_, ?_⟩ <;> (intro h; omega)
    rintro k ⟨hk, t0, t1, t2⟩
    simp only [↓sx0, sxE, encs, sevalprocAttr]
    refine BrW.dec (fun hlt => ?_) (fun hlt => ?_)
    · simp only [↓sx0, sxE, encs, sevalprocAttr]
      have hlt : k < 3 := by omega
      refine ArrIx.go (by omega) ?_
      have key : ∀ (n : Int), (takeN 1 (dropN ((k : Int).toNat * 1) [SV.v (.int .i64 p.sheet), .v (.int .i64 p.colour), .v (.int .i64 p.hour)])) = some [.v (.int .i64 n)] → (0 ≤ n ∧ n ≤ 1000000 → k + 1 ≤ 3 ∧ (0 < k + 1 → 0 ≤ p.sheet ∧ p.sheet ≤ 1000000) ∧ (1 < k + 1 → 0 ≤ p.colour ∧ p.colour ≤ 1000000) ∧ (2 < k + 1 → 0 ≤ p.hour ∧ p.hour ≤ 1000000)) ∧ (¬ (0 ≤ n ∧ n ≤ 1000000) → ¬ PrOk p) := by
        intro n hn
        have : k = 0 ∨ k = 1 ∨ k = 2 := by omega
        rcases this with rfl | rfl | rfl <;> simp [dropN, takeN] at hn <;> subst hn <;> refine ⟨fun hx => ⟨by omega, by simp_all, by simp_all, by simp_all⟩, fun hx hp => hx ?_⟩
        · exact hp.1
        · exact hp.2.1
        · exact hp.2.2
      have hex : ∃ n : Int, (takeN 1 (dropN ((k : Int).toNat * 1) [SV.v (.int .i64 p.sheet), .v (.int .i64 p.colour), .v (.int .i64 p.hour)])) = some [.v (.int .i64 n)] := by
        have : k = 0 ∨ k = 1 ∨ k = 2 := by omega
        rcases this with rfl | rfl | rfl
        · exact ⟨p.sheet, rfl⟩
        · exact ⟨p.colour, rfl⟩
        · exact ⟨p.hour, rfl⟩
      obtain ⟨n, hn⟩ := hex
      obtain ⟨key1, key2⟩ := key n hn
      rw [hn]
      clear hn key
      simp only [↓sx0, sxE, encs, sevalprocAttr]
      refine CallI.fn (within_s n 0 1000000) (by simp only [sx3, encs, sxR, sevalprocAttr] <;> (try simp) <;> (try rfl)) ?_
      simp only [↓sx0, sxE, encs, sevalprocAttr]
      refine BrW.dec (fun hn => ?_) (fun hn => ?_)
      · simp only [↓sx0, sxE, encs, sevalprocAttr]
        (with_reducible refine Vc.go ?_ fun _ => ?_); focus (first | omega | (simp only [InK]; omega) | (simp [InK]; done) | (simp [InK]; omega))
        simp only [↓sx0, sxE, encs, sevalprocAttr]
        refine ⟨k + 1, StLe.auto (by simp only [sx2, encs, sxR, sevalprocAttr] <;> (try simp) <;> (try omega)), ?_, ?_⟩
        · exact key1 hn
        · omega
      · simp only [↓sx0, sxE, encs, sevalprocAttr]
        have := key2 hn
        refine EndW.fn ?_ ?_ <;> simp only [sx4, encs, kpLL_map, sxR, sevalprocAttr] <;> (try simp [h, this]) <;> (try omega)
    · simp only [↓sx0, sxE, encs, sevalprocAttr]
      have hke : k = 3 := by omega
      subst hke
      have hp : PrOk p := ⟨t0 (by omega), t1 (by omega), t2 (by omega)⟩
      have hb := estim_b (runErr_ok h) hp
      refine DrawW.plan Tok mixed (.q 0 <| .q 1 <| .q 2 <| .q 3 <| .q 4 <| .q 5 <| .q 6 <| .q 7 <| .q 8 <| .q 9 <| .q 10 <| .q 11 <| .q 12 <| .q 14 <| .q 15 <| .e 13 [1, 3, 6, 9, 15] <| .q 16 <| .e 17 [1, 3, 6, 9] <| .q 18 <| .q 19 <| .q 20 <| .done) (by kernel_rfl) (by kernel_rfl) ?_
      simp only [↓sx0, sxE, encs, sevalprocAttr]
      repeat ((with_reducible refine Vc.go ?_ fun _ => ?_); (focus (first | omega | (simp only [InK]; omega) | (simp [InK]; done) | (simp [InK]; omega))); simp only [↓sx0, sxE, encs, sevalprocAttr])
      refine CallI.fn (minutes_s b x (runErr_ok h)) (by simp only [sx3, encs, sxR, sevalprocAttr] <;> (try simp) <;> (try rfl)) ?_
      simp only [↓sx0, sxE, encs, sevalprocAttr]
      repeat ((with_reducible refine Vc.go ?_ fun _ => ?_); (focus (first | omega | (simp only [InK]; omega) | (simp [InK]; done) | (simp [InK]; omega))); simp only [↓sx0, sxE, encs, sevalprocAttr])
      refine CallI.fn (up_s (runMin x * p.hour) 60 (by omega) (by omega) (by omega) (by omega)) (by simp only [sx3, encs, sxR, sevalprocAttr] <;> (try simp) <;> (try rfl)) ?_
      simp only [↓sx0, sxE, encs, sevalprocAttr]
      (with_reducible refine Vc.go ?_ fun _ => ?_); focus (first | omega | (simp only [InK]; omega) | (simp [InK]; done) | (simp [InK]; omega))
      simp only [↓sx0, sxE, encs, sevalprocAttr]
      refine EndW.fn ?_ ?_ <;> simp only [sx4, encs, kpLL_map, sxR, sevalprocAttr] <;> (try simp [h, hp, estim]) <;> (try omega)
theorem copyTexts_s (b : Bool) (l : List ByteArray) (hl : l.length ≤ 1000000) : Ctr Tryz.prog 24 [.sl b 1 (l.map eS)] (fun rr => rr = ⟨.sl true 1 (l.map eS), []⟩) := by
  refine Ctr.of (rs := [.tmp 2]) Tok true Tryz.func24 rfl rfl rfl rfl (by simp [ofDL]) (fun w0 kp => ?_)
  simp only [↓sx0, sxE, encs, sevalprocAttr]
  (with_reducible refine Vc.go ?_ fun _ => ?_); focus (first | omega | (simp only [InK]; omega) | (simp [InK]; done) | (simp [InK]; omega))
  simp only [↓sx0, sxE, encs, sevalprocAttr]
  refine EndW.fn ?_ ?_ <;> simp only [sx4, encs, kpLL_map, sxR, sevalprocAttr] <;> (try simp) <;> (try omega)
theorem copyRun_s (b : Bool) (x : Run) (hl : x.cols.length ≤ 1000000) : Ctr Tryz.prog 7 [rV b x] (fun rr => rr = ⟨rV true x, []⟩) := by
  refine Ctr.of (rs := [.cell 2 24]) Tok true Tryz.func7 rfl rfl rfl rfl (by simp [ofDL]) (fun w0 kp => ?_)
  simp only [↓sx0, sxE, encs, sevalprocAttr]
  refine CallI.fn (copyTexts_s b x.cols hl) (by simp only [sx3, encs, sxR, sevalprocAttr] <;> (try simp) <;> (try rfl)) ?_
  simp only [↓sx0, sxE, encs, sevalprocAttr]
  refine EndW.fn ?_ ?_ <;> simp only [sx4, encs, kpLL_map, sxR, sevalprocAttr] <;> (try simp) <;> (try omega)
def shortR (x : Run) : Bool := decide (x.job.size ≤ 30) && decide (x.cols.length ≤ 8) && x.cols.all fun s => decide (s.size ≤ 30)
theorem short_s (b : Bool) (x : Run) : Ctr Tryz.prog 5 [rV b x] (fun rr => rr = ⟨(.v (.bool (shortR x))), []⟩) := by
  refine Ctr.of (rs := [.tmp 2]) Tok true Tryz.func5 rfl rfl rfl rfl (by simp [ofDL]) (fun w0 kp => ?_)
  simp only [↓sx0, sxE, encs, sevalprocAttr]
  refine BrW.dec (fun h1 => ?_) (fun h1 => ?_)
  · simp only [↓sx0, sxE, encs, sevalprocAttr]
    have : shortR x = false := by simp [shortR]; omega
    refine EndW.fn ?_ ?_ <;> simp only [sx4, encs, kpLL_map, sxR, sevalprocAttr] <;> (try simp [this]) <;> (try omega)
  · simp only [↓sx0, sxE, encs, sevalprocAttr]
    refine BrW.dec (fun h2 => ?_) (fun h2 => ?_)
    · simp only [↓sx0, sxE, encs, sevalprocAttr]
      have : shortR x = false := by simp [shortR]; omega
      refine EndW.fn ?_ ?_ <;> simp only [sx4, encs, kpLL_map, sxR, sevalprocAttr] <;> (try simp [this]) <;> (try omega)
    · simp only [↓sx0, sxE, encs, sevalprocAttr]
      refine LoopW.comp [1, 3] (by simp only [sx2, encs, sxR, sevalprocAttr] <;> (try simp) <;> (try omega)) ?_
      simp only [sx2, sxR, sevalprocAttr]
      refine LoopW.up Tok (fun k : Nat => [(3, (.v (.int .i64 k)))]) (fun k => []) (fun k => []) (fun k => []) (fun k => k ≤ x.cols.length ∧ ∀ j (_ : j < k) (h2 : j < x.cols.length), x.cols[j].size ≤ 30) (fun k => x.cols.length - k) (0) (by simp only [sx2, encs, sxR, sevalprocAttr] <;> (try simp) <;> (try omega)) ?_ ?_
      · exact ⟨by omega, fun j h => absurd h (Nat.not_lt_zero _)⟩
      rintro k ⟨hk, ht⟩
      simp only [↓sx0, sxE, encs, sevalprocAttr]
      refine BrW.dec (fun hlt => ?_) (fun hlt => ?_)
      · simp only [↓sx0, sxE, encs, sevalprocAttr]
        have hlt : k < x.cols.length := by omega
        refine IxW.nat hlt ?_
        simp only [↓sx0, sxE, encs, sevalprocAttr]
        refine BrW.dec (fun h3 => ?_) (fun h3 => ?_)
        · simp only [↓sx0, sxE, encs, sevalprocAttr]
          have : shortR x = false := by
            rw [← Bool.not_eq_true]
            intro h
            simp only [shortR, Bool.and_eq_true, List.all_eq_true, decide_eq_true_eq] at h
            have := h.2 _ (List.getElem_mem hlt)
            omega
          refine EndW.fn ?_ ?_ <;> simp only [sx4, encs, kpLL_map, sxR, sevalprocAttr] <;> (try simp [this]) <;> (try omega)
        · simp only [↓sx0, sxE, encs, sevalprocAttr]
          (with_reducible refine Vc.go ?_ fun _ => ?_); focus (first | omega | (simp only [InK]; omega) | (simp [InK]; done) | (simp [InK]; omega))
          simp only [↓sx0, sxE, encs, sevalprocAttr]
          refine ⟨k + 1, StLe.auto (by simp only [sx2, encs, sxR, sevalprocAttr] <;> (try simp) <;> (try omega)), ?_, ?_⟩
          · refine ⟨hlt, fun j h h2 => ?_⟩
            by_cases e : j = k
            · subst e; omega
            · exact ht j (by omega) h2
          · omega
      · simp only [↓sx0, sxE, encs, sevalprocAttr]
        have hke : k = x.cols.length := by omega
        subst hke
        have : shortR x = true := by
          simp only [shortR, Bool.and_eq_true, List.all_eq_true, decide_eq_true_eq]
          refine ⟨⟨by omega, by omega⟩, fun s hs => ?_⟩
          obtain ⟨j, h1, rfl⟩ := List.getElem_of_mem hs
          exact ht j h1 h1
        refine EndW.fn ?_ ?_ <;> simp only [sx4, encs, kpLL_map, sxR, sevalprocAttr] <;> (try simp [this]) <;> (try omega)
end Go.Proofs.YtfojggadhhaleaaGreatDoor
/-
  Chapter 9, walks: divisors, powers, comparing.
-/
namespace Go.Proofs.YtfojggadhhaleaaGreatDoor
open Go Go.Vx
set_option linter.unusedSimpArgs false
set_option maxRecDepth 20000
theorem gcd_step (a b : Int) : Int.gcd b (a.tmod b) = Int.gcd a b := by
  unfold Int.gcd
  rw [Int.natAbs_tmod, Nat.gcd_comm b.natAbs, ← Nat.gcd_rec, Nat.gcd_comm]
theorem tmod_lt (a b : Int) (h : b ≠ 0) : (a.tmod b).natAbs < b.natAbs := by
  rw [Int.natAbs_tmod]; exact Nat.mod_lt _ (by omega)
theorem gcd_zero_max (a : Int) : (Int.gcd a 0 : Int) = max a (-a) := by
  unfold Int.gcd; simp; omega
theorem divisor_s (a b : Int) (hb : 1 ≤ b) (hb2 : b ≤ 9223372036854775807) : Ctr Tryz.prog 41 [(.v (.int .i64 a)), (.v (.int .i64 b))] (fun rr => rr = ⟨(.v (.int .i64 ((Int.gcd a b : Int)))), []⟩) := by
  refine Ctr.of (rs := [.tmp 4]) Tok true Tryz.func41 rfl rfl rfl rfl (by simp [ofDL]) (fun w0 kp => ?_)
  simp only [↓sx0, sxE, encs, sevalprocAttr]
  refine LoopW.comp [0, 1] (by simp only [sx2, encs, sxR, sevalprocAttr] <;> (try simp) <;> (try omega)) ?_
  simp only [sx2, sxR, sevalprocAttr]
  refine LoopW.up Tok (fun p : Int × Int => [(0, (.v (.int .i64 p.1))), (1, (.v (.int .i64 p.2)))]) (fun p => []) (fun p => []) (fun p => []) (fun p => Int.gcd p.1 p.2 = Int.gcd a b ∧ (-9223372036854775807 ≤ p.2 ∧ p.2 ≤ 9223372036854775807) ∧ (p.2 = 0 → -9223372036854775807 ≤ p.1 ∧ p.1 ≤ 9223372036854775807)) (fun p => p.2.natAbs) ((a, b)) (by simp only [sx2, encs, sxR, sevalprocAttr] <;> (try simp) <;> (try omega)) ?_ ?_
  · exact ⟨rfl, by simp only; omega, by simp only; omega⟩
  rintro ⟨x, y⟩ ⟨hg, hy, hx⟩
  simp only at hg hy hx
  simp only [↓sx0, sxE, encs, sevalprocAttr]
  refine BrW.dec (fun h => ?_) (fun h => ?_)
  · simp only [↓sx0, sxE, encs, sevalprocAttr]
    refine DrawW.plan Tok mixed (.q 0 <| .q 1 <| .q 2 <| .q 3 <| .q 4 <| .q 5 <| .done) (by kernel_rfl) (by kernel_rfl) ?_
    simp only [↓sx0, sxE, encs, sevalprocAttr]
    (with_reducible refine Vc.go ?_ fun _ => ?_); focus (first | omega | (simp only [InK]; omega) | (simp [InK]; done) | (simp [InK]; omega))
    simp only [↓sx0, sxE, encs, sevalprocAttr]
    have := tmod_lt x y h
    refine ⟨(y, x.tmod y), StLe.auto (by simp only [sx2, encs, sxR, sevalprocAttr] <;> (try simp) <;> (try omega)), ?_, ?_⟩
    · exact ⟨(gcd_step x y).trans hg, by simp only; omega, fun _ => by simp only; omega⟩
    · exact this
  · simp only [↓sx0, sxE, encs, sevalprocAttr]
    have h : y = 0 := by omega
    subst h
    have := hx rfl
    (with_reducible refine Vc.go ?_ fun _ => ?_); focus (first | omega | (simp only [InK]; omega) | (simp [InK]; done) | (simp [InK]; omega))
    simp only [↓sx0, sxE, encs, sevalprocAttr]
    have e : max x (-x) = (Int.gcd a b : Int) := by rw [← hg, gcd_zero_max]
    rw [e]
    refine EndW.fn ?_ ?_ <;> simp only [sx4, encs, kpLL_map, sxR, sevalprocAttr] <;> (try simp) <;> (try omega)
theorem ipow_succ (x k : Nat) : ((x ^ (k + 1) : Nat) : Int) = ((x ^ k : Nat) : Int) * (x : Int) := by rw [Nat.pow_succ]; simp
theorem power_s (x n : Nat) (hn : n ≤ 1000) (h : x ^ n ≤ 1000000000000000000) (hx : 1 ≤ x) : Ctr Tryz.prog 64 [(.v (.int .i64 ((x : Int)))), (.v (.int .i64 ((n : Int))))] (fun rr => rr = ⟨(.v (.int .i64 (((x ^ n : Nat) : Int)))), []⟩) := by
  have mono : ∀ k, k ≤ n → x ^ k ≤ 1000000000000000000 := fun k hk => Nat.le_trans (Nat.pow_le_pow_right hx hk) h
  refine Ctr.of (rs := [.tmp 4]) Tok true Tryz.func64 rfl rfl rfl rfl (by simp [ofDL]) (fun w0 kp => ?_)
  simp only [↓sx0, sxE, encs, sevalprocAttr]
  refine LoopW.comp [0, 5, 6, 7] (by simp only [sx2, encs, sxR, sevalprocAttr] <;> (try simp) <;> (try omega)) ?_
  simp only [sx2, sxR, sevalprocAttr]
  refine LoopW.up Tok (fun k : Nat => [(7, (.v (.int .i64 k))), (5, (.v (.int .i64 (((x ^ k : Nat) : Int)))))]) (fun k => []) (fun k => []) (fun k => []) (fun k => k ≤ n) (fun k => n - k) (0) (by simp only [sx2, encs, sxR, sevalprocAttr] <;> (try simp) <;> (try omega)) ?_ ?_
  · omega
  rintro k hk
  simp only [↓sx0, sxE, encs, sevalprocAttr]
  refine BrW.dec (fun hlt => ?_) (fun hlt => ?_)
  · simp only [↓sx0, sxE, encs, sevalprocAttr]
    have h1 := mono (k + 1) (by omega)
    have e := ipow_succ x k
    have h2 : (0 : Int) ≤ ((x ^ (k + 1) : Nat) : Int) := Int.natCast_nonneg _
    refine Vc.go (by rw [← e]; simp only [InK]; omega) fun _ => ?_
    rw [← e]
    simp only [↓sx0, sxE, encs, sevalprocAttr]
    repeat ((with_reducible refine Vc.go ?_ fun _ => ?_); (focus (first | omega | (simp only [InK]; omega) | (simp [InK]; done) | (simp [InK]; omega))); simp only [↓sx0, sxE, encs, sevalprocAttr])
    refine ⟨k + 1, StLe.auto (by simp only [sx2, encs, sxR, sevalprocAttr] <;> (try simp) <;> (try omega)), ?_, ?_⟩
    · omega
    · omega
  · simp only [↓sx0, sxE, encs, sevalprocAttr]
    have hke : k = n := by omega
    subst hke
    refine EndW.fn ?_ ?_ <;> simp only [sx4, encs, kpLL_map, sxR, sevalprocAttr] <;> (try simp) <;> (try omega)
theorem power0_s (n : Nat) (hn : n ≤ 1000) : Ctr Tryz.prog 64 [(.v (.int .i64 0)), (.v (.int .i64 ((n : Int))))] (fun rr => rr = ⟨(.v (.int .i64 (((0 ^ n : Nat) : Int)))), []⟩) := by
  refine Ctr.of (rs := [.tmp 4]) Tok true Tryz.func64 rfl rfl rfl rfl (by simp [ofDL]) (fun w0 kp => ?_)
  simp only [↓sx0, sxE, encs, sevalprocAttr]
  refine LoopW.comp [0, 5, 6, 7] (by simp only [sx2, encs, sxR, sevalprocAttr] <;> (try simp) <;> (try omega)) ?_
  simp only [sx2, sxR, sevalprocAttr]
  refine LoopW.up Tok (fun k : Nat => [(7, (.v (.int .i64 k))), (5, (.v (.int .i64 (((0 ^ k : Nat) : Int)))))]) (fun k => []) (fun k => []) (fun k => []) (fun k => k ≤ n) (fun k => n - k) (0) (by simp only [sx2, encs, sxR, sevalprocAttr] <;> (try simp) <;> (try omega)) ?_ ?_
  · omega
  rintro k hk
  simp only [↓sx0, sxE, encs, sevalprocAttr]
  refine BrW.dec (fun hlt => ?_) (fun hlt => ?_)
  · simp only [↓sx0, sxE, encs, sevalprocAttr]
    have e := ipow_succ 0 k
    have e0 : ((0 ^ (k + 1) : Nat) : Int) = 0 := by simp
    refine Vc.go (by simp only [InK]; simp) fun _ => ?_
    have e1 : ((0 ^ k : Nat) : Int) * 0 = ((0 ^ (k + 1) : Nat) : Int) := by simp
    rw [e1]
    simp only [↓sx0, sxE, encs, sevalprocAttr]
    repeat ((with_reducible refine Vc.go ?_ fun _ => ?_); (focus (first | omega | (simp only [InK]; omega) | (simp [InK]; done) | (simp [InK]; omega))); simp only [↓sx0, sxE, encs, sevalprocAttr])
    refine ⟨k + 1, StLe.auto (by simp only [sx2, encs, sxR, sevalprocAttr] <;> (try simp) <;> (try omega)), ?_, ?_⟩
    · omega
    · omega
  · simp only [↓sx0, sxE, encs, sevalprocAttr]
    have hke : k = n := by omega
    subst hke
    refine EndW.fn ?_ ?_ <;> simp only [sx4, encs, kpLL_map, sxR, sevalprocAttr] <;> (try simp) <;> (try omega)
theorem powerA_s (x n : Nat) (hn : n ≤ 1000) (h : x ^ n ≤ 1000000000000000000) : Ctr Tryz.prog 64 [(.v (.int .i64 ((x : Int)))), (.v (.int .i64 ((n : Int))))] (fun rr => rr = ⟨(.v (.int .i64 (((x ^ n : Nat) : Int)))), []⟩) := by
  by_cases hx : 1 ≤ x
  · exact power_s x n hn h hx
  · have : x = 0 := by omega
    subst this
    exact power0_s n hn
def cmpF (n d m k : Int) : Int := if n * k < m * d then -1 else if n * k = m * d then 0 else 1
end Go.Proofs.YtfojggadhhaleaaGreatDoor
/-
  Chapter 9, walks: chances.
-/
namespace Go.Proofs.YtfojggadhhaleaaGreatDoor
open Go Go.Vx
set_option linter.unusedSimpArgs false
set_option linter.unusedVariables false
set_option maxRecDepth 20000
def chErr (num den most : Int) : Int := if 1 ≤ den ∧ Int.gcd num den = 1 then (if (0 ≤ num ∧ num ≤ den) ∧ den ≤ most then 0 else 2) else 3
theorem checkChance_s (num den most : Int) (hd : den ≤ 9223372036854775807) : Ctr Tryz.prog 39 [.agg [(.v (.int .i64 num)), (.v (.int .i64 den))], (.v (.int .i64 most))] (fun rr => rr = ⟨(.v (.int .i64 (chErr num den most))), []⟩) := by
  refine Ctr.of (rs := [.tmp 4]) Tok true Tryz.func39 rfl rfl rfl rfl (by simp [ofDL]) (fun w0 kp => ?_)
  simp only [↓sx0, sxE, encs, sevalprocAttr]
  refine BrW.dec (fun h1 => ?_) (fun h1 => ?_)
  · simp only [↓sx0, sxE, encs, sevalprocAttr]
    have h1 : ¬ 1 ≤ den := by omega
    refine EndW.fn ?_ ?_ <;> simp only [sx4, encs, kpLL_map, sxR, sevalprocAttr] <;> (try simp [chErr, h1]) <;> (try omega)
  · simp only [↓sx0, sxE, encs, sevalprocAttr]
    have h1 : 1 ≤ den := by omega
    refine CallI.fn (divisor_s num den h1 hd) (by simp only [sx3, encs, sxR, sevalprocAttr] <;> (try simp) <;> (try rfl)) ?_
    simp only [↓sx0, sxE, encs, sevalprocAttr]
    refine BrW.dec (fun h2 => ?_) (fun h2 => ?_)
    · simp only [↓sx0, sxE, encs, sevalprocAttr]
      have h2 : ¬ Int.gcd num den = 1 := by omega
      refine EndW.fn ?_ ?_ <;> simp only [sx4, encs, kpLL_map, sxR, sevalprocAttr] <;> (try simp [chErr, h1, h2]) <;> (try omega)
    · simp only [↓sx0, sxE, encs, sevalprocAttr]
      have h2 : Int.gcd num den = 1 := by omega
      refine CallI.fn (within_s num 0 den) (by simp only [sx3, encs, sxR, sevalprocAttr] <;> (try simp) <;> (try rfl)) ?_
      simp only [↓sx0, sxE, encs, sevalprocAttr]
      refine BrW.dec (fun h3 => ?_) (fun h3 => ?_)
      · simp only [↓sx0, sxE, encs, sevalprocAttr]
        refine BrW.dec (fun h4 => ?_) (fun h4 => ?_)
        · simp only [↓sx0, sxE, encs, sevalprocAttr]
          have h4 : ¬ den ≤ most := by omega
          refine EndW.fn ?_ ?_ <;> simp only [sx4, encs, kpLL_map, sxR, sevalprocAttr] <;> (try simp [chErr, h1, h2, h3, h4]) <;> (try omega)
        · simp only [↓sx0, sxE, encs, sevalprocAttr]
          have h4 : den ≤ most := by omega
          refine EndW.fn ?_ ?_ <;> simp only [sx4, encs, kpLL_map, sxR, sevalprocAttr] <;> (try simp [chErr, h1, h2, h3, h4]) <;> (try omega)
      · simp only [↓sx0, sxE, encs, sevalprocAttr]
        refine EndW.fn ?_ ?_ <;> simp only [sx4, encs, kpLL_map, sxR, sevalprocAttr] <;> (try simp [chErr, h1, h2, h3]) <;> (try omega)
theorem natCast_sub2 (p q : Nat) : ((p + q : Nat) : Int) - (q : Int) = (p : Int) := by omega
theorem chance_s (n p q g : Nat) (hn : n ≤ 17) (hg : g ≤ 100) (h : SpOk p q) : Ctr Tryz.prog 40 [(.v (.int .i64 ((n : Int)))), (.v (.int .i64 ((g : Int)))), .agg [(.v (.int .i64 ((q : Int)))), (.v (.int .i64 (((p + q : Nat) : Int))))]] (fun rr => rr = ⟨.tup [(.v (.int .i64 (((psC n p q g (n + 1) : Nat) : Int)))), (.v (.int .i64 ((((p + q) ^ n : Nat) : Int))))], []⟩) := by
  have hf := chk_facts hn h
  have hpq := h.hi
  have e1 := natCast_sub2 p q
  refine Ctr.of (rs := [.tmp 6, .tmp 7]) Tok true Tryz.func40 rfl rfl rfl rfl (by simp [ofDL]) (fun w0 kp => ?_)
  simp only [↓sx0, sxE, encs, sevalprocAttr]
  refine LoopW.comp [0, 1, 5, 8, 9, 10] (by simp only [sx2, encs, sxR, sevalprocAttr] <;> (try simp) <;> (try omega)) ?_
  simp only [sx2, sxR, sevalprocAttr]
  refine LoopW.up Tok (fun k : Nat => [(10, (.v (.int .i64 k))), (8, (.v (.int .i64 (((wy n k : Nat) : Int))))), (9, (.v (.int .i64 (((psC n p q g k : Nat) : Int)))))]) (fun k => []) (fun k => []) (fun k => []) (fun k => k ≤ n + 1) (fun k => n + 1 - k) (0) (by simp only [sx2, encs, sxR, sevalprocAttr] <;> (try simp [wy, psC, encs]) <;> (try omega)) ?_ ?_
  · omega
  rintro k hk
  simp only [↓sx0, sxE, encs, sevalprocAttr]
  refine BrW.dec (fun hlt => ?_) (fun hlt => ?_)
  · simp only [↓sx0, sxE, encs, sevalprocAttr]
    have hlt : k ≤ n := by omega
    have hw := hf.1 k hlt
    have ek : ((n : Int) - (k : Int)) = ((n - k : Nat) : Int) := by omega
    have ew : ((wy n k : Nat) : Int) * ((n - k : Nat) : Int) = ((wy n k * (n - k) : Nat) : Int) := by simp
    have eq : ((wy n k * (n - k) : Nat) : Int).tdiv ((k : Int) + 1) = ((wy n (k + 1) : Nat) : Int) := by
      rw [Int.tdiv_eq_ediv_of_nonneg (Int.natCast_nonneg _)]
      show _ = ((wy n k * (n - k) / (k + 1) : Nat) : Int)
      simp
    have hw2 : wy n (k + 1) ≤ 1000000000000000000 := Nat.le_trans (Nat.div_le_self _ _) hw.1
    have hs := psC_b (g := g) (k := k + 1) hn h (by omega)
    have hs0 := psC_b (g := g) (k := k) hn h (by omega)
    refine BrW.dec (fun hgk => ?_) (fun hgk => ?_)
    · simp only [↓sx0, sxE, encs, sevalprocAttr]
      have hgk : g ≤ k := by omega
      have ep : psC n p q g (k + 1) = psC n p q g k + tmC n p q k := by simp [psC, hgk]
      refine DrawW.plan Tok mixed (.q 0 <| .q 1 <| .q 2 <| .q 3 <| .q 4 <| .q 5 <| .q 6 <| .q 7 <| .q 10 <| .q 11 <| .q 12 <| .q 13 <| .q 14 <| .e 8 [11] <| .q 9 <| .e 15 [] <| .q 16 <| .q 17 <| .q 18 <| .done) (by kernel_rfl) (by kernel_rfl) ?_
      simp only [↓sx0, sxE, encs, sevalprocAttr]
      rw [e1]
      repeat ((with_reducible refine Vc.go ?_ fun _ => ?_); (focus (first | omega | (simp only [InK]; omega) | (simp [InK]; done) | (simp [InK]; omega))); simp only [↓sx0, sxE, encs, sevalprocAttr])
      rw [ek]
      refine CallI.fn (powerA_s p k (by omega) (Nat.le_trans (pow_b hn h hlt p (by omega)) (by omega))) (by simp only [sx3, encs, sxR, sevalprocAttr] <;> (try simp) <;> (try rfl)) ?_
      simp only [↓sx0, sxE, encs, sevalprocAttr]
      have em : ((wy n k : Nat) : Int) * ((p ^ k : Nat) : Int) = ((wy n k * p ^ k : Nat) : Int) := by simp
      rw [em]
      repeat ((with_reducible refine Vc.go ?_ fun _ => ?_); (focus (first | omega | (simp only [InK]; omega) | (simp [InK]; done) | (simp [InK]; omega))); simp only [↓sx0, sxE, encs, sevalprocAttr])
      refine CallI.fn (powerA_s q (n - k) (by omega) (Nat.le_trans (pow_b hn h (by omega) q (by omega)) (by omega))) (by simp only [sx3, encs, sxR, sevalprocAttr] <;> (try simp) <;> (try rfl)) ?_
      simp only [↓sx0, sxE, encs, sevalprocAttr]
      have et : ((wy n k * p ^ k : Nat) : Int) * ((q ^ (n - k) : Nat) : Int) = ((tmC n p q k : Nat) : Int) := by simp [tmC]
      rw [et]
      have ht := tmC_b hn h hlt
      repeat ((with_reducible refine Vc.go ?_ fun _ => ?_); (focus (first | omega | (simp only [InK]; omega) | (simp [InK]; done) | (simp [InK]; omega))); simp only [↓sx0, sxE, encs, sevalprocAttr])
      have es : ((psC n p q g k : Nat) : Int) + ((tmC n p q k : Nat) : Int) = ((psC n p q g (k + 1) : Nat) : Int) := by rw [ep]; simp
      rw [es]
      repeat ((with_reducible refine Vc.go ?_ fun _ => ?_); (focus (first | omega | (simp only [InK]; omega) | (simp [InK]; done) | (simp [InK]; omega))); simp only [↓sx0, sxE, encs, sevalprocAttr])
      rw [ek, ew]
      (with_reducible refine Vc.go ?_ fun _ => ?_); focus (first | omega | (simp only [InK]; omega) | (simp [InK]; done) | (simp [InK]; omega))
      simp only [↓sx0, sxE, encs, sevalprocAttr]
      (with_reducible refine Vc.go ?_ fun _ => ?_); focus (first | omega | (simp only [InK]; omega) | (simp [InK]; done) | (simp [InK]; omega))
      simp only [↓sx0, sxE, encs, sevalprocAttr]
      refine Vc.go ⟨by omega, by rw [eq]; simp only [InK]; omega⟩ fun _ => ?_
      rw [eq]
      simp only [↓sx0, sxE, encs, sevalprocAttr]
      repeat ((with_reducible refine Vc.go ?_ fun _ => ?_); (focus (first | omega | (simp only [InK]; omega) | (simp [InK]; done) | (simp [InK]; omega))); simp only [↓sx0, sxE, encs, sevalprocAttr])
      refine ⟨k + 1, StLe.auto (by simp only [sx2, encs, sxR, sevalprocAttr] <;> (try simp) <;> (try omega)), ?_, ?_⟩
      · omega
      · omega
    · simp only [↓sx0, sxE, encs, sevalprocAttr]
      have hgk : ¬ g ≤ k := by omega
      have ep : psC n p q g (k + 1) = psC n p q g k := by simp [psC, hgk]
      rw [← ep]
      (with_reducible refine Vc.go ?_ fun _ => ?_); focus (first | omega | (simp only [InK]; omega) | (simp [InK]; done) | (simp [InK]; omega))
      simp only [↓sx0, sxE, encs, sevalprocAttr]
      rw [ek, ew]
      (with_reducible refine Vc.go ?_ fun _ => ?_); focus (first | omega | (simp only [InK]; omega) | (simp [InK]; done) | (simp [InK]; omega))
      simp only [↓sx0, sxE, encs, sevalprocAttr]
      (with_reducible refine Vc.go ?_ fun _ => ?_); focus (first | omega | (simp only [InK]; omega) | (simp [InK]; done) | (simp [InK]; omega))
      simp only [↓sx0, sxE, encs, sevalprocAttr]
      refine Vc.go ⟨by omega, by rw [eq]; simp only [InK]; omega⟩ fun _ => ?_
      rw [eq]
      simp only [↓sx0, sxE, encs, sevalprocAttr]
      repeat ((with_reducible refine Vc.go ?_ fun _ => ?_); (focus (first | omega | (simp only [InK]; omega) | (simp [InK]; done) | (simp [InK]; omega))); simp only [↓sx0, sxE, encs, sevalprocAttr])
      refine ⟨k + 1, StLe.auto (by simp only [sx2, encs, sxR, sevalprocAttr] <;> (try simp) <;> (try omega)), ?_, ?_⟩
      · omega
      · omega
  · simp only [↓sx0, sxE, encs, sevalprocAttr]
    have hke : k = n + 1 := by omega
    subst hke
    refine CallI.fn (powerA_s (p + q) n (by omega) (Nat.le_trans hf.2.2 (by omega))) (by simp only [sx3, encs, sxR, sevalprocAttr] <;> (try simp) <;> (try rfl)) ?_
    simp only [↓sx0, sxE, encs, sevalprocAttr]
    refine EndW.fn ?_ ?_ <;> simp only [sx4, encs, kpLL_map, sxR, sevalprocAttr] <;> (try simp) <;> (try omega)
def srV (n g q p : Nat) : SV := .agg [(.v (.int .i64 ((n : Int)))), (.v (.int .i64 ((g : Int)))), (.v (.int .i64 ((q : Int)))), (.v (.int .i64 (((p + q : Nat) : Int))))]
end Go.Proofs.YtfojggadhhaleaaGreatDoor
/-
  Chapter 9, walks: chances, lowest terms.
-/
namespace Go.Proofs.YtfojggadhhaleaaGreatDoor
open Go Go.Vx
set_option linter.unusedSimpArgs false
set_option linter.unusedVariables false
set_option maxRecDepth 20000
theorem chErr_ok {num den most : Int} (h : chErr num den most = 0) (hm : most ≤ 10) : ∃ p q : Nat, num = (q : Int) ∧ den = ((p + q : Nat) : Int) ∧ SpOk p q := by
  unfold chErr at h
  split at h
  · rename_i h1
    split at h
    · rename_i h2
      refine ⟨(den - num).toNat, num.toNat, by omega, by omega, by omega, by omega, ?_⟩
      have h3 := h1.2
      unfold Int.gcd at h3
      have e1 : num.natAbs = num.toNat := by omega
      have e2 : den.natAbs = (den - num).toNat + num.toNat := by omega
      rw [e1, e2] at h3
      exact h3
    · omega
  · omega
/-- in lowest terms. -/
def lowN (n d : Nat) : Int := ((n / Nat.gcd n d : Nat) : Int)
def lowD (n d : Nat) : Int := ((d / Nat.gcd n d : Nat) : Int)
theorem gcd_nat (n d : Nat) : Int.gcd (n : Int) (d : Int) = Nat.gcd n d := rfl
theorem low_n {n d : Nat} (hd : 1 ≤ d) : (n : Int).tdiv ((Nat.gcd n d : Nat) : Int) = lowN n d := by
  rw [Int.tdiv_eq_ediv_of_nonneg (Int.natCast_nonneg _)]; unfold lowN; simp
theorem low_d {n d : Nat} (hd : 1 ≤ d) : (d : Int).tdiv ((Nat.gcd n d : Nat) : Int) = lowD n d := by
  rw [Int.tdiv_eq_ediv_of_nonneg (Int.natCast_nonneg _)]; unfold lowD; simp
theorem low_b (n d : Nat) : 0 ≤ lowN n d ∧ lowN n d ≤ (n : Int) ∧ 0 ≤ lowD n d ∧ lowD n d ≤ (d : Int) := by
  have h1 := Nat.div_le_self n (Nat.gcd n d)
  have h2 := Nat.div_le_self d (Nat.gcd n d)
  exact ⟨Int.natCast_nonneg _, Int.ofNat_le.2 h1, Int.natCast_nonneg _, Int.ofNat_le.2 h2⟩
def shErr (n g num den : Int) : Int := if (0 ≤ n ∧ n ≤ 17) ∧ (0 ≤ g ∧ g ≤ n) then chErr num den 10 else 2
def shV (n g num den : Int) : SV := .agg [(.v (.int .i64 n)), (.v (.int .i64 g)), (.v (.int .i64 num)), (.v (.int .i64 den))]
theorem shV_eq (n g num den : Int) : shV n g num den = .agg [(.v (.int .i64 n)), (.v (.int .i64 g)), (.v (.int .i64 num)), (.v (.int .i64 den))] := rfl
/-- the chance of right sheets. -/
def chN (n g num den : Int) : Int := lowN (psC n.toNat (den - num).toNat num.toNat g.toNat (n.toNat + 1)) (((den - num).toNat + num.toNat) ^ n.toNat)
def chD (n g num den : Int) : Int := lowD (psC n.toNat (den - num).toNat num.toNat g.toNat (n.toNat + 1)) (((den - num).toNat + num.toNat) ^ n.toNat)
theorem chanceOf_s (n g num den : Int) (hd : den ≤ 9223372036854775807) : Ctr Tryz.prog 15 [shV n g num den] (fun rr => rr = ⟨.tup [.agg [(.v (.int .i64 (if shErr n g num den = 0 then chN n g num den else 0))), (.v (.int .i64 (if shErr n g num den = 0 then chD n g num den else 0)))], (.v (.int .i64 (shErr n g num den)))], []⟩) := by
  have encs := And.intro encs shV_eq
  refine Ctr.of (rs := [.cell 2 42, .tmp 3]) Tok true Tryz.func15 rfl rfl rfl rfl (by simp [ofDL]) (fun w0 kp => ?_)
  simp only [↓sx0, sxE, encs, sevalprocAttr]
  refine CallI.fn (within_s n 0 17) (by simp only [sx3, encs, sxR, sevalprocAttr] <;> (try simp) <;> (try rfl)) ?_
  simp only [↓sx0, sxE, encs, sevalprocAttr]
  refine BrW.dec (fun h1 => ?_) (fun h1 => ?_)
  · simp only [↓sx0, sxE, encs, sevalprocAttr]
    refine CallI.fn (within_s g 0 n) (by simp only [sx3, encs, sxR, sevalprocAttr] <;> (try simp) <;> (try rfl)) ?_
    simp only [↓sx0, sxE, encs, sevalprocAttr]
    refine BrW.dec (fun h2 => ?_) (fun h2 => ?_)
    · simp only [↓sx0, sxE, encs, sevalprocAttr]
      refine CallI.fn (checkChance_s num den 10 hd) (by simp only [sx3, encs, sxR, sevalprocAttr] <;> (try simp) <;> (try rfl)) ?_
      simp only [↓sx0, sxE, encs, sevalprocAttr]
      have e0 : shErr n g num den = chErr num den 10 := by simp [shErr, h1, h2]
      refine BrW.dec (fun h3 => ?_) (fun h3 => ?_)
      · simp only [↓sx0, sxE, encs, sevalprocAttr]
        refine EndW.fn ?_ ?_ <;> simp only [sx4, encs, kpLL_map, sxR, sevalprocAttr] <;> (try simp [e0, h3]) <;> (try omega)
      · simp only [↓sx0, sxE, encs, sevalprocAttr]
        have h3 : chErr num den 10 = 0 := Decidable.not_not.1 h3
        obtain ⟨p, q, rfl, rfl, hsp⟩ := chErr_ok h3 (by omega)
        obtain ⟨n, rfl⟩ : ∃ m : Nat, n = m := ⟨n.toNat, by omega⟩
        obtain ⟨g, rfl⟩ : ∃ m : Nat, g = m := ⟨g.toNat, by omega⟩
        have hn : n ≤ 17 := by omega
        have hf := chk_facts hn hsp
        have hpos : 1 ≤ (p + q) ^ n := Nat.one_le_pow _ _ (by have := hsp.lo; omega)
        have hps := psC_b (g := g) (k := n + 1) hn hsp (Nat.le_refl _)
        refine CallI.fn (chance_s n p q g hn (by omega) hsp) (by simp only [sx3, encs, sxR, sevalprocAttr] <;> (try simp) <;> (try rfl)) ?_
        simp only [↓sx0, sxE, encs, sevalprocAttr]
        refine CallI.fn (divisor_s ((psC n p q g (n + 1) : Nat) : Int) (((p + q) ^ n : Nat) : Int) (by omega) (by omega)) (by simp only [sx3, encs, sxR, sevalprocAttr] <;> (try simp) <;> (try rfl)) ?_
        simp only [↓sx0, sxE, encs, sevalprocAttr]
        rw [gcd_nat]
        refine DrawW.plan Tok mixed (.q 0 <| .q 1 <| .q 2 <| .q 3 <| .q 4 <| .q 5 <| .q 6 <| .e 7 [] <| .q 8 <| .done) (by kernel_rfl) (by kernel_rfl) ?_
        simp only [↓sx0, sxE, encs, sevalprocAttr]
        have hb := low_b (psC n p q g (n + 1)) ((p + q) ^ n)
        have hg : Nat.gcd (psC n p q g (n + 1)) ((p + q) ^ n) ≠ 0 := fun e => by have := Nat.gcd_eq_zero_iff.1 e; omega
        rw [low_n hpos]
        refine Vc.go ⟨by omega, by simp only [InK]; omega⟩ fun _ => ?_
        simp only [↓sx0, sxE, encs, sevalprocAttr]
        rw [low_d hpos]
        refine Vc.go ⟨by omega, by simp only [InK]; omega⟩ fun _ => ?_
        simp only [↓sx0, sxE, encs, sevalprocAttr]
        have e1 : chN n g q ((p + q : Nat) : Int) = lowN (psC n p q g (n + 1)) ((p + q) ^ n) := by
          unfold chN; simp only [natCast_sub2, Int.toNat_natCast]
        have e2 : chD n g q ((p + q : Nat) : Int) = lowD (psC n p q g (n + 1)) ((p + q) ^ n) := by
          unfold chD; simp only [natCast_sub2, Int.toNat_natCast]
        rw [← e1, ← e2]
        have e3 : shErr (n : Int) (g : Int) (q : Int) ((p + q : Nat) : Int) = 0 := e0.trans h3
        refine EndW.fn ?_ ?_ <;> simp only [sx4, encs, kpLL_map, sxR, sevalprocAttr] <;> (try simp [e3, -Int.natCast_add]) <;> (try omega)
    · simp only [↓sx0, sxE, encs, sevalprocAttr]
      have e0 : shErr n g num den = 2 := by simp [shErr, h2]
      refine EndW.fn ?_ ?_ <;> simp only [sx4, encs, kpLL_map, sxR, sevalprocAttr] <;> (try simp [e0]) <;> (try omega)
  · simp only [↓sx0, sxE, encs, sevalprocAttr]
    have e0 : shErr n g num den = 2 := by simp [shErr, h1]
    refine EndW.fn ?_ ?_ <;> simp only [sx4, encs, kpLL_map, sxR, sevalprocAttr] <;> (try simp [e0]) <;> (try omega)
end Go.Proofs.YtfojggadhhaleaaGreatDoor
/-
  Chapter 9, walks: the orders.
-/
namespace Go.Proofs.YtfojggadhhaleaaGreatDoor
open Go Go.Vx
set_option linter.unusedSimpArgs false
set_option linter.unusedVariables false
set_option maxRecDepth 20000
theorem clone_s (b : Bool) (els : List (List D)) (hk : kpLL els) (hl : els.length ≤ 1000000) : Ctr Tryz.prog 70 [.sl b 1 els] (fun rr => rr = ⟨.row 0, [.own 3 1 els]⟩) := by
  refine Ctr.of (rs := [.tmp 2]) Tok false Tryz.func70 rfl rfl rfl rfl (by simp [ofDL]) (fun w0 kp => ?_)
  simp only [↓sx0, sxE, encs, sevalprocAttr]
  intro z hz
  refine BrW.of (fun h => ?_) (fun h => ?_)
  · simp only [↓sx0, sxE, encs, sevalprocAttr]
    rw [hz h]
    exact EndW.r [none] (by simp) (by simp only [sx4, sxF, encs, kpLL_map, sxR, sevalprocAttr] <;> simp) (by simp only [sx4, sxF, encs, kpLL_map, sxR, sevalprocAttr] <;> simp) (by simp only [sx4, sxF, encs, kpLL_map, sxR, sevalprocAttr] <;> simp) (by simp only [sx4, sxF, encs, kpLL_map, sxR, sevalprocAttr] <;> simp)
  · simp only [↓sx0, sxE, encs, sevalprocAttr]
    (with_reducible refine Vc.go ?_ fun _ => ?_); focus (first | omega | (simp only [InK]; omega) | (simp [InK]; done) | (simp [InK]; omega))
    simp only [↓sx0, sxE, encs, sevalprocAttr]
    exact EndW.r [some 1] (by simp) (by simp only [sx4, sxF, encs, kpLL_map, sxR, sevalprocAttr] <;> simp [hk]) (by simp only [sx4, sxF, encs, kpLL_map, sxR, sevalprocAttr] <;> simp [hk]) (by simp only [sx4, sxF, encs, kpLL_map, sxR, sevalprocAttr] <;> simp [hk]) (by simp only [sx4, sxF, encs, kpLL_map, sxR, sevalprocAttr] <;> simp [hk])
/-- all orders of numbers below 'n' that begin so; 'm' are left. -/
def ordL (n : Nat) : Nat → List Int → List (List Int)
  | 0, head => [head]
  | m + 1, head => (List.range n).flatMap fun i : Nat => if memB (i : Int) head = true then [] else ordL n m (head ++ [(i : Int)])
def eO (o : List Int) : List SV := [.sl true 1 (o.map eI)]
def ordC (head : List Int) (n : Int) : List SV := [.pt true [.sl true 1 (head.map eI)], .pt true [.v (.int .i64 n)]]
theorem orders_s (head : List Int) (n : Int) : Ctr Tryz.prog 43 [.sl true 1 (head.map eI), (.v (.int .i64 n))] (fun rr => rr = ⟨.clo 68 (ordC head n), []⟩) := by
  have encs := And.intro encs (show ∀ head n, ordC head n = [.pt true [.sl true 1 (head.map eI)], .pt true [.v (.int .i64 n)]] from fun _ _ => rfl)
  refine Ctr.ofB (rs := [.tmp 4]) Tok Tryz.func43 rfl rfl rfl rfl (by simp [ofDL]) (fun w0 kp => ?_)
  simp only [↓sx0, sxE, encs, sevalprocAttr]
  simp only [endY, boxV, boxL, bxPs, bxPs.bx1, bxD, assB, ptB, bxV, bxL, toDL, toD, consO, vD, oneV, dedN, addN, memN, sxL, sx2, encs, sxR, sevalprocAttr]
  exact EndW.fn (by simp only [sx4, encs, kpLL_map, sxR, sevalprocAttr] <;> (try simp) <;> (try omega)) (by simp only [sx4, encs, kpLL_map, sxR, sevalprocAttr] <;> (try simp) <;> (try omega))
def pcL (n m : Nat) (head : List Int) (i : Nat) : List (List Int) := if memB (i : Int) head = true then [] else ordL n m (head ++ [(i : Int)])
def ysL (n m : Nat) (head : List Int) (k : Nat) : List (List Int) := (List.range k).flatMap (pcL n m head)
theorem ysL_succ (n m : Nat) (head : List Int) (k : Nat) : ysL n m head (k + 1) = ysL n m head k ++ pcL n m head k := by simp [ysL, List.range_succ]
theorem ysL_all (n m : Nat) (head : List Int) : ysL n m head n = ordL n (m + 1) head := rfl
theorem ysL_le {n m : Nat} {head : List Int} : ∀ {k j : Nat}, k ≤ j → ysL n m head k <+: ysL n m head j
  | k, j, h => by
    induction h with
    | refl => exact List.prefix_rfl
    | step _ ih => exact ih.trans (by rw [ysL_succ]; exact List.prefix_append _ _)
theorem ordersIt_s (n : Nat) (hn : n ≤ 1000) : ∀ (m : Nat) (head : List Int), head.length + m = n → ItCtr Tryz.prog 68 (ordC head (n : Int)) ((ordL n m head).map eO)
  | 0, head, hm => by
    have encs := And.intro encs (show ∀ head n, ordC head n = [.pt true [.sl true 1 (head.map eI)], .pt true [.v (.int .i64 n)]] from fun _ _ => rfl)
    refine ItCtr.of Tok Tryz.func68 rfl rfl rfl rfl (by simp [ofDL, encs]) (fun w0 kp yd hok => ?_)
    simp only [↓sx0, sxE, encs, sevalprocAttr]
    refine BrW.yes (by omega) ?_
    simp only [↓sx0, sxE, encs, sevalprocAttr]
    refine YldI.of (ys := []) hok rfl rfl (by simp only [sx2, sxA, encs, sxR, sevalprocAttr] <;> rfl) (by simp only [sx2, sxA, encs, sxR, sevalprocAttr] <;> rfl) rfl rfl rfl (by simp [ordL, eO]) ?_ ?_
    · simp only [↓sx0, sxE, encs, sevalprocAttr]
      intro _
      simp [ordL, eO]
    · simp only [↓sx0, sxE, encs, sevalprocAttr]
      intro h
      cases h
  | m + 1, head, hm => by
    have encs := And.intro encs (show ∀ head n, ordC head n = [.pt true [.sl true 1 (head.map eI)], .pt true [.v (.int .i64 n)]] from fun _ _ => rfl)
    refine ItCtr.of Tok Tryz.func68 rfl rfl rfl rfl (by simp [ofDL, encs]) (fun w0 kp yd hok => ?_)
    simp only [↓sx0, sxE, encs, sevalprocAttr]
    refine BrW.no (by omega) ?_
    simp only [↓sx0, sxE, encs, sevalprocAttr]
    refine LoopW.comp [1, 2, 3, 5, 13, 14, 27, 28, 29, 30, 31] (by simp only [sx2, encs, sxR, sevalprocAttr] <;> (try simp) <;> (try omega)) ?_
    simp only [sx2, sxR, sevalprocAttr]
    refine LoopW.upG Tok (fun k : Nat => [(14, (.v (.int .i64 k)))]) (fun k => []) (fun k => []) (fun k => []) (fun k => (ysL n m head k).map eO) (fun k => k ≤ n) (fun k => n - k) (0) (by simp only [sx2, encs, sxR, sevalprocAttr] <;> (try simp [ysL, encs]) <;> (try omega)) ?_ ?_
    · omega
    rintro k hk
    simp only [↓sx0, sxE, encs, sevalprocAttr]
    refine BrW.dec (fun hlt => ?_) (fun hlt => ?_)
    · simp only [↓sx0, sxE, encs, sevalprocAttr]
      have hlt : k < n := by omega
      refine CallI.fn (containsI_s true head k (by omega)) (by simp only [sx3, encs, sxR, sevalprocAttr] <;> (try simp) <;> (try rfl)) ?_
      simp only [↓sx0, sxE, encs, sevalprocAttr]
      refine BrW.of (fun hin => ?_) (fun hin => ?_)
      · simp only [↓sx0, sxE, encs, sevalprocAttr]
        have he : ysL n m head (k + 1) = ysL n m head k := by rw [ysL_succ]; simp [pcL, hin]
        rw [← he]
        repeat ((with_reducible refine Vc.go ?_ fun _ => ?_); (focus (first | omega | (simp only [InK]; omega) | (simp [InK]; done) | (simp [InK]; omega))); simp only [↓sx0, sxE, encs, sevalprocAttr])
        refine ⟨k + 1, StLe.auto (by simp only [sx2, encs, sxR, sevalprocAttr] <;> (try simp) <;> (try omega)), ?_, ?_⟩
        · omega
        · omega
      · simp only [↓sx0, sxE, encs, sevalprocAttr]
        have he : ysL n m head (k + 1) = ysL n m head k ++ ordL n m (head ++ [(k : Int)]) := by rw [ysL_succ]; simp [pcL, hin]
        refine DrawW.plan Tok mixed (.q 0 <| .q 2 <| .q 5 <| .e2 1 [5] (.e 3 [0, 5] <| .e 4 [5] <| .e 6 [] <| .done) 3 [0, 5] (.e 1 [5] <| .e 4 [5] <| .e 6 [] <| .done)) (by kernel_rfl) (by kernel_rfl) ?_
        simp only [↓sx0, sxE, encs, sevalprocAttr]
        have hcl := clone_s true (head.map eI) (by simp [kpLL_map, encs, kpL, kpD]) (by simp; omega)
        have ih := ordersIt_s n hn m (head ++ [(k : Int)]) (by simp; omega)
        have hmore : ∀ pre d, (pre ++ [d]) <+: (ordL n m (head ++ [(k : Int)])).map eO → ((ysL n m head k).map eO ++ pre) ++ [d] <+: (ordL n (m + 1) head).map eO := fun pre d h => by
          rw [List.append_assoc]
          refine ((List.prefix_append_right_inj _).2 h).trans ?_
          rw [← List.map_append, ← he, ← ysL_all]
          exact (ysL_le (by omega)).map eO
        have encs := And.intro encs (show ∀ o, eO o = [.sl true 1 (o.map eI)] from fun _ => rfl)
        refine ⟨?_, ?_⟩
        · refine CallI.ctr (hcl) (by simp only [sx3, encs, sxR, sevalprocAttr] <;> (try simp) <;> (try rfl)) ?_
          rintro _ rfl
          simp only [↓sx0, sxE, encs, sevalprocAttr]
          repeat ((with_reducible refine Vc.go ?_ fun _ => ?_); (focus (first | omega | (simp only [InK]; omega) | (simp [InK]; done) | (simp [InK]; omega))); simp only [↓sx0, sxE, encs, sevalprocAttr])
          refine CallI.frz [3] (by simp only [sx2, sxA, encs, sxR, sevalprocAttr] <;> rfl) (by simp only [sx2, sxA, encs, sxR, sevalprocAttr] <;> rfl) ?_
          refine CallI.fn (orders_s (head ++ [(k : Int)]) (n : Int)) (by simp only [sx3, encs, sxR, sevalprocAttr] <;> (try simp) <;> (try rfl)) ?_
          simp only [↓sx0, sxE, encs, sevalprocAttr]
          refine RangeW.it Tok (fun _ => rfl) (fun hro => by first | rfl | exact (by rw [hro] at *; contradiction)) (ih) [(1, .pt true [.sl true 1 (head.map eI)]), (2, .pt true [.v (.int .i64 n)]), (3, .box 0 0), (13, (.v (.int .i64 ((n : Int))))), (14, (.v (.int .i64 ((k : Int))))), (26, .clo 68 (ordC (head ++ [(k : Int)]) n))] (fun ys => [some ⟨121, [.v (.func (.yield yd.yl) ⟨[]⟩ ⟨[]⟩)]⟩]) (fun ys => [.gh false ((ysL n m head k).map eO ++ ys)]) (fun _ => True) trivial (by simp only [sx2, encs, sxR, sevalprocAttr] <;> (try simp) <;> (try omega)) rfl rfl (by simp [eO]) ?_ (fun hJall => ?_)
          · rintro pre d hpre - ρ σ μ ho' hy hs
            obtain ⟨o, rfl⟩ : ∃ o, d = eO o := by
              have := hpre.subset (show d ∈ pre ++ [d] by simp)
              obtain ⟨o, _, rfl⟩ := List.mem_map.1 this
              exact ⟨o, rfl⟩
            obtain ⟨yd', ro, mks, fr, lp, sz⟩ := ho'
            obtain rfl : yd' = yd := hy
            simp only [↓sx0, sxE, encs, sevalprocAttr]
            intro fr'
            refine YldI.of (ys := (ysL n m head k).map eO ++ pre) hok rfl rfl (by simp only [sx2, sxA, encs, sxR, sevalprocAttr] <;> rfl) (by simp only [sx2, sxA, encs, sxR, sevalprocAttr] <;> rfl) rfl rfl rfl (hmore pre _ hpre) ?_ ?_
            · simp only [↓sx0, sxE, encs, sevalprocAttr]
              simp only [sx2, encs, sxR, sevalprocAttr] <;> (try simp) <;> (try omega)
            · simp only [↓sx0, sxE, encs, sevalprocAttr]
              intro h
              cases h
          · simp only [↓sx0, sxE, encs, sevalprocAttr]
            repeat ((with_reducible refine Vc.go ?_ fun _ => ?_); (focus (first | omega | (simp only [InK]; omega) | (simp [InK]; done) | (simp [InK]; omega))); simp only [↓sx0, sxE, encs, sevalprocAttr])
            refine ⟨k + 1, StLe.auto (by simp only [sx2, encs, sxR, sevalprocAttr] <;> (try simp [he, encs]) <;> (try omega)), ?_, ?_⟩
            · omega
            · omega
        · refine CallI.ctr (hcl) (by simp only [sx3, encs, sxR, sevalprocAttr] <;> (try simp) <;> (try rfl)) ?_
          rintro _ rfl
          simp only [↓sx0, sxE, encs, sevalprocAttr]
          repeat ((with_reducible refine Vc.go ?_ fun _ => ?_); (focus (first | omega | (simp only [InK]; omega) | (simp [InK]; done) | (simp [InK]; omega))); simp only [↓sx0, sxE, encs, sevalprocAttr])
          refine CallI.frz [3] (by simp only [sx2, sxA, encs, sxR, sevalprocAttr] <;> rfl) (by simp only [sx2, sxA, encs, sxR, sevalprocAttr] <;> rfl) ?_
          refine CallI.fn (orders_s (head ++ [(k : Int)]) (n : Int)) (by simp only [sx3, encs, sxR, sevalprocAttr] <;> (try simp) <;> (try rfl)) ?_
          simp only [↓sx0, sxE, encs, sevalprocAttr]
          refine RangeW.it Tok (fun _ => rfl) (fun hro => by first | rfl | exact (by rw [hro] at *; contradiction)) (ih) [(1, .pt true [.sl true 1 (head.map eI)]), (2, .pt true [.v (.int .i64 n)]), (3, .box 0 0), (13, (.v (.int .i64 ((n : Int))))), (14, (.v (.int .i64 ((k : Int))))), (26, .clo 68 (ordC (head ++ [(k : Int)]) n))] (fun ys => [some ⟨121, [.v (.func (.yield yd.yl) ⟨[]⟩ ⟨[]⟩)]⟩]) (fun ys => [.gh false ((ysL n m head k).map eO ++ ys)]) (fun _ => True) trivial (by simp only [sx2, encs, sxR, sevalprocAttr] <;> (try simp) <;> (try omega)) rfl rfl (by simp [eO]) ?_ (fun hJall => ?_)
          · rintro pre d hpre - ρ σ μ ho' hy hs
            obtain ⟨o, rfl⟩ : ∃ o, d = eO o := by
              have := hpre.subset (show d ∈ pre ++ [d] by simp)
              obtain ⟨o, _, rfl⟩ := List.mem_map.1 this
              exact ⟨o, rfl⟩
            obtain ⟨yd', ro, mks, fr, lp, sz⟩ := ho'
            obtain rfl : yd' = yd := hy
            simp only [↓sx0, sxE, encs, sevalprocAttr]
            intro fr'
            refine YldI.of (ys := (ysL n m head k).map eO ++ pre) hok rfl rfl (by simp only [sx2, sxA, encs, sxR, sevalprocAttr] <;> rfl) (by simp only [sx2, sxA, encs, sxR, sevalprocAttr] <;> rfl) rfl rfl rfl (hmore pre _ hpre) ?_ ?_
            · simp only [↓sx0, sxE, encs, sevalprocAttr]
              simp only [sx2, encs, sxR, sevalprocAttr] <;> (try simp) <;> (try omega)
            · simp only [↓sx0, sxE, encs, sevalprocAttr]
              intro h
              cases h
          · simp only [↓sx0, sxE, encs, sevalprocAttr]
            repeat ((with_reducible refine Vc.go ?_ fun _ => ?_); (focus (first | omega | (simp only [InK]; omega) | (simp [InK]; done) | (simp [InK]; omega))); simp only [↓sx0, sxE, encs, sevalprocAttr])
            refine ⟨k + 1, StLe.auto (by simp only [sx2, encs, sxR, sevalprocAttr] <;> (try simp [he, encs]) <;> (try omega)), ?_, ?_⟩
            · omega
            · omega
    · simp only [↓sx0, sxE, encs, sevalprocAttr]
      have hke : k = n := by omega
      subst hke
      intro _
      rw [ysL_all]
end Go.Proofs.YtfojggadhhaleaaGreatDoor
/-
  Chapter 9, walks: colours and tables are right.
-/
namespace Go.Proofs.YtfojggadhhaleaaGreatDoor
open Go Go.Vx
set_option linter.unusedSimpArgs false
set_option linter.unusedVariables false
set_option maxRecDepth 20000
def ixP (p : Int → Bool) (l : List Int) : Int := match l.findIdx? p with
  | some k => (k : Int)
  | none => -1
theorem ixP_at {p : Int → Bool} {l : List Int} {k : Nat} (hk : k < l.length) (he : p l[k] = true) (ht : ∀ j (_ : j < k) (h2 : j < l.length), p l[j] = false) : ixP p l = k := by
  have : l.findIdx? p = some k := by
    rw [List.findIdx?_eq_some_iff_getElem]
    exact ⟨hk, he, fun j hj => by simpa using ht j hj (by omega)⟩
  simp [ixP, this]
theorem ixP_no {p : Int → Bool} {l : List Int} (ht : ∀ j (h2 : j < l.length), p l[j] = false) : ixP p l = -1 := by
  have : l.findIdx? p = none := by
    rw [List.findIdx?_eq_none_iff]
    intro y hy
    obtain ⟨j, h1, rfl⟩ := List.getElem_of_mem hy
    exact ht j h1
  simp [ixP, this]
theorem ixP_any {p : Int → Bool} {l : List Int} : decide (0 ≤ ixP p l) = l.any p := by
  rw [Bool.eq_iff_iff, decide_eq_true_eq, List.any_eq_true]
  unfold ixP
  cases h : l.findIdx? p with
  | none =>
    rw [List.findIdx?_eq_none_iff] at h
    simp only
    refine ⟨fun h => by omega, fun ⟨x, h1, h2⟩ => ?_⟩
    rw [h x h1] at h2; cases h2
  | some k =>
    rw [List.findIdx?_eq_some_iff_getElem] at h
    obtain ⟨h1, h2, _⟩ := h
    exact ⟨fun _ => ⟨_, List.getElem_mem h1, h2⟩, fun _ => by simp only; omega⟩
theorem indexF_s (b : Bool) (f : Nat) (p : Int → Bool) (l : List Int) (hl : l.length ≤ 1000000000) (hof : ∀ x : Int, Ctr Tryz.prog f [(.v (.int .i64 x))] (fun rr => rr = ⟨(.v (.bool (p x))), []⟩)) : Ctr Tryz.prog 87 [.sl b 1 (l.map eI), .clo f []] (fun rr => rr = ⟨(.v (.int .i64 (ixP p l))), []⟩) := by
  refine Ctr.of (rs := [.tmp 4]) Tok true Tryz.func87 rfl rfl rfl rfl (by simp [ofDL]) (fun w0 kp => ?_)
  simp only [↓sx0, sxE, encs, sevalprocAttr]
  refine LoopW.comp [0, 1, 7, 8] (by simp only [sx2, encs, sxR, sevalprocAttr] <;> (try simp) <;> (try omega)) ?_
  simp only [sx2, sxR, sevalprocAttr]
  refine LoopW.up Tok (fun k : Nat => [(8, (.v (.int .i64 k)))]) (fun k => []) (fun k => []) (fun k => []) (fun k => k ≤ l.length ∧ ∀ j (_ : j < k) (h2 : j < l.length), p l[j] = false) (fun k => l.length - k) (0) (by simp only [sx2, encs, sxR, sevalprocAttr] <;> (try simp) <;> (try omega)) ?_ ?_
  · exact ⟨by omega, fun j h => absurd h (Nat.not_lt_zero _)⟩
  rintro k ⟨hk, ht⟩
  simp only [↓sx0, sxE, encs, sevalprocAttr]
  refine BrW.dec (fun hlt => ?_) (fun hlt => ?_)
  · simp only [↓sx0, sxE, encs, sevalprocAttr]
    have hlt : k < l.length := by omega
    refine IxW.nat hlt ?_
    simp only [↓sx0, sxE, encs, sevalprocAttr]
    refine CallI.fn (hof l[k]) (by simp only [sx3, encs, sxR, sevalprocAttr] <;> (try simp) <;> (try rfl)) ?_
    simp only [↓sx0, sxE, encs, sevalprocAttr]
    refine BrW.of (fun hb => ?_) (fun hb => ?_)
    · simp only [↓sx0, sxE, encs, sevalprocAttr]
      have := ixP_at hlt hb ht
      refine EndW.fn ?_ ?_ <;> simp only [sx4, encs, kpLL_map, sxR, sevalprocAttr] <;> (try simp [this]) <;> (try omega)
    · simp only [↓sx0, sxE, encs, sevalprocAttr]
      (with_reducible refine Vc.go ?_ fun _ => ?_); focus (first | omega | (simp only [InK]; omega) | (simp [InK]; done) | (simp [InK]; omega))
      simp only [↓sx0, sxE, encs, sevalprocAttr]
      refine ⟨k + 1, StLe.auto (by simp only [sx2, encs, sxR, sevalprocAttr] <;> (try simp) <;> (try omega)), ?_, ?_⟩
      · refine ⟨hlt, fun j h h2 => ?_⟩
        by_cases e : j = k
        · subst e; exact hb
        · exact ht j (by omega) h2
      · omega
  · simp only [↓sx0, sxE, encs, sevalprocAttr]
    have hke : k = l.length := by omega
    subst hke
    have := ixP_no (l := l) (p := p) fun j h => ht j h h
    refine EndW.fn ?_ ?_ <;> simp only [sx4, encs, kpLL_map, sxR, sevalprocAttr] <;> (try simp [this]) <;> (try omega)
theorem containsF_s (b : Bool) (f : Nat) (p : Int → Bool) (l : List Int) (hl : l.length ≤ 1000000000) (hof : ∀ x : Int, Ctr Tryz.prog f [(.v (.int .i64 x))] (fun rr => rr = ⟨(.v (.bool (p x))), []⟩)) : Ctr Tryz.prog 65 [.sl b 1 (l.map eI), .clo f []] (fun rr => rr = ⟨(.v (.bool (l.any p))), []⟩) := by
  refine Ctr.of (rs := [.tmp 4]) Tok true Tryz.func65 rfl rfl rfl rfl (by simp [ofDL]) (fun w0 kp => ?_)
  simp only [↓sx0, sxE, encs, sevalprocAttr]
  refine CallI.fn (indexF_s b f p l hl hof) (by simp only [sx3, encs, sxR, sevalprocAttr] <;> (try simp) <;> (try rfl)) ?_
  simp only [↓sx0, sxE, encs, sevalprocAttr]
  rw [ixP_any]
  refine EndW.fn ?_ ?_ <;> simp only [sx4, encs, kpLL_map, sxR, sevalprocAttr] <;> (try simp) <;> (try omega)
def badM (m : Int) : Bool := !decide (0 ≤ m ∧ m ≤ 10000)
def badD (m : Int) : Bool := !decide (-1 ≤ m ∧ m ≤ 10000)
theorem colours1_s (m : Int) : Ctr Tryz.prog 66 [(.v (.int .i64 m))] (fun rr => rr = ⟨(.v (.bool (badM m))), []⟩) := by
  refine Ctr.of (rs := [.tmp 2]) Tok true Tryz.func66 rfl rfl rfl rfl (by simp [ofDL]) (fun w0 kp => ?_)
  simp only [↓sx0, sxE, encs, sevalprocAttr]
  refine CallI.fn (isMinutes_s m) (by simp only [sx3, encs, sxR, sevalprocAttr] <;> (try simp) <;> (try rfl)) ?_
  simp only [↓sx0, sxE, encs, sevalprocAttr]
  refine EndW.fn ?_ ?_ <;> simp only [sx4, encs, kpLL_map, sxR, sevalprocAttr] <;> (try simp [badM]) <;> (try omega)
theorem colours2_s (m : Int) : Ctr Tryz.prog 67 [(.v (.int .i64 m))] (fun rr => rr = ⟨(.v (.bool (badD m))), []⟩) := by
  refine Ctr.of (rs := [.tmp 2]) Tok true Tryz.func67 rfl rfl rfl rfl (by simp [ofDL]) (fun w0 kp => ?_)
  simp only [↓sx0, sxE, encs, sevalprocAttr]
  refine BrW.dec (fun h => ?_) (fun h => ?_)
  · simp only [↓sx0, sxE, encs, sevalprocAttr]
    refine CallI.fn (isMinutes_s m) (by simp only [sx3, encs, sxR, sevalprocAttr] <;> (try simp) <;> (try rfl)) ?_
    simp only [↓sx0, sxE, encs, sevalprocAttr]
    have e : (!decide (0 ≤ m ∧ m ≤ 10000)) = badD m := by
      unfold badD; congr 1; rw [decide_eq_decide]; omega
    rw [e]
    refine EndW.fn ?_ ?_ <;> simp only [sx4, encs, kpLL_map, sxR, sevalprocAttr] <;> (try simp) <;> (try omega)
  · simp only [↓sx0, sxE, encs, sevalprocAttr]
    have e : badD m = false := by unfold badD; simp; omega
    refine EndW.fn ?_ ?_ <;> simp only [sx4, encs, kpLL_map, sxR, sevalprocAttr] <;> (try simp [e]) <;> (try omega)
def rowsErr (n : Nat) (bad : Int → Bool) : List (List Int) → Int
  | [] => 0
  | r :: l => if r.length = n then (if r.any bad = true then 2 else rowsErr n bad l) else 10
theorem rowsErr_at {n : Nat} {bad : Int → Bool} {l : List (List Int)} {k : Nat} (h : k < l.length) (ht : rowsErr n bad (l.drop k) = rowsErr n bad l) : rowsErr n bad l = if l[k].length = n then (if l[k].any bad = true then 2 else rowsErr n bad (l.drop (k + 1))) else 10 := by
  rw [← ht, List.drop_eq_getElem_cons h]
  simp only [rowsErr]
def colErr (c : Cols) : Int := if 6 < c.minutes.length then 8 else if c.minutes.any badM = true then 2 else if c.dry.length = c.minutes.length then rowsErr c.minutes.length badD c.dry else 10
def tabErr (t : List (List Int)) : Int := if 7 < t.length then 8 else rowsErr t.length badM t
theorem checkColours_s (b1 b2 b3 : Bool) (c : Cols) (hd : ∀ r ∈ c.dry, r.length ≤ 1000000000) : Ctr Tryz.prog 42 [cV b1 b2 b3 c] (fun rr => rr = ⟨(.v (.int .i64 (colErr c))), []⟩) := by
  refine Ctr.of (rs := [.tmp 2]) Tok true Tryz.func42 rfl rfl rfl rfl (by simp [ofDL]) (fun w0 kp => ?_)
  simp only [↓sx0, sxE, encs, sevalprocAttr]
  refine BrW.dec (fun h1 => ?_) (fun h1 => ?_)
  · simp only [↓sx0, sxE, encs, sevalprocAttr]
    have h1 : 6 < c.minutes.length := by omega
    refine EndW.fn ?_ ?_ <;> simp only [sx4, encs, kpLL_map, sxR, sevalprocAttr] <;> (try simp [colErr, h1]) <;> (try omega)
  · simp only [↓sx0, sxE, encs, sevalprocAttr]
    have h1 : ¬ 6 < c.minutes.length := by omega
    refine CallI.fn (containsF_s b1 66 badM c.minutes (by omega) colours1_s) (by simp only [sx3, encs, sxR, sevalprocAttr] <;> (try simp) <;> (try rfl)) ?_
    simp only [↓sx0, sxE, encs, sevalprocAttr]
    refine BrW.of (fun h2 => ?_) (fun h2 => ?_)
    · simp only [↓sx0, sxE, encs, sevalprocAttr]
      refine EndW.fn ?_ ?_ <;> simp only [sx4, encs, kpLL_map, sxR, sevalprocAttr] <;> (try simp [colErr, h1, h2]) <;> (try omega)
    · simp only [↓sx0, sxE, encs, sevalprocAttr]
      refine BrW.dec (fun h3 => ?_) (fun h3 => ?_)
      · simp only [↓sx0, sxE, encs, sevalprocAttr]
        have h3 : ¬ c.dry.length = c.minutes.length := by omega
        refine EndW.fn ?_ ?_ <;> simp only [sx4, encs, kpLL_map, sxR, sevalprocAttr] <;> (try simp [colErr, h1, h2, h3]) <;> (try omega)
      · simp only [↓sx0, sxE, encs, sevalprocAttr]
        have h3 : c.dry.length = c.minutes.length := by omega
        have e0 : colErr c = rowsErr c.minutes.length badD c.dry := by simp [colErr, h1, h2, h3]
        refine LoopW.comp [3, 23, 24, 25] (by simp only [sx2, encs, sxR, sevalprocAttr] <;> (try simp) <;> (try omega)) ?_
        simp only [sx2, sxR, sevalprocAttr]
        refine LoopW.up Tok (fun k : Nat => [(25, (.v (.int .i64 k)))]) (fun k => []) (fun k => []) (fun k => []) (fun k => k ≤ c.dry.length ∧ rowsErr c.minutes.length badD (c.dry.drop k) = rowsErr c.minutes.length badD c.dry) (fun k => c.dry.length - k) (0) (by simp only [sx2, encs, sxR, sevalprocAttr] <;> (try simp) <;> (try omega)) ?_ ?_
        · exact ⟨by omega, by simp⟩
        rintro k ⟨hk, ht⟩
        simp only [↓sx0, sxE, encs, sevalprocAttr]
        refine BrW.dec (fun hlt => ?_) (fun hlt => ?_)
        · simp only [↓sx0, sxE, encs, sevalprocAttr]
          have hlt : k < c.dry.length := by omega
          have hce := rowsErr_at hlt ht
          refine IxW.nat hlt ?_
          simp only [↓sx0, sxE, encs, sevalprocAttr]
          refine BrW.dec (fun h4 => ?_) (fun h4 => ?_)
          · simp only [↓sx0, sxE, encs, sevalprocAttr]
            have h4 : ¬ c.dry[k].length = c.minutes.length := by omega
            rw [if_neg h4] at hce
            refine EndW.fn ?_ ?_ <;> simp only [sx4, encs, kpLL_map, sxR, sevalprocAttr] <;> (try simp [e0, hce]) <;> (try omega)
          · simp only [↓sx0, sxE, encs, sevalprocAttr]
            have h4 : c.dry[k].length = c.minutes.length := by omega
            rw [if_pos h4] at hce
            refine CallI.fn (containsF_s b3 67 badD c.dry[k] (hd _ (List.getElem_mem hlt)) colours2_s) (by simp only [sx3, encs, sxR, sevalprocAttr] <;> (try simp) <;> (try rfl)) ?_
            simp only [↓sx0, sxE, encs, sevalprocAttr]
            refine BrW.of (fun h5 => ?_) (fun h5 => ?_)
            · simp only [↓sx0, sxE, encs, sevalprocAttr]
              rw [if_pos h5] at hce
              refine EndW.fn ?_ ?_ <;> simp only [sx4, encs, kpLL_map, sxR, sevalprocAttr] <;> (try simp [e0, hce]) <;> (try omega)
            · simp only [↓sx0, sxE, encs, sevalprocAttr]
              rw [if_neg (by simp [h5])] at hce
              (with_reducible refine Vc.go ?_ fun _ => ?_); focus (first | omega | (simp only [InK]; omega) | (simp [InK]; done) | (simp [InK]; omega))
              simp only [↓sx0, sxE, encs, sevalprocAttr]
              refine ⟨k + 1, StLe.auto (by simp only [sx2, encs, sxR, sevalprocAttr] <;> (try simp) <;> (try omega)), ?_, ?_⟩
              · exact ⟨hlt, hce.symm⟩
              · omega
        · simp only [↓sx0, sxE, encs, sevalprocAttr]
          have hke : k = c.dry.length := by omega
          subst hke
          have hz : rowsErr c.minutes.length badD c.dry = 0 := by rw [← ht]; simp [rowsErr]
          refine EndW.fn ?_ ?_ <;> simp only [sx4, encs, kpLL_map, sxR, sevalprocAttr] <;> (try simp [e0, hz]) <;> (try omega)
end Go.Proofs.YtfojggadhhaleaaGreatDoor
/-
  Chapter 9, walks: an order of colours that is begun.
-/
namespace Go.Proofs.YtfojggadhhaleaaGreatDoor
open Go Go.Vx
set_option linter.unusedSimpArgs false
set_option linter.unusedVariables false
set_option maxRecDepth 20000
/-- An order that is begun. -/
structure Beg where
  order : List Int
  ends : List Int
  barred : Bool
def gV (b1 b2 : Bool) (x : Beg) : SV := .agg [.sl b1 1 (x.order.map eI), .sl b2 1 (x.ends.map eI), .v (.bool x.barred)]
theorem gV_eq (b1 b2 : Bool) (x : Beg) : gV b1 b2 x = .agg [.sl b1 1 (x.order.map eI), .sl b2 1 (x.ends.map eI), .v (.bool x.barred)] := rfl
def endB (x : Beg) : Int := x.ends.getLastD 0
/-- Colours of a right kind. -/
structure ColOk (c : Cols) : Prop where
  n : c.minutes.length ≤ 6
  mi : ∀ m ∈ c.minutes, 0 ≤ m ∧ m ≤ 10000
  len : c.dry.length = c.minutes.length
  row : ∀ r ∈ c.dry, r.length = c.minutes.length
  dr : ∀ r ∈ c.dry, ∀ d ∈ r, -1 ≤ d ∧ d ≤ 10000
theorem rowsErr_zero {n : Nat} {bad : Int → Bool} : ∀ {l : List (List Int)}, rowsErr n bad l = 0 → ∀ r ∈ l, r.length = n ∧ r.any bad = false
  | [], _ => fun r h => absurd h (List.not_mem_nil)
  | r :: l, h => by
    simp only [rowsErr] at h
    split at h
    next h1 =>
      split at h
      next h2 => cases h
      next h2 =>
        intro q hq
        rcases List.mem_cons.1 hq with rfl | hq
        · exact ⟨h1, by simpa using h2⟩
        · exact rowsErr_zero h q hq
    next h1 => cases h
theorem colErr_ok {c : Cols} (h : colErr c = 0) : ColOk c := by
  unfold colErr at h
  split at h
  next => cases h
  next h1 =>
    split at h
    next => cases h
    next h2 =>
      split at h
      next h3 =>
        have hr := rowsErr_zero h
        refine ⟨by omega, fun m hm => ?_, h3, fun r hr' => (hr r hr').1, fun r hr' d hd => ?_⟩
        · have := List.any_eq_false.1 (by simpa using h2) m hm
          simpa [badM] using this
        · have := List.any_eq_false.1 (hr r hr').2 d hd
          simpa [badD] using this
      next => cases h
def dryE (c : Cols) (o i : Int) : Int := (c.dry.getD o.toNat []).getD i.toNat 0
def minE (c : Cols) (i : Int) : Int := c.minutes.getD i.toNat 0
def atK (c : Cols) (x : Beg) (i : Int) (k : Nat) : Int := ((x.order.zip x.ends).take k).foldl (fun a p => max a (p.2 + dryE c p.1 i)) (endB x)
def barK (c : Cols) (x : Beg) (i : Int) (k : Nat) : Bool := x.barred || (x.order.take k).any fun o => decide (dryE c o i < 0)
def withE (c : Cols) (x : Beg) (i : Int) : Beg := ⟨x.order ++ [i], x.ends ++ [atK c x i x.order.length + minE c i], barK c x i x.order.length⟩
/-- what is begun, of 'm' colours. -/
structure BegOk (c : Cols) (x : Beg) (m : Nat) : Prop where
  lo : x.order.length = m
  le : x.ends.length = m
  o : ∀ o ∈ x.order, 0 ≤ o ∧ o < (c.minutes.length : Int)
  e : ∀ e ∈ x.ends, 0 ≤ e ∧ e ≤ 20000 * (m : Int)
theorem endB_b {c : Cols} {x : Beg} {m : Nat} (h : BegOk c x m) : 0 ≤ endB x ∧ endB x ≤ 20000 * (m : Int) := by
  unfold endB
  rcases hx : x.ends.getLast? with _ | e
  · rw [List.getLastD_eq_getLast?, hx]; simp; omega
  · rw [List.getLastD_eq_getLast?, hx]
    exact h.e e (List.mem_of_getLast? hx)
theorem dryE_b {c : Cols} (hc : ColOk c) (o i : Int) : -1 ≤ dryE c o i ∧ dryE c o i ≤ 10000 := by
  unfold dryE
  simp only [List.getD_eq_getElem?_getD]
  rcases h : c.dry[o.toNat]? with _ | r
  · simp
  · simp only [Option.getD_some]
    rcases h2 : r[i.toNat]? with _ | d
    · simp
    · exact hc.dr r (List.mem_of_getElem? h) d (List.mem_of_getElem? h2)
theorem minE_b {c : Cols} (hc : ColOk c) (i : Int) : 0 ≤ minE c i ∧ minE c i ≤ 10000 := by
  unfold minE
  simp only [List.getD_eq_getElem?_getD]
  rcases h : c.minutes[i.toNat]? with _ | m
  · simp
  · exact hc.mi m (List.mem_of_getElem? h)
theorem atK_succ {c : Cols} {x : Beg} {i : Int} {k : Nat} (h1 : k < x.order.length) (h2 : k < x.ends.length) : atK c x i (k + 1) = max (atK c x i k) (x.ends[k] + dryE c x.order[k] i) := by
  have hz : k < (x.order.zip x.ends).length := by simp; omega
  unfold atK
  rw [List.take_succ_eq_append_getElem hz, List.foldl_append]
  simp
theorem barK_succ {c : Cols} {x : Beg} {i : Int} {k : Nat} (h1 : k < x.order.length) : barK c x i (k + 1) = (barK c x i k || decide (dryE c x.order[k] i < 0)) := by
  unfold barK
  rw [List.take_succ_eq_append_getElem h1, List.any_append, Bool.or_assoc]
  simp
theorem atK_b {c : Cols} (hc : ColOk c) {x : Beg} {m : Nat} (h : BegOk c x m) (i : Int) : ∀ k, k ≤ m → 0 ≤ atK c x i k ∧ atK c x i k ≤ 20000 * (m : Int) + 10000
  | 0, _ => by
    have := endB_b h
    simp only [atK, List.take_zero, List.foldl_nil]; omega
  | k + 1, hk => by
    have h1 : k < x.order.length := by have := h.lo; omega
    have h2 : k < x.ends.length := by have := h.le; omega
    have ih := atK_b hc h i k (by omega)
    rw [atK_succ h1 h2]
    have hd := dryE_b hc x.order[k] i
    have he := h.e _ (List.getElem_mem h2)
    omega
theorem with_ok {c : Cols} (hc : ColOk c) {x : Beg} {m : Nat} (h : BegOk c x m) {i : Int} (hi : 0 ≤ i ∧ i < (c.minutes.length : Int)) : BegOk c (withE c x i) (m + 1) := by
  have ha := atK_b hc h i m (Nat.le_refl _)
  have hm := minE_b hc i
  refine ⟨by simp [withE, h.lo], by simp [withE, h.le], fun o ho => ?_, fun e he => ?_⟩
  · rcases List.mem_append.1 ho with ho | ho
    · exact h.o o ho
    · rw [List.mem_singleton] at ho; subst ho; exact hi
  · rcases List.mem_append.1 he with he | he
    · have := h.e e he; omega
    · rw [List.mem_singleton, h.lo] at he; omega
theorem end_s (b1 b2 : Bool) (x : Beg) (hl : x.ends.length ≤ 1000000000) : Ctr Tryz.prog 45 [gV b1 b2 x] (fun rr => rr = ⟨(.v (.int .i64 (endB x))), []⟩) := by
  have encs := And.intro encs gV_eq
  refine Ctr.of (rs := [.tmp 2]) Tok true Tryz.func45 rfl rfl rfl rfl (by simp [ofDL]) (fun w0 kp => ?_)
  simp only [↓sx0, sxE, encs, sevalprocAttr]
  refine BrW.dec (fun h => ?_) (fun h => ?_)
  · simp only [↓sx0, sxE, encs, sevalprocAttr]
    have : x.ends = [] := List.eq_nil_of_length_eq_zero (by omega)
    have : endB x = 0 := by simp [endB, this]
    refine EndW.fn ?_ ?_ <;> simp only [sx4, encs, kpLL_map, sxR, sevalprocAttr] <;> (try simp [this]) <;> (try omega)
  · simp only [↓sx0, sxE, encs, sevalprocAttr]
    have hp : 0 < x.ends.length := by omega
    repeat ((with_reducible refine Vc.go ?_ fun _ => ?_); (focus (first | omega | (simp only [InK]; omega) | (simp [InK]; done) | (simp [InK]; omega))); simp only [↓sx0, sxE, encs, sevalprocAttr])
    have : endB x = x.ends[x.ends.length - 1]'(by omega) := by
      unfold endB
      rw [List.getLastD_eq_getLast?, List.getLast?_eq_getElem?, List.getElem?_eq_getElem (by omega)]; rfl
    have hx : x.ends[((x.ends.length : Int) - 1).toNat]? = some (endB x) := by
      rw [this, List.getElem?_eq_some_iff]
      have : ((x.ends.length : Int) - 1).toNat = x.ends.length - 1 := by omega
      exact ⟨by omega, by simp only [this]⟩
    refine IxW.map (endB x) (by omega) hx ?_
    simp only [↓sx0, sxE, encs, sevalprocAttr]
    refine EndW.fn ?_ ?_ <;> simp only [sx4, encs, kpLL_map, sxR, sevalprocAttr] <;> (try simp) <;> (try omega)
end Go.Proofs.YtfojggadhhaleaaGreatDoor
/-
  Chapter 9, walks: one colour more.
-/
namespace Go.Proofs.YtfojggadhhaleaaGreatDoor
open Go Go.Vx
set_option linter.unusedSimpArgs false
set_option linter.unusedVariables false
set_option maxRecDepth 20000
theorem with_s (b1 b2 b3 b4 b5 : Bool) (c : Cols) (x : Beg) (m : Nat) (i : Int) (hc : ColOk c) (h : BegOk c x m) (hm : m ≤ 1000) (hi : 0 ≤ i ∧ i < (c.minutes.length : Int)) : Ctr Tryz.prog 71 [cV b1 b2 b3 c, gV b4 b5 x, (.v (.int .i64 i))] (fun rr => rr = ⟨gV true true (withE c x i), []⟩) := by
  have encs := And.intro encs gV_eq
  have hlo := h.lo
  have hle := h.le
  refine Ctr.of (rs := [.cell 6 99]) Tok true Tryz.func71 rfl rfl rfl rfl (by simp [ofDL]) (fun w0 kp => ?_)
  simp only [↓sx0, sxE, encs, sevalprocAttr]
  refine CallI.fn (end_s b4 b5 x (by omega)) (by simp only [sx3, encs, sxR, sevalprocAttr] <;> (try simp) <;> (try rfl)) ?_
  simp only [↓sx0, sxE, encs, sevalprocAttr]
  have hk1 := clone_s b4 (x.order.map eI) (by simp [kpLL_map, encs, kpL, kpD]) (by simp; omega)
  have hk2 := clone_s b5 (x.ends.map eI) (by simp [kpLL_map, encs, kpL, kpD]) (by simp; omega)
  refine DrawW.plan Tok mixed (.q 0 <| .q 1 <| .q 3 <| .q 4 <| .q 6 <| .q 7 <| .e2 2 [4, 7] (.e2 5 [7] (.q 8 <| .e 9 [1, 4, 7] <| .e 10 [] <| .done) 9 [1, 4, 7] (.e 5 [7] <| .q 8 <| .e 10 [] <| .done)) 9 [1, 4, 7] (.e 2 [4, 7] <| .e 5 [7] <| .q 8 <| .e 10 [] <| .done)) (by kernel_rfl) (by kernel_rfl) ?_
  simp only [↓sx0, sxE, encs, sevalprocAttr]
  refine ⟨?_, ?_⟩
  rotate_left
  any_goals (
    skip
    refine CallI.ctr (hk1) (by simp only [sx3, encs, sxR, sevalprocAttr] <;> (try simp) <;> (try rfl)) ?_
    rintro _ rfl
    simp only [↓sx0, sxE, encs, sevalprocAttr])
  rotate_left
  refine ⟨?_, ?_⟩
  all_goals (
    skip
    refine CallI.ctr (hk2) (by simp only [sx3, encs, sxR, sevalprocAttr] <;> (try simp) <;> (try rfl)) ?_
    rintro _ rfl
    simp only [↓sx0, sxE, encs, sevalprocAttr]
    skip
    refine LoopW.comp [2, 3, 4, 6, 7, 8, 24, 25, 26] (by simp only [sx2, encs, sxR, sevalprocAttr] <;> (try simp) <;> (try omega)) ?_
    simp only [sx2, sxR, sevalprocAttr]
    refine LoopW.up Tok (fun k : Nat => [(7, (.v (.int .i64 (atK c x i k)))), (26, (.v (.int .i64 k)))]) (fun k => [(3, [.row 0, .row 1, .v (.bool (barK c x i k))])]) (fun k => []) (fun k => []) (fun k => k ≤ m) (fun k => m - k) (0) (by simp only [sx2, encs, sxR, sevalprocAttr] <;> (try simp [atK, barK, encs]) <;> (try omega)) ?_ ?_
    · omega
    rintro k hk
    simp only [↓sx0, sxE, encs, sevalprocAttr]
    refine BrW.dec (fun hlt => ?_) (fun hlt => ?_)
    · simp only [↓sx0, sxE, encs, sevalprocAttr]
      have hlt : k < m := by omega
      have ho : k < x.order.length := by omega
      have he : k < x.ends.length := by omega
      refine IxW.nat ho ?_
      simp only [↓sx0, sxE, encs, sevalprocAttr]
      have hob := h.o _ (List.getElem_mem ho)
      have hr : x.order[k].toNat < c.dry.length := by have := hc.len; omega
      refine IxW.map (c.dry[x.order[k].toNat]'hr) (by omega) (List.getElem?_eq_getElem hr) ?_
      simp only [↓sx0, sxE, encs, sevalprocAttr]
      have hri := hc.row _ (List.getElem_mem hr)
      have hd : i.toNat < (c.dry[x.order[k].toNat]'hr).length := by omega
      have hx : (c.dry[x.order[k].toNat]'hr)[i.toNat]? = some (dryE c x.order[k] i) := by
        simp [dryE, List.getD_eq_getElem?_getD, List.getElem?_eq_getElem hr, List.getElem?_eq_getElem hd]
      refine IxW.map (dryE c x.order[k] i) (by omega) hx ?_
      simp only [↓sx0, sxE, encs, sevalprocAttr]
      have hda := dryE_b hc x.order[k] i
      have hea := h.e _ (List.getElem_mem he)
      refine BrW.of (fun hb => ?_) (fun hb => ?_)
      · simp only [↓sx0, sxE, encs, sevalprocAttr]
        refine IxW.nat he ?_
        simp only [↓sx0, sxE, encs, sevalprocAttr]
        repeat ((with_reducible refine Vc.go ?_ fun _ => ?_); (focus (first | omega | (simp only [InK]; omega) | (simp [InK]; done) | (simp [InK]; omega))); simp only [↓sx0, sxE, encs, sevalprocAttr])
        have hbk : barK c x i (k + 1) = true := by rw [barK_succ ho, hb]; rfl
        refine ⟨k + 1, StLe.auto (by simp only [sx2, encs, sxR, sevalprocAttr] <;> (try simp [atK_succ ho he, hbk, encs]) <;> (try omega)), ?_, ?_⟩
        · omega
        · omega
      · simp only [↓sx0, sxE, encs, sevalprocAttr]
        refine IxW.nat he ?_
        simp only [↓sx0, sxE, encs, sevalprocAttr]
        repeat ((with_reducible refine Vc.go ?_ fun _ => ?_); (focus (first | omega | (simp only [InK]; omega) | (simp [InK]; done) | (simp [InK]; omega))); simp only [↓sx0, sxE, encs, sevalprocAttr])
        have hbk : barK c x i (k + 1) = decide (dryE c x.order[k] i < 0) := by rw [barK_succ ho, hb]; rfl
        refine ⟨k + 1, StLe.auto (by simp only [sx2, encs, sxR, sevalprocAttr] <;> (try simp [atK_succ ho he, hbk, encs]) <;> (try omega)), ?_, ?_⟩
        · omega
        · omega
    · simp only [↓sx0, sxE, encs, sevalprocAttr]
      have hke : k = m := by omega
      subst hke
      have hmi : i.toNat < c.minutes.length := by omega
      have hmx : c.minutes[i.toNat]? = some (minE c i) := by
        simp [minE, List.getD_eq_getElem?_getD, List.getElem?_eq_getElem hmi]
      have hmb := minE_b hc i
      have hab := atK_b hc h i k (Nat.le_refl _)
      refine DrawW.plan Tok mixed (.q 0 <| .q 1 <| .q 2 <| .q 5 <| .q 6 <| .q 7 <| .q 8 <| .q 9 <| .q 10 <| .q 11 <| .q 12 <| .q 13 <| .q 14 <| .e2 3 [1, 6, 10, 13] (.e2 4 [6, 10, 13] (.q 17 <| .e 15 [1, 6] <| .e 16 [] <| .e 18 [] <| .q 19 <| .e 20 [] <| .done) 15 [1, 6] (.e 4 [6, 10, 13] <| .q 17 <| .e 16 [] <| .e 18 [] <| .q 19 <| .e 20 [] <| .done)) 15 [1, 6] (.e 3 [1, 6, 10, 13] <| .e 4 [6, 10, 13] <| .q 17 <| .e 16 [] <| .e 18 [] <| .q 19 <| .e 20 [] <| .done)) (by kernel_rfl) (by kernel_rfl) ?_
      simp only [↓sx0, sxE, encs, sevalprocAttr]
      refine IxW.map (minE c i) (by omega) hmx ?_
      simp only [↓sx0, sxE, encs, sevalprocAttr]
      repeat ((with_reducible refine Vc.go ?_ fun _ => ?_); (focus (first | omega | (simp only [InK]; omega) | (simp [InK]; done) | (simp [InK]; omega))); simp only [↓sx0, sxE, encs, sevalprocAttr])
      refine ⟨?_, ?_⟩
      all_goals (
        skip
        repeat ((with_reducible refine Vc.go ?_ fun _ => ?_); (focus (first | omega | (simp only [InK]; omega) | (simp [InK]; done) | (simp [InK]; omega))); simp only [↓sx0, sxE, encs, sevalprocAttr]))
      any_goals (
        first
        | with_reducible refine ⟨?_, ?_⟩
        | skip)
      all_goals (
        skip
        repeat ((with_reducible refine Vc.go ?_ fun _ => ?_); (focus (first | omega | (simp only [InK]; omega) | (simp [InK]; done) | (simp [InK]; omega))); simp only [↓sx0, sxE, encs, sevalprocAttr])
        refine EndW.fn ?_ ?_ <;> simp only [sx4, encs, kpLL_map, sxR, sevalprocAttr] <;> (try simp [withE, hlo, eI]) <;> (try omega)))
end Go.Proofs.YtfojggadhhaleaaGreatDoor
/-
  Chapter 9, walks: a whole order; the least that is left.
-/
namespace Go.Proofs.YtfojggadhhaleaaGreatDoor
open Go Go.Vx
set_option linter.unusedSimpArgs false
set_option linter.unusedVariables false
set_option maxRecDepth 20000
def g0 : Beg := ⟨[], [], false⟩
def allE (c : Cols) (order : List Int) : Beg := order.foldl (withE c) g0
theorem g0_ok (c : Cols) : BegOk c g0 0 := ⟨rfl, rfl, fun o h => absurd h (List.not_mem_nil), fun o h => absurd h (List.not_mem_nil)⟩
theorem allE_succ {c : Cols} {l : List Int} {k : Nat} (h : k < l.length) : allE c (l.take (k + 1)) = withE c (allE c (l.take k)) l[k] := by
  unfold allE
  rw [List.take_succ_eq_append_getElem h, List.foldl_append]; rfl
theorem allE_ok {c : Cols} (hc : ColOk c) {l : List Int} (hl : ∀ o ∈ l, 0 ≤ o ∧ o < (c.minutes.length : Int)) : ∀ k, k ≤ l.length → BegOk c (allE c (l.take k)) k
  | 0, _ => g0_ok c
  | k + 1, hk => by
    rw [allE_succ hk]
    exact with_ok hc (allE_ok hc hl k (by omega)) (hl _ (List.getElem_mem hk))
theorem all_s (b1 b2 b3 b4 : Bool) (c : Cols) (l : List Int) (hc : ColOk c) (hn : l.length ≤ 1000) (hl : ∀ o ∈ l, 0 ≤ o ∧ o < (c.minutes.length : Int)) : Ctr Tryz.prog 44 [cV b1 b2 b3 c, .sl b4 1 (l.map eI)] (fun rr => rr = ⟨gV true true (allE c l), []⟩) := by
  have encs := And.intro encs gV_eq
  refine Ctr.of (rs := [.cell 4 99]) Tok true Tryz.func44 rfl rfl rfl rfl (by simp [ofDL]) (fun w0 kp => ?_)
  simp only [↓sx0, sxE, encs, sevalprocAttr]
  refine LoopW.comp [2, 4, 5, 8, 9, 10] (by simp only [sx2, encs, sxR, sevalprocAttr] <;> (try simp) <;> (try omega)) ?_
  simp only [sx2, sxR, sevalprocAttr]
  refine LoopW.up Tok (fun k : Nat => [(10, (.v (.int .i64 k)))]) (fun k => [(2, [.sl true 1 ((allE c (l.take k)).order.map eI), .sl true 1 ((allE c (l.take k)).ends.map eI), .v (.bool (allE c (l.take k)).barred)])]) (fun k => []) (fun k => []) (fun k => k ≤ l.length) (fun k => l.length - k) (0) (by simp only [sx2, encs, sxR, sevalprocAttr] <;> (try simp [allE, g0, encs]) <;> (try omega)) ?_ ?_
  · omega
  rintro k hk
  simp only [↓sx0, sxE, encs, sevalprocAttr]
  refine BrW.dec (fun hlt => ?_) (fun hlt => ?_)
  · simp only [↓sx0, sxE, encs, sevalprocAttr]
    have hlt : k < l.length := by omega
    refine IxW.nat hlt ?_
    simp only [↓sx0, sxE, encs, sevalprocAttr]
    refine CallI.fn (with_s b1 b2 b3 true true c (allE c (l.take k)) k l[k] hc (allE_ok hc hl k hk) (by omega) (hl _ (List.getElem_mem hlt))) (by simp only [sx3, encs, sxR, sevalprocAttr] <;> (try simp) <;> (try rfl)) ?_
    simp only [↓sx0, sxE, encs, sevalprocAttr]
    repeat ((with_reducible refine Vc.go ?_ fun _ => ?_); (focus (first | omega | (simp only [InK]; omega) | (simp [InK]; done) | (simp [InK]; omega))); simp only [↓sx0, sxE, encs, sevalprocAttr])
    refine ⟨k + 1, StLe.auto (by simp only [sx2, encs, sxR, sevalprocAttr] <;> (try simp [allE_succ hlt, encs]) <;> (try omega)), ?_, ?_⟩
    · omega
    · omega
  · simp only [↓sx0, sxE, encs, sevalprocAttr]
    have hke : k = l.length := by omega
    subst hke
    refine EndW.fn ?_ ?_ <;> simp only [sx4, encs, kpLL_map, sxR, sevalprocAttr] <;> (try simp) <;> (try omega)
def lsK (c : Cols) (x : Beg) : Nat → Int
  | 0 => endB x
  | k + 1 => lsK c x k + if memB (k : Int) x.order = true then 0 else minE c (k : Int)
def leastE (c : Cols) (x : Beg) : Int := lsK c x c.minutes.length
theorem lsK_b {c : Cols} (hc : ColOk c) {x : Beg} {m : Nat} (h : BegOk c x m) : ∀ k, 0 ≤ lsK c x k ∧ lsK c x k ≤ 20000 * (m : Int) + 10000 * (k : Int)
  | 0 => by have := endB_b h; simp only [lsK]; omega
  | k + 1 => by
    have := lsK_b hc h k
    have hm := minE_b hc (k : Int)
    simp only [lsK]
    split <;> omega
theorem least_s (b1 b2 b3 b4 b5 : Bool) (c : Cols) (x : Beg) (m : Nat) (hc : ColOk c) (h : BegOk c x m) (hm : m ≤ 1000) : Ctr Tryz.prog 72 [cV b1 b2 b3 c, gV b4 b5 x] (fun rr => rr = ⟨(.v (.int .i64 (leastE c x))), []⟩) := by
  have encs := And.intro encs gV_eq
  have hlo := h.lo
  have hle := h.le
  have hn := hc.n
  refine Ctr.of (rs := [.tmp 4]) Tok true Tryz.func72 rfl rfl rfl rfl (by simp [ofDL]) (fun w0 kp => ?_)
  simp only [↓sx0, sxE, encs, sevalprocAttr]
  refine CallI.fn (end_s b4 b5 x (by omega)) (by simp only [sx3, encs, sxR, sevalprocAttr] <;> (try simp) <;> (try rfl)) ?_
  simp only [↓sx0, sxE, encs, sevalprocAttr]
  refine LoopW.comp [3, 5, 12, 13, 14] (by simp only [sx2, encs, sxR, sevalprocAttr] <;> (try simp) <;> (try omega)) ?_
  simp only [sx2, sxR, sevalprocAttr]
  refine LoopW.up Tok (fun k : Nat => [(5, (.v (.int .i64 (lsK c x k)))), (14, (.v (.int .i64 k)))]) (fun k => []) (fun k => []) (fun k => []) (fun k => k ≤ c.minutes.length) (fun k => c.minutes.length - k) (0) (by simp only [sx2, encs, sxR, sevalprocAttr] <;> (try simp [lsK, encs]) <;> (try omega)) ?_ ?_
  · omega
  rintro k hk
  simp only [↓sx0, sxE, encs, sevalprocAttr]
  refine BrW.dec (fun hlt => ?_) (fun hlt => ?_)
  · simp only [↓sx0, sxE, encs, sevalprocAttr]
    have hlt : k < c.minutes.length := by omega
    have hb := lsK_b hc h k
    have hmb := minE_b hc (k : Int)
    refine IxW.map (minE c (k : Int)) (by omega) (by simp [minE, List.getD_eq_getElem?_getD, List.getElem?_eq_getElem hlt]) ?_
    simp only [↓sx0, sxE, encs, sevalprocAttr]
    refine CallI.fn (containsI_s b4 x.order k (by omega)) (by simp only [sx3, encs, sxR, sevalprocAttr] <;> (try simp) <;> (try rfl)) ?_
    simp only [↓sx0, sxE, encs, sevalprocAttr]
    refine BrW.of (fun hin => ?_) (fun hin => ?_)
    · simp only [↓sx0, sxE, encs, sevalprocAttr]
      have he : lsK c x (k + 1) = lsK c x k := by simp only [lsK, hin]; simp
      repeat ((with_reducible refine Vc.go ?_ fun _ => ?_); (focus (first | omega | (simp only [InK]; omega) | (simp [InK]; done) | (simp [InK]; omega))); simp only [↓sx0, sxE, encs, sevalprocAttr])
      refine ⟨k + 1, StLe.auto (by simp only [sx2, encs, sxR, sevalprocAttr] <;> (try simp [he, encs]) <;> (try omega)), ?_, ?_⟩
      · omega
      · omega
    · simp only [↓sx0, sxE, encs, sevalprocAttr]
      have he : lsK c x (k + 1) = lsK c x k + minE c (k : Int) := by simp only [lsK, hin]; simp
      repeat ((with_reducible refine Vc.go ?_ fun _ => ?_); (focus (first | omega | (simp only [InK]; omega) | (simp [InK]; done) | (simp [InK]; omega))); simp only [↓sx0, sxE, encs, sevalprocAttr])
      refine ⟨k + 1, StLe.auto (by simp only [sx2, encs, sxR, sevalprocAttr] <;> (try simp [he, encs]) <;> (try omega)), ?_, ?_⟩
      · omega
      · omega
  · simp only [↓sx0, sxE, encs, sevalprocAttr]
    have hke : k = c.minutes.length := by omega
    subst hke
    refine EndW.fn ?_ ?_ <;> simp only [sx4, encs, kpLL_map, sxR, sevalprocAttr] <;> (try simp [leastE]) <;> (try omega)
end Go.Proofs.YtfojggadhhaleaaGreatDoor
/-
  Chapter 9, walks: a tree of orders grows.
-/
namespace Go.Proofs.YtfojggadhhaleaaGreatDoor
open Go Go.Vx
set_option linter.unusedSimpArgs false
set_option linter.unusedVariables false
set_option maxRecDepth 20000
/-- A node; its next ones may be nil. -/
structure Nd where
  kind : Int
  next : Option (List Int)
def eO1 : Option (List Int) → D
  | none => .v (.slice none 0 0)
  | some l => .sl true 1 (l.map eI)
def eM (x : Nd) : List D := [.v (.int .i64 x.kind), eO1 x.next]
theorem eM_eqs : (∀ x, eM x = [.v (.int .i64 x.kind), eO1 x.next]) ∧ (eO1 none = .v (.slice none 0 0)) ∧ (∀ l, eO1 (some l) = .sl true 1 (l.map eI)) := ⟨fun _ => rfl, rfl, fun _ => rfl⟩
theorem mod_last {l : List (List D)} {y z : List D} {f : List D → List D} (h : f y = z) : (l ++ [y]).modify ((l.length : Int)).toNat f = l ++ [z] := by
  rw [Int.toNat_natCast]
  induction l with
  | nil => simp [h]
  | cons a l ih => simpa using ih
theorem modN {l : List Nd} {y : List D} {f : List D → List D} : (l.map eM ++ [y]).modify l.length f = l.map eM ++ [f y] := by
  have := mod_last (l := l.map eM) (y := y) (f := f) rfl
  rwa [List.length_map, Int.toNat_natCast] at this
theorem modP {l t : List Nd} {y : List D} {f : List D → List D} : (l.map eM ++ y :: t.map eM).modify l.length f = l.map eM ++ f y :: t.map eM := by
  induction l with
  | nil => simp
  | cons a l ih => simpa using ih
theorem setNd {l t : List Nd} {y z : Nd} : (l ++ [y] ++ t).set l.length z = l ++ z :: t := by
  induction l with
  | nil => simp
  | cons a l ih => simp
theorem kpO (n : Option (List Int)) : kpD (eO1 n) := by
  cases n with
  | none => trivial
  | some l => simp [eO1, kpD, kpLL_map, eI, kpL]
def grK (c : Cols) (rec : Beg → List Nd → List Nd) (x : Beg) (nodes : List Nd) : Nat → List Nd × List Int
  | 0 => (nodes ++ [⟨0, none⟩], [])
  | k + 1 => if memB (k : Int) x.order = true then grK c rec x nodes k else (rec (withE c x (k : Int)) (grK c rec x nodes k).1, (grK c rec x nodes k).2 ++ [((grK c rec x nodes k).1.length : Int)])
def grF (c : Cols) (ms : Int) (rec : Beg → List Nd → List Nd) (x : Beg) (nodes : List Nd) : List Nd :=
  if x.barred = true then nodes ++ [⟨1, none⟩]
  else if ms ≤ leastE c x then nodes ++ [⟨2, none⟩]
  else (grK c rec x nodes c.minutes.length).1.set nodes.length ⟨0, some (grK c rec x nodes c.minutes.length).2⟩
def growE (c : Cols) (ms : Int) : Nat → Beg → List Nd → List Nd
  | 0 => grF c ms fun _ t => t
  | f + 1 => grF c ms (growE c ms f)
def nB : Nat → Nat
  | 0 => 1
  | f + 1 => 1 + 6 * nB f
theorem pre_set {α : Type} {l m : List α} {y : α} (h : l <+: m) : l <+: m.set l.length y := by
  obtain ⟨t, rfl⟩ := h
  rw [List.set_append_right _ _ (Nat.le_refl _)]
  exact List.prefix_append _ _
theorem grK_pre {c : Cols} {rec : Beg → List Nd → List Nd} (hp : ∀ y t, t <+: rec y t) (x : Beg) (nodes : List Nd) : ∀ k, (nodes ++ [⟨0, none⟩]) <+: (grK c rec x nodes k).1
  | 0 => List.prefix_rfl
  | k + 1 => by
    have ih := grK_pre hp x nodes k (c := c)
    simp only [grK]
    split
    · exact ih
    · exact ih.trans (hp _ _)
theorem grF_pre {c : Cols} {ms : Int} {rec : Beg → List Nd → List Nd} (hp : ∀ y t, t <+: rec y t) (x : Beg) (nodes : List Nd) : nodes <+: grF c ms rec x nodes := by
  unfold grF
  split
  · exact List.prefix_append _ _
  · split
    · exact List.prefix_append _ _
    · exact pre_set ((List.prefix_append _ _).trans (grK_pre hp x nodes _))
theorem growE_pre (c : Cols) (ms : Int) : ∀ f y t, t <+: growE c ms f y t
  | 0, y, t => grF_pre (fun _ _ => List.prefix_rfl) y t
  | f + 1, y, t => grF_pre (growE_pre c ms f) y t
theorem grK_len {c : Cols} {rec : Beg → List Nd → List Nd} {B : Nat} (hl : ∀ y t, (rec y t).length ≤ t.length + B) (x : Beg) (nodes : List Nd) : ∀ k, (grK c rec x nodes k).1.length ≤ nodes.length + 1 + k * B ∧ (grK c rec x nodes k).2.length ≤ k
  | 0 => by simp [grK]
  | k + 1 => by
    have ih := grK_len hl x nodes k (c := c)
    have h2 := hl (withE c x (k : Int)) (grK c rec x nodes k).1
    rw [Nat.succ_mul]
    simp only [grK]
    split
    · omega
    · simp only [List.length_append, List.length_singleton]; omega
theorem grF_len {c : Cols} (hn : c.minutes.length ≤ 6) {ms : Int} {rec : Beg → List Nd → List Nd} {B : Nat} (hl : ∀ y t, (rec y t).length ≤ t.length + B) (x : Beg) (nodes : List Nd) : (grF c ms rec x nodes).length ≤ nodes.length + (1 + 6 * B) := by
  unfold grF
  have h := (grK_len hl x nodes c.minutes.length (c := c)).1
  have h2 : c.minutes.length * B ≤ 6 * B := Nat.mul_le_mul_right _ hn
  split
  · simp
  · split
    · simp
    · rw [List.length_set]; omega
theorem growE_len {c : Cols} (hn : c.minutes.length ≤ 6) (ms : Int) : ∀ f y t, (growE c ms f y t).length ≤ t.length + nB f
  | 0, y, t => by
    have := grF_len hn (ms := ms) (rec := fun _ t => t) (B := 0) (fun _ _ => Nat.le_refl _) y t
    simpa only [growE, nB] using this
  | f + 1, y, t => grF_len hn (growE_len hn ms f) y t
def gC (c : Cols) (ms : Int) : List SV := [.sl true 1 (c.minutes.map eI), .sl true 1 (c.dry.map (eIB true)), (.v (.int .i64 ms)), .row 0]
theorem gC_eq (c : Cols) (ms : Int) : gC c ms = [.sl true 1 (c.minutes.map eI), .sl true 1 (c.dry.map (eIB true)), (.v (.int .i64 ms)), .row 0] := rfl
def GrowS (c : Cols) (ms : Int) (x : Beg) (nodes res : List Nd) : Prop :=
  CtrM Tryz.prog 46 95 (gC c ms) [.own 126 2 (nodes.map eM)] [gV true true x] (fun sv cells' rw' => sv = (.v (.int .i64 nodes.length)) ∧ cells' = gC c ms ∧ rw' = [.own 126 2 (res.map eM)])
theorem growStep (c : Cols) (ms : Int) (hc : ColOk c) (rec : Beg → List Nd → List Nd) (B : Nat) (hp : ∀ y t, t <+: rec y t) (hl : ∀ y t, (rec y t).length ≤ t.length + B) (x : Beg) (m : Nat) (h : BegOk c x m) (hm : m ≤ 6) (nodes : List Nd)
    (hN : nodes.length + (1 + 6 * B) ≤ 1000000) (hr : ∀ i : Nat, i < c.minutes.length → memB (i : Int) x.order = false → ∀ t : List Nd, t.length + B ≤ 1000000 → GrowS c ms (withE c x (i : Int)) t (rec (withE c x (i : Int)) t)) : GrowS c ms x nodes (grF c ms rec x nodes) := by
  unfold GrowS
  have encs := And.intro (And.intro (And.intro encs gV_eq) gC_eq) sxMut
  have hlo := h.lo
  have hle := h.le
  have hn := hc.n
  refine CtrM.of (rs := [.tmp 4]) Tok Tryz.func46 rfl rfl rfl rfl (by simp [ofDL]) (by first | exact noFrz0 | exact noFrz1 _ _ _) (fun w0 kp ρ σ μ np nsz => ?_)
  simp only [↓sx0, sxE, encs, sevalprocAttr]
  repeat ((with_reducible refine Vc.go ?_ fun _ => ?_); (focus (first | omega | (simp only [InK]; omega) | (simp [InK]; done) | (simp [InK]; omega))); simp only [↓sx0, sxE, encs, sevalprocAttr])
  refine BrW.of (fun hb => ?_) (fun hb => ?_)
  · simp only [↓sx0, sxE, encs, sevalprocAttr]
    repeat ((with_reducible refine Vc.go ?_ fun _ => ?_); (focus (first | omega | (simp only [InK]; omega) | (simp [InK]; done) | (simp [InK]; omega))); simp only [↓sx0, sxE, encs, sevalprocAttr])
    refine EndM.r [some 2] (.v (.int .i64 nodes.length)) (gC c ms) [.own 126 2 ((nodes ++ [(⟨1, none⟩ : Nd)]).map eM)] ?_ (by simp) (by simp only [sx2, encs, kpLL_map, List.map_cons, List.map_nil, sxR, sevalprocAttr] <;> simp [modN, modE, eM_eqs, kpL, kpD, kpO]) (by simp only [sx2, encs, kpLL_map, List.map_cons, List.map_nil, sxR, sevalprocAttr] <;> simp [modN, modE, eM_eqs, kpL, kpD, kpO]) (by simp only [sx2, encs, kpLL_map, List.map_cons, List.map_nil, sxR, sevalprocAttr] <;> simp [modN, modE, eM_eqs, kpL, kpD, kpO]) (by simp only [sx2, encs, kpLL_map, List.map_cons, List.map_nil, sxR, sevalprocAttr] <;> simp [modN, modE, eM_eqs, kpL, kpD, kpO]) (by simp only [sx2, encs, kpLL_map, List.map_cons, List.map_nil, sxR, sevalprocAttr] <;> simp [modN, modE, eM_eqs, kpL, kpD, kpO]) (by simp only [sx2, encs, kpLL_map, List.map_cons, List.map_nil, sxR, sevalprocAttr] <;> simp [modN, modE, eM_eqs, kpL, kpD, kpO])
    exact ⟨rfl, rfl, by rw [grF, if_pos hb]⟩
  · simp only [↓sx0, sxE, encs, sevalprocAttr]
    have hb' : ¬ x.barred = true := by rw [hb]; decide
    refine DrawW.plan Tok mixed (.q 0 <| .q 1 <| .q 2 <| .q 3 <| .q 4 <| .q 6 <| .q 7 <| .q 8 <| .q 9 <| .e 5 [9] <| .q 10 <| .q 11 <| .done) (by kernel_rfl) (by kernel_rfl) ?_
    simp only [↓sx0, sxE, encs, sevalprocAttr]
    refine CallI.fn (least_s true true true true true c x m hc h (by omega)) (by simp only [sx3, encs, sxR, sevalprocAttr] <;> (try simp) <;> (try rfl)) ?_
    simp only [↓sx0, sxE, encs, sevalprocAttr]
    refine BrW.dec (fun h2 => ?_) (fun h2 => ?_)
    · simp only [↓sx0, sxE, encs, sevalprocAttr]
      repeat ((with_reducible refine Vc.go ?_ fun _ => ?_); (focus (first | omega | (simp only [InK]; omega) | (simp [InK]; done) | (simp [InK]; omega))); simp only [↓sx0, sxE, encs, sevalprocAttr])
      refine EndM.r [some 2] (.v (.int .i64 nodes.length)) (gC c ms) [.own 126 2 ((nodes ++ [(⟨2, none⟩ : Nd)]).map eM)] ?_ (by simp) (by simp only [sx2, encs, kpLL_map, List.map_cons, List.map_nil, sxR, sevalprocAttr] <;> simp [modN, modE, eM_eqs, kpL, kpD, kpO]) (by simp only [sx2, encs, kpLL_map, List.map_cons, List.map_nil, sxR, sevalprocAttr] <;> simp [modN, modE, eM_eqs, kpL, kpD, kpO]) (by simp only [sx2, encs, kpLL_map, List.map_cons, List.map_nil, sxR, sevalprocAttr] <;> simp [modN, modE, eM_eqs, kpL, kpD, kpO]) (by simp only [sx2, encs, kpLL_map, List.map_cons, List.map_nil, sxR, sevalprocAttr] <;> simp [modN, modE, eM_eqs, kpL, kpD, kpO]) (by simp only [sx2, encs, kpLL_map, List.map_cons, List.map_nil, sxR, sevalprocAttr] <;> simp [modN, modE, eM_eqs, kpL, kpD, kpO]) (by simp only [sx2, encs, kpLL_map, List.map_cons, List.map_nil, sxR, sevalprocAttr] <;> simp [modN, modE, eM_eqs, kpL, kpD, kpO])
      exact ⟨rfl, rfl, by rw [grF, if_neg hb', if_pos (by omega)]⟩
    · simp only [↓sx0, sxE, encs, sevalprocAttr]
      have h2' : ¬ ms ≤ leastE c x := by omega
      refine LoopW.comp [0, 3, 5, 6, 60, 61] (by simp only [sx2, encs, sxR, sevalprocAttr] <;> (try simp) <;> (try omega)) ?_
      simp only [sx2, sxR, sevalprocAttr]
      refine LoopW.up Tok (fun k : Nat => [(6, .row 1), (61, (.v (.int .i64 k)))]) (fun k => [(0, [.sl true 1 (c.minutes.map eI), .sl true 1 (c.dry.map (eIB true)), (.v (.int .i64 ms)), .row 0])]) (fun k => [(0, (grK c rec x nodes k).1.map eM)]) (fun k => [.own 3 1 ((grK c rec x nodes k).2.map eI)]) (fun k => k ≤ c.minutes.length) (fun k => c.minutes.length - k) (0) (by simp only [sx2, encs, sxR, sevalprocAttr] <;> (try simp [grK, eM_eqs, encs]) <;> (try omega)) ?_ ?_
      · omega
      rintro k hk
      simp only [↓sx0, sxE, encs, sevalprocAttr]
      refine BrW.dec (fun hlt => ?_) (fun hlt => ?_)
      · simp only [↓sx0, sxE, encs, sevalprocAttr]
        have hlt : k < c.minutes.length := by omega
        have hgl := grK_len hl x nodes k (c := c)
        have hkB : k * B ≤ 5 * B := Nat.mul_le_mul_right _ (by omega)
        refine CallI.fn (containsI_s true x.order k (by omega)) (by simp only [sx3, encs, sxR, sevalprocAttr] <;> (try simp) <;> (try rfl)) ?_
        simp only [↓sx0, sxE, encs, sevalprocAttr]
        refine BrW.of (fun hin => ?_) (fun hin => ?_)
        · simp only [↓sx0, sxE, encs, sevalprocAttr]
          have he : grK c rec x nodes (k + 1) = grK c rec x nodes k := by simp only [grK, hin, if_true]
          repeat ((with_reducible refine Vc.go ?_ fun _ => ?_); (focus (first | omega | (simp only [InK]; omega) | (simp [InK]; done) | (simp [InK]; omega))); simp only [↓sx0, sxE, encs, sevalprocAttr])
          refine ⟨k + 1, StLe.auto (by simp only [sx2, encs, sxR, sevalprocAttr] <;> (try simp [he, encs]) <;> (try omega)), ?_, ?_⟩
          · omega
          · omega
        · simp only [↓sx0, sxE, encs, sevalprocAttr]
          have he : grK c rec x nodes (k + 1) = (rec (withE c x (k : Int)) (grK c rec x nodes k).1, (grK c rec x nodes k).2 ++ [((grK c rec x nodes k).1.length : Int)]) := by simp only [grK, hin]; simp
          refine DrawW.plan Tok mixed (.q 0 <| .q 1 <| .q 2 <| .q 3 <| .q 4 <| .q 5 <| .q 6 <| .q 7 <| .e 8 [] <| .e 9 [] <| .e 10 [] <| .e 11 [] <| .q 12 <| .done) (by kernel_rfl) (by kernel_rfl) ?_
          simp only [↓sx0, sxE, encs, sevalprocAttr]
          refine CallI.fn (with_s true true true true true c x m k hc h (by omega) (by omega)) (by simp only [sx3, encs, sxR, sevalprocAttr] <;> (try simp) <;> (try rfl)) ?_
          simp only [↓sx0, sxE, encs, sevalprocAttr]
          have hg := hr k hlt hin (grK c rec x nodes k).1 (by omega)
          unfold GrowS at hg
          refine CallI.ctrM (k := 0) (γ := [some 0]) (hg) rfl (by simp only [sx2, encs, List.map_cons, List.map_nil, sxR, sevalprocAttr] <;> (try simp)) (by simp) (by simp only [sx2, encs, List.map_cons, List.map_nil, sxR, sevalprocAttr] <;> (try simp)) (by simp only [sx2, encs, List.map_cons, List.map_nil, sxR, sevalprocAttr] <;> (try simp)) (noGhB_spec rfl) ?_
          rintro _ _ _ ⟨rfl, rfl, rfl⟩
          simp only [↓sx0, sxE, encs, sevalprocAttr]
          repeat ((with_reducible refine Vc.go ?_ fun _ => ?_); (focus (first | omega | (simp only [InK]; omega) | (simp [InK]; done) | (simp [InK]; omega))); simp only [↓sx0, sxE, encs, sevalprocAttr])
          refine ⟨k + 1, StLe.auto (by simp only [sx2, encs, sxR, sevalprocAttr] <;> (try simp [he, encs]) <;> (try omega)), ?_, ?_⟩
          · omega
          · omega
      · simp only [↓sx0, sxE, encs, sevalprocAttr]
        have hke : k = c.minutes.length := by omega
        have hgl := grK_len hl x nodes k (c := c)
        have hgp := grK_pre hp x nodes k (c := c)
        have hF : grF c ms rec x nodes = (grK c rec x nodes k).1.set nodes.length ⟨0, some (grK c rec x nodes k).2⟩ := by rw [grF, if_neg hb', if_neg h2', hke]
        obtain ⟨t, ht⟩ := hgp
        generalize hL : (grK c rec x nodes k).1 = L at *
        generalize hR : (grK c rec x nodes k).2 = R at *
        subst ht
        rw [setNd] at hF
        have hlen : (nodes ++ [(⟨0, none⟩ : Nd)] ++ t).length = nodes.length + 1 + t.length := by simp; omega
        repeat ((with_reducible refine Vc.go ?_ fun _ => ?_); (focus (first | omega | (simp only [InK]; omega) | (simp [InK]; done) | (simp [InK]; omega))); simp only [↓sx0, sxE, encs, sevalprocAttr])
        refine EndM.r [some 0] (.v (.int .i64 nodes.length)) (gC c ms) [.own 126 2 ((nodes ++ (⟨0, some R⟩ : Nd) :: t).map eM)] ?_ (by simp) (by simp only [sx2, encs, kpLL_map, List.map_cons, List.map_nil, sxR, sevalprocAttr] <;> simp [modP, modE, eM_eqs, kpL, kpD, kpO, kpLL_map]) (by simp only [sx2, encs, kpLL_map, List.map_cons, List.map_nil, sxR, sevalprocAttr] <;> simp [modP, modE, eM_eqs, kpL, kpD, kpO, kpLL_map]) (by simp only [sx2, encs, kpLL_map, List.map_cons, List.map_nil, sxR, sevalprocAttr] <;> simp [modP, modE, eM_eqs, kpL, kpD, kpO, kpLL_map]) (by simp only [sx2, encs, kpLL_map, List.map_cons, List.map_nil, sxR, sevalprocAttr] <;> simp [modP, modE, eM_eqs, kpL, kpD, kpO, kpLL_map]) (by simp only [sx2, encs, kpLL_map, List.map_cons, List.map_nil, sxR, sevalprocAttr] <;> simp [modP, modE, eM_eqs, kpL, kpD, kpO, kpLL_map]) (by simp only [sx2, encs, kpLL_map, List.map_cons, List.map_nil, sxR, sevalprocAttr] <;> simp [modP, modE, eM_eqs, kpL, kpD, kpO, kpLL_map])
        exact ⟨rfl, rfl, by rw [hF]⟩
theorem nodup_full {n : Nat} {l : List Int} (hd : l.Nodup) (hl : l.length = n) (hb : ∀ o ∈ l, 0 ≤ o ∧ o < (n : Int)) {i : Nat} (hi : i < n) : (i : Int) ∈ l := by
  refine Classical.byContradiction fun hn => ?_
  have h1 : ((i : Int) :: l).Nodup := List.nodup_cons.2 ⟨hn, hd⟩
  have h2 : ∀ o ∈ (i : Int) :: l, o ∈ (List.range n).map (fun k : Nat => (k : Int)) := fun o ho => by
    rw [List.mem_map]
    rcases List.mem_cons.1 ho with rfl | ho
    · exact ⟨i, List.mem_range.2 hi, rfl⟩
    · have := hb o ho
      exact ⟨o.toNat, List.mem_range.2 (by omega), by omega⟩
  have h3 := List.Nodup.length_le_of_subset h1 h2
  simp at h3; omega
theorem grow_s (c : Cols) (ms : Int) (hc : ColOk c) : ∀ (f : Nat) (x : Beg) (m : Nat) (nodes : List Nd), BegOk c x m → m + f = c.minutes.length → x.order.Nodup → nodes.length + nB f ≤ 1000000 → GrowS c ms x nodes (growE c ms f x nodes)
  | 0, x, m, nodes, h, hm, hd, hN => by
    have hn := hc.n
    refine growStep c ms hc _ 0 (fun _ _ => List.prefix_rfl) (fun _ _ => Nat.le_refl _) x m h (by omega) nodes (by simp only [nB] at hN; omega) fun i hi hin => ?_
    rw [memB_not] at hin
    exact absurd (nodup_full hd (by rw [h.lo]; omega) h.o hi) hin
  | f + 1, x, m, nodes, h, hm, hd, hN => by
    have hn := hc.n
    refine growStep c ms hc _ (nB f) (growE_pre c ms f) (growE_len hn ms f) x m h (by omega) nodes (by simp only [nB] at hN; omega) fun i hi hin t ht => ?_
    rw [memB_not] at hin
    refine grow_s c ms hc f _ (m + 1) t (with_ok hc h (by omega)) (by omega) ?_ ht
    simp only [withE, List.nodup_append, List.nodup_cons, List.not_mem_nil, not_false_eq_true, List.nodup_nil, and_self, true_and, List.mem_singleton]
    exact ⟨hd, fun a ha b hb e => hin (by rw [← hb, ← e]; exact ha)⟩
end Go.Proofs.YtfojggadhhaleaaGreatDoor
