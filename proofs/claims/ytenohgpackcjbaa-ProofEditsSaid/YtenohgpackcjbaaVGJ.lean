/-
  Chapter 8, walks: labels of edits are checked (reference).
-/
import Derived.Test.YtenohgpackcjbaaVGI
import Derived.Test.YtenohgpackcjbaaVDrF
namespace Go.Proofs.Ytenohgpackcjbaa
open Go Go.Vx
set_option linter.unusedSimpArgs false
set_option linter.unusedVariables false
set_option maxRecDepth 20000
theorem copyTexts_s (b : Bool) (l : List ByteArray) (hl : l.length ≤ 1000000) : Ctr Try.prog 36 [.sl b 1 (l.map eS)] (fun rr => rr = ⟨.sl true 1 (l.map eS), []⟩) := by
  refine Ctr.of (rs := [.tmp 2]) Tok true Try.func36 rfl rfl rfl rfl (by simp [ofDL]) (fun w0 kp => ?_)
  simp only [↓sx0, sx1, encs, tys, sxR, sevalprocAttr]
  repeat ((with_reducible refine Vc.go ?_ fun _ => ?_); (focus (first | omega | (simp only [InK]; omega) | (simp [InK]; done) | (simp [InK]; omega))); simp only [↓sx0, sx1, encs, tys, sxR, sevalprocAttr])
  exact EndW.fn (by simp only [sx4, encs, kpLL_map, sxR, sevalprocAttr] <;> (try simp) <;> (try omega)) (by simp only [sx4, encs, kpLL_map, sxR, sevalprocAttr] <;> (try simp) <;> (try omega))
theorem copyInts_s (b : Bool) (l : List Int) (hl : l.length ≤ 1000000) : Ctr Try.prog 37 [.sl b 1 (l.map eI)] (fun rr => rr = ⟨.sl true 1 (l.map eI), []⟩) := by
  refine Ctr.of (rs := [.tmp 2]) Tok true Try.func37 rfl rfl rfl rfl (by simp [ofDL]) (fun w0 kp => ?_)
  simp only [↓sx0, sx1, encs, tys, sxR, sevalprocAttr]
  repeat ((with_reducible refine Vc.go ?_ fun _ => ?_); (focus (first | omega | (simp only [InK]; omega) | (simp [InK]; done) | (simp [InK]; omega))); simp only [↓sx0, sx1, encs, tys, sxR, sevalprocAttr])
  exact EndW.fn (by simp only [sx4, encs, kpLL_map, sxR, sevalprocAttr] <;> (try simp) <;> (try omega)) (by simp only [sx4, encs, kpLL_map, sxR, sevalprocAttr] <;> (try simp) <;> (try omega))
def szB (s : ByteArray) : Bool := decide (s.size ≤ 40)
def lenS (n : Nat) : Bool := decide (n ≤ 10) || (decide (40 < n) && decide (n ≤ 42))
def slimB (l : List ByteArray) : Bool := lenS l.length && l.all szB
theorem slim_bad {l : List ByteArray} {k : Nat} (h : k < l.length) (hb : szB l[k] = false) : slimB l = false := by
  rw [slimB, Bool.and_eq_false_iff]
  refine .inr ?_
  rw [← Bool.not_eq_true, List.all_eq_true]
  intro hc
  have := hc _ (List.getElem_mem h)
  rw [hb] at this; cases this
theorem slim_all {l : List ByteArray} (h : slimB l = true) : AllSz l ∧ l.length ≤ 42 := by
  simp only [slimB, Bool.and_eq_true, List.all_eq_true] at h
  refine ⟨fun s hs => ?_, ?_⟩
  · have := h.2 s hs
    simp only [szB, decide_eq_true_eq] at this; omega
  · have := h.1
    simp only [lenS, Bool.or_eq_true, Bool.and_eq_true, decide_eq_true_eq] at this
    omega
theorem short_s (b : Bool) (l : List ByteArray) (hl : l.length ≤ maxLen) : Ctr Try.prog 55 [.sl b 1 (l.map eS), (.v (.int .i64 10)), (.v (.int .i64 40))] (fun rr => rr = ⟨(.v (.bool (slimB l))), []⟩) := by
  simp only [maxLen] at hl
  refine Ctr.of (rs := [.tmp 6]) Tok true Try.func55 rfl rfl rfl rfl (by simp [ofDL]) (fun w0 kp => ?_)
  simp only [↓sx0, sx1, encs, tys, sxR, sevalprocAttr]
  by_cases hf : lenS l.length = true
  · have main : slimB l = l.all szB := by rw [slimB, hf, Bool.true_and]
    have hf2 := hf
    simp only [lenS, Bool.or_eq_true, Bool.and_eq_true, decide_eq_true_eq] at hf2
    rw [main]
    by_cases h8 : l.length ≤ 10
    · repeat ((with_reducible refine BrW.no (by omega) ?_); simp only [↓sx0, sx1, encs, tys, sxR, sevalprocAttr])
      repeat ((with_reducible refine Vc.go ?_ fun _ => ?_); (focus (first | omega | (simp only [InK]; omega) | (simp [InK]; done) | (simp [InK]; omega))); simp only [↓sx0, sx1, encs, tys, sxR, sevalprocAttr])
      repeat ((with_reducible refine BrW.no (by omega) ?_); simp only [↓sx0, sx1, encs, tys, sxR, sevalprocAttr])
      refine LoopW.comp [0, 7] (by simp only [sx2, encs, sxR, sevalprocAttr] <;> (try simp) <;> (try omega)) ?_
      simp only [sx2, sxR, sevalprocAttr]
      refine LoopW.up Tok (fun k : Nat => [(7, (.v (.int .i64 k)))]) (fun k => []) (fun k => []) (fun k => []) (fun k => k ≤ l.length ∧ (l.take k).all szB = true) (fun k => l.length - k) (0) (by simp only [sx2, encs, sxR, sevalprocAttr] <;> (try simp) <;> (try omega)) ?_ ?_
      · exact ⟨by omega, by simp⟩
      rintro k ⟨hk, ht⟩
      simp only [↓sx0, sx1, encs, tys, sxR, sevalprocAttr]
      refine BrW.dec (fun hlt => ?_) (fun hlt => ?_)
      · simp only [↓sx0, sx1, encs, tys, sxR, sevalprocAttr]
        have hkl : k < l.length := by omega
        refine IxW.nat hkl ?_
        simp only [↓sx0, sx1, encs, tys, sxR, sevalprocAttr]
        refine BrW.dec (fun hb => ?_) (fun hb => ?_)
        · have := slim_bad hkl (show szB l[k] = false by simp [szB]; omega)
          rw [main] at this
          simp only [↓sx0, sx1, encs, tys, sxR, sevalprocAttr]
          exact EndW.fn (by simp only [sx4, encs, kpLL_map, sxR, sevalprocAttr] <;> (try simp [this]) <;> (try omega)) (by simp only [sx4, encs, kpLL_map, sxR, sevalprocAttr] <;> (try simp) <;> (try omega))
        · simp only [↓sx0, sx1, encs, tys, sxR, sevalprocAttr]
          repeat ((with_reducible refine Vc.go ?_ fun _ => ?_); (focus (first | omega | (simp only [InK]; omega) | (simp [InK]; done) | (simp [InK]; omega))); simp only [↓sx0, sx1, encs, tys, sxR, sevalprocAttr])
          refine ⟨k + 1, StLe.auto (by simp only [sx2, encs, sxR, sevalprocAttr] <;> (try simp) <;> (try omega)), ?_, ?_⟩
          · exact ⟨hkl, by rw [List.take_succ_eq_append_getElem hkl, List.all_append, ht]; simp [szB]; omega⟩
          · omega
      · simp only [↓sx0, sx1, encs, tys, sxR, sevalprocAttr]
        have hke : k = l.length := by omega
        subst hke
        rw [List.take_length] at ht
        exact EndW.fn (by simp only [sx4, encs, kpLL_map, sxR, sevalprocAttr] <;> (try simp [ht]) <;> (try omega)) (by simp only [sx4, encs, kpLL_map, sxR, sevalprocAttr] <;> (try simp) <;> (try omega))
    · repeat ((first | (with_reducible refine BrW.yes (by omega) ?_) | (with_reducible refine BrW.no (by omega) ?_)); (try simp only [↓sx0, sx1, encs, tys, sxR, sevalprocAttr]))
      repeat ((with_reducible refine Vc.go ?_ fun _ => ?_); (focus (first | omega | (simp only [InK]; omega) | (simp [InK]; done) | (simp [InK]; omega))); simp only [↓sx0, sx1, encs, tys, sxR, sevalprocAttr])
      repeat ((first | (with_reducible refine BrW.yes (by omega) ?_) | (with_reducible refine BrW.no (by omega) ?_)); (try simp only [↓sx0, sx1, encs, tys, sxR, sevalprocAttr]))
      refine LoopW.comp [0, 7] (by simp only [sx2, encs, sxR, sevalprocAttr] <;> (try simp) <;> (try omega)) ?_
      simp only [sx2, sxR, sevalprocAttr]
      refine LoopW.up Tok (fun k : Nat => [(7, (.v (.int .i64 k)))]) (fun k => []) (fun k => []) (fun k => []) (fun k => k ≤ l.length ∧ (l.take k).all szB = true) (fun k => l.length - k) (0) (by simp only [sx2, encs, sxR, sevalprocAttr] <;> (try simp) <;> (try omega)) ?_ ?_
      · exact ⟨by omega, by simp⟩
      rintro k ⟨hk, ht⟩
      simp only [↓sx0, sx1, encs, tys, sxR, sevalprocAttr]
      refine BrW.dec (fun hlt => ?_) (fun hlt => ?_)
      · simp only [↓sx0, sx1, encs, tys, sxR, sevalprocAttr]
        have hkl : k < l.length := by omega
        refine IxW.nat hkl ?_
        simp only [↓sx0, sx1, encs, tys, sxR, sevalprocAttr]
        refine BrW.dec (fun hb => ?_) (fun hb => ?_)
        · have := slim_bad hkl (show szB l[k] = false by simp [szB]; omega)
          rw [main] at this
          simp only [↓sx0, sx1, encs, tys, sxR, sevalprocAttr]
          exact EndW.fn (by simp only [sx4, encs, kpLL_map, sxR, sevalprocAttr] <;> (try simp [this]) <;> (try omega)) (by simp only [sx4, encs, kpLL_map, sxR, sevalprocAttr] <;> (try simp) <;> (try omega))
        · simp only [↓sx0, sx1, encs, tys, sxR, sevalprocAttr]
          repeat ((with_reducible refine Vc.go ?_ fun _ => ?_); (focus (first | omega | (simp only [InK]; omega) | (simp [InK]; done) | (simp [InK]; omega))); simp only [↓sx0, sx1, encs, tys, sxR, sevalprocAttr])
          refine ⟨k + 1, StLe.auto (by simp only [sx2, encs, sxR, sevalprocAttr] <;> (try simp) <;> (try omega)), ?_, ?_⟩
          · exact ⟨hkl, by rw [List.take_succ_eq_append_getElem hkl, List.all_append, ht]; simp [szB]; omega⟩
          · omega
      · simp only [↓sx0, sx1, encs, tys, sxR, sevalprocAttr]
        have hke : k = l.length := by omega
        subst hke
        rw [List.take_length] at ht
        exact EndW.fn (by simp only [sx4, encs, kpLL_map, sxR, sevalprocAttr] <;> (try simp [ht]) <;> (try omega)) (by simp only [sx4, encs, kpLL_map, sxR, sevalprocAttr] <;> (try simp) <;> (try omega))
  · have hf : lenS l.length = false := by simpa using hf
    have hf2 := hf
    simp only [lenS, Bool.or_eq_false_iff, Bool.and_eq_false_iff, decide_eq_false_iff_not] at hf2
    rw [show slimB l = false by rw [slimB, hf, Bool.false_and]]
    by_cases h8 : l.length ≤ 40
    · repeat ((first | (with_reducible refine BrW.yes (by omega) ?_) | (with_reducible refine BrW.no (by omega) ?_)); (try simp only [↓sx0, sx1, encs, tys, sxR, sevalprocAttr]))
      exact EndW.fn (by simp only [sx4, encs, kpLL_map, sxR, sevalprocAttr] <;> (try simp) <;> (try omega)) (by simp only [sx4, encs, kpLL_map, sxR, sevalprocAttr] <;> (try simp) <;> (try omega))
    · repeat ((first | (with_reducible refine BrW.yes (by omega) ?_) | (with_reducible refine BrW.no (by omega) ?_)); (try simp only [↓sx0, sx1, encs, tys, sxR, sevalprocAttr]))
      repeat ((with_reducible refine Vc.go ?_ fun _ => ?_); (focus (first | omega | (simp only [InK]; omega) | (simp [InK]; done) | (simp [InK]; omega))); simp only [↓sx0, sx1, encs, tys, sxR, sevalprocAttr])
      repeat ((first | (with_reducible refine BrW.yes (by omega) ?_) | (with_reducible refine BrW.no (by omega) ?_)); (try simp only [↓sx0, sx1, encs, tys, sxR, sevalprocAttr]))
      exact EndW.fn (by simp only [sx4, encs, kpLL_map, sxR, sevalprocAttr] <;> (try simp) <;> (try omega)) (by simp only [sx4, encs, kpLL_map, sxR, sevalprocAttr] <;> (try simp) <;> (try omega))
theorem slim_s (b : Bool) (l : List ByteArray) (hl : l.length ≤ maxLen) : Ctr Try.prog 34 [.sl b 1 (l.map eS)] (fun rr => rr = ⟨(.v (.bool (slimB l))), []⟩) := by
  refine Ctr.of (rs := [.tmp 2]) Tok true Try.func34 rfl rfl rfl rfl (by simp [ofDL]) (fun w0 kp => ?_)
  simp only [↓sx0, sx1, encs, tys, sxR, sevalprocAttr]
  refine CallI.fn (short_s b l hl) (by simp only [sx3, encs, sxR, sevalprocAttr] <;> (try simp) <;> (try rfl)) ?_
  simp only [↓sx0, sx1, encs, tys, sxR, sevalprocAttr]
  exact EndW.fn (by simp only [sx4, encs, kpLL_map, sxR, sevalprocAttr] <;> (try simp) <;> (try omega)) (by simp only [sx4, encs, kpLL_map, sxR, sevalprocAttr] <;> (try simp) <;> (try omega))
theorem any_append_take {p : ByteArray → Bool} {l m : List ByteArray} {k : Nat} (h : k < l.length) (hb : p l[k] = true) : (l ++ m).any p = true := by
  rw [List.any_eq_true]; exact ⟨_, List.mem_append_left _ (List.getElem_mem h), hb⟩
theorem compared_s (b1 b2 : Bool) (l m : List ByteArray) (hl : AllSz l) (hm : AllSz m) : Ctr Try.prog 39 [.sl b1 1 (l.map eS), .sl b2 1 (m.map eS)] (fun rr => rr = ⟨(.v (.int .i64 (wdsErr l m))), []⟩) := by
  refine Ctr.of (rs := [.tmp 4]) Tok true Try.func39 rfl rfl rfl rfl (by simp [ofDL]) (fun w0 kp => ?_)
  simp only [↓sx0, sx1, encs, tys, sxR, sevalprocAttr]
  refine BrW.dec (fun h1 => ?_) (fun h1 => ?_)
  · rw [show wdsErr l m = 8 by rw [wdsErr, if_neg (by omega)]]
    simp only [↓sx0, sx1, encs, tys, sxR, sevalprocAttr]
    repeat ((with_reducible refine BrW.yes (by omega) ?_); simp only [↓sx0, sx1, encs, tys, sxR, sevalprocAttr])
    exact EndW.fn (by simp only [sx4, encs, kpLL_map, sxR, sevalprocAttr] <;> (try simp) <;> (try omega)) (by simp only [sx4, encs, kpLL_map, sxR, sevalprocAttr] <;> (try simp) <;> (try omega))
  · simp only [↓sx0, sx1, encs, tys, sxR, sevalprocAttr]
    repeat ((with_reducible refine BrW.no (by omega) ?_); simp only [↓sx0, sx1, encs, tys, sxR, sevalprocAttr])
    refine BrW.dec (fun h2 => ?_) (fun h2 => ?_)
    · rw [show wdsErr l m = 8 by rw [wdsErr, if_neg (by omega)]]
      simp only [↓sx0, sx1, encs, tys, sxR, sevalprocAttr]
      exact EndW.fn (by simp only [sx4, encs, kpLL_map, sxR, sevalprocAttr] <;> (try simp) <;> (try omega)) (by simp only [sx4, encs, kpLL_map, sxR, sevalprocAttr] <;> (try simp) <;> (try omega))
    · rw [show wdsErr l m = if (l ++ m).any badW = true then 3 else 0 by rw [wdsErr, if_pos (by omega)]]
      simp only [↓sx0, sx1, encs, tys, sxR, sevalprocAttr]
      refine LoopW.comp [0, 1, 5] (by simp only [sx2, encs, sxR, sevalprocAttr] <;> (try simp) <;> (try omega)) ?_
      simp only [sx2, sxR, sevalprocAttr]
      refine LoopW.up Tok (fun k : Nat => [(5, (.v (.int .i64 k)))]) (fun k => []) (fun k => []) (fun k => []) (fun k => k ≤ l.length ∧ (l.take k).any badW = false) (fun k => l.length - k) (0) (by simp only [sx2, encs, sxR, sevalprocAttr] <;> (try simp) <;> (try omega)) ?_ ?_
      · exact ⟨by omega, by simp⟩
      rintro k ⟨hk, ht⟩
      simp only [↓sx0, sx1, encs, tys, sxR, sevalprocAttr]
      refine BrW.dec (fun hlt => ?_) (fun hlt => ?_)
      · simp only [↓sx0, sx1, encs, tys, sxR, sevalprocAttr]
        have hkl : k < l.length := by omega
        refine IxW.nat hkl ?_
        simp only [↓sx0, sx1, encs, tys, sxR, sevalprocAttr]
        refine CallI.fn (isWordR_s l[k] (hl _ (List.getElem_mem hkl))) (by simp only [sx3, encs, sxR, sevalprocAttr] <;> (try simp) <;> (try rfl)) ?_
        simp only [↓sx0, sx1, encs, tys, sxR, sevalprocAttr]
        refine BrW.of (fun hb => ?_) (fun hb => ?_)
        · simp only [↓sx0, sx1, encs, tys, sxR, sevalprocAttr]
          repeat ((with_reducible refine Vc.go ?_ fun _ => ?_); (focus (first | omega | (simp only [InK]; omega) | (simp [InK]; done) | (simp [InK]; omega))); simp only [↓sx0, sx1, encs, tys, sxR, sevalprocAttr])
          refine ⟨k + 1, StLe.auto (by simp only [sx2, encs, sxR, sevalprocAttr] <;> (try simp) <;> (try omega)), ?_, ?_⟩
          · exact ⟨hkl, by rw [List.take_succ_eq_append_getElem hkl, List.any_append, ht]; simp [badW, hb]⟩
          · omega
        · rw [if_pos (any_append_take hkl (by simp [badW, hb]))]
          simp only [↓sx0, sx1, encs, tys, sxR, sevalprocAttr]
          exact EndW.fn (by simp only [sx4, encs, kpLL_map, sxR, sevalprocAttr] <;> (try simp) <;> (try omega)) (by simp only [sx4, encs, kpLL_map, sxR, sevalprocAttr] <;> (try simp) <;> (try omega))
      · simp only [↓sx0, sx1, encs, tys, sxR, sevalprocAttr]
        have hke : k = l.length := by omega
        subst hke
        rw [List.take_length] at ht
        refine LoopW.comp [1, 6] (by simp only [sx2, encs, sxR, sevalprocAttr] <;> (try simp) <;> (try omega)) ?_
        simp only [sx2, sxR, sevalprocAttr]
        refine LoopW.up Tok (fun k : Nat => [(6, (.v (.int .i64 k)))]) (fun k => []) (fun k => []) (fun k => []) (fun k => k ≤ m.length ∧ (m.take k).any badW = false) (fun k => m.length - k) (0) (by simp only [sx2, encs, sxR, sevalprocAttr] <;> (try simp) <;> (try omega)) ?_ ?_
        · exact ⟨by omega, by simp⟩
        rintro k ⟨hk, ht2⟩
        simp only [↓sx0, sx1, encs, tys, sxR, sevalprocAttr]
        refine BrW.dec (fun hlt => ?_) (fun hlt => ?_)
        · simp only [↓sx0, sx1, encs, tys, sxR, sevalprocAttr]
          have hkl : k < m.length := by omega
          refine IxW.nat hkl ?_
          simp only [↓sx0, sx1, encs, tys, sxR, sevalprocAttr]
          refine CallI.fn (isWordR_s m[k] (hm _ (List.getElem_mem hkl))) (by simp only [sx3, encs, sxR, sevalprocAttr] <;> (try simp) <;> (try rfl)) ?_
          simp only [↓sx0, sx1, encs, tys, sxR, sevalprocAttr]
          refine BrW.of (fun hb => ?_) (fun hb => ?_)
          · simp only [↓sx0, sx1, encs, tys, sxR, sevalprocAttr]
            repeat ((with_reducible refine Vc.go ?_ fun _ => ?_); (focus (first | omega | (simp only [InK]; omega) | (simp [InK]; done) | (simp [InK]; omega))); simp only [↓sx0, sx1, encs, tys, sxR, sevalprocAttr])
            refine ⟨k + 1, StLe.auto (by simp only [sx2, encs, sxR, sevalprocAttr] <;> (try simp) <;> (try omega)), ?_, ?_⟩
            · exact ⟨hkl, by rw [List.take_succ_eq_append_getElem hkl, List.any_append, ht2]; simp [badW, hb]⟩
            · omega
          · have hany : (l ++ m).any badW = true := by
              rw [List.any_append, Bool.or_eq_true]; refine .inr ?_
              rw [List.any_eq_true]; exact ⟨_, List.getElem_mem hkl, by simp [badW, hb]⟩
            rw [if_pos hany]
            simp only [↓sx0, sx1, encs, tys, sxR, sevalprocAttr]
            exact EndW.fn (by simp only [sx4, encs, kpLL_map, sxR, sevalprocAttr] <;> (try simp) <;> (try omega)) (by simp only [sx4, encs, kpLL_map, sxR, sevalprocAttr] <;> (try simp) <;> (try omega))
        · simp only [↓sx0, sx1, encs, tys, sxR, sevalprocAttr]
          have hke : k = m.length := by omega
          subst hke
          rw [List.take_length] at ht2
          rw [if_neg (by rw [List.any_append, ht, ht2]; simp)]
          exact EndW.fn (by simp only [sx4, encs, kpLL_map, sxR, sevalprocAttr] <;> (try simp) <;> (try omega)) (by simp only [sx4, encs, kpLL_map, sxR, sevalprocAttr] <;> (try simp) <;> (try omega))
def chN (a b : List ByteArray) (i k : Nat) : Int := if a[i]? = b[k]? then 0 else 1
theorem change_s (b1 b2 : Bool) (a b : List ByteArray) (i k : Nat) (hi : i < a.length) (hk : k < b.length) : Ctr Try.prog 78 [.sl b1 1 (a.map eS), .sl b2 1 (b.map eS), (.v (.int .i64 ((i : Int)))), (.v (.int .i64 ((k : Int))))] (fun rr => rr = ⟨(.v (.int .i64 (chN a b i k))), []⟩) := by
  have hc : chN a b i k = if a[i] = b[k] then 0 else 1 := by rw [chN, List.getElem?_eq_getElem hi, List.getElem?_eq_getElem hk]; simp
  rw [hc]
  refine Ctr.of (rs := [.tmp 8]) Tok true Try.func78 rfl rfl rfl rfl (by simp [ofDL]) (fun w0 kp => ?_)
  simp only [↓sx0, sx1, encs, tys, sxR, sevalprocAttr]
  refine DrawW.plan Tok mixed (.q 0 <| .q 1 <| .q 2 <| .q 3 <| .q 4 <| .q 5 <| .q 6 <| .q 7 <| .q 8 <| .done) (by kernel_rfl) (by kernel_rfl) ?_
  simp only [↓sx0, sx1, encs, tys, sxR, sevalprocAttr]
  refine IxW.nat hi ?_
  simp only [↓sx0, sx1, encs, tys, sxR, sevalprocAttr]
  refine IxW.nat hk ?_
  simp only [↓sx0, sx1, encs, tys, sxR, sevalprocAttr]
  refine BrW.dec (fun h => ?_) (fun h => ?_)
  · rw [if_pos h]
    simp only [↓sx0, sx1, encs, tys, sxR, sevalprocAttr]
    exact EndW.fn (by simp only [sx4, encs, kpLL_map, sxR, sevalprocAttr] <;> (try simp) <;> (try omega)) (by simp only [sx4, encs, kpLL_map, sxR, sevalprocAttr] <;> (try simp) <;> (try omega))
  · rw [if_neg h]
    simp only [↓sx0, sx1, encs, tys, sxR, sevalprocAttr]
    exact EndW.fn (by simp only [sx4, encs, kpLL_map, sxR, sevalprocAttr] <;> (try simp) <;> (try omega)) (by simp only [sx4, encs, kpLL_map, sxR, sevalprocAttr] <;> (try simp) <;> (try omega))
end Go.Proofs.Ytenohgpackcjbaa
/-
  Chapter 8, walks: labels of edits are checked (reference), the second part.
-/
namespace Go.Proofs.Ytenohgpackcjbaa
open Go Go.Vx
set_option linter.unusedSimpArgs false
set_option linter.unusedVariables false
set_option maxRecDepth 20000
/-- whether a label binds those behind it. -/
def fwdB (a b : List ByteArray) (L : List Int) (i k : Nat) : Bool :=
  !((decide (i < a.length) && decide (L.getD (atN b.length i k) 0 + 1 < L.getD (atN b.length (i + 1) k) 0)) ||
    (decide (k < b.length) && decide (L.getD (atN b.length i k) 0 + 1 < L.getD (atN b.length i (k + 1)) 0)) ||
    (decide (i < a.length) && decide (k < b.length) && decide (L.getD (atN b.length i k) 0 + chN a b i k < L.getD (atN b.length (i + 1) (k + 1)) 0)))
def fwdR (a b : List ByteArray) (L : List Int) (i : Nat) : Bool := (List.range (b.length + 1)).all fun k => fwdB a b L i k
def refOk (a b : List ByteArray) (L : List Int) : Bool := decide (L.getD 0 0 = 0) && (List.range (a.length + 1)).all fun i => fwdR a b L i
def labR (a b : List ByteArray) (L : List Int) : Int × Int :=
  if L.length = (a.length + 1) * (b.length + 1) then (if L.any badL = true then (0, 2) else if refOk a b L = true then (L.getD (L.length - 1) 0, 0) else (0, 22)) else (0, 10)
theorem mul_cast1 (nb i : Nat) : ((i : Int) + 1) * ((nb : Int) + 1) = (((i + 1) * (nb + 1) : Nat) : Int) := by
  rw [Int.natCast_mul, Int.natCast_add, Int.natCast_add]; rfl
set_option maxHeartbeats 16000000 in
theorem labelsR_s (b1 b2 b3 : Bool) (a b : List ByteArray) (L : List Int) (hla : a.length ≤ 40) (hlb : b.length ≤ 40) (hL : L.length ≤ 1000000) : Ctr Try.prog 40 [.sl b1 1 (a.map eS), .sl b2 1 (b.map eS), .sl b3 1 (L.map eI)] (fun rr => rr = ⟨.tup [(.v (.int .i64 ((labR a b L).1))), (.v (.int .i64 ((labR a b L).2)))], []⟩) := by
  have hmb := mul_b (nb := b.length) (i := a.length + 1) (by omega) (by omega)
  have hmc := mul_cast1 b.length a.length
  refine Ctr.of (rs := [.tmp 6, .tmp 7]) Tok true Try.func40 rfl rfl rfl rfl (by simp [ofDL]) (fun w0 kp => ?_)
  simp only [↓sx0, sx1, encs, tys, sxR, sevalprocAttr]
  (with_reducible refine Vc.go ?_ fun _ => ?_); focus (first | omega | (simp only [InK]; omega) | (simp [InK]; done) | (simp [InK]; omega))
  simp only [↓sx0, sx1, encs, tys, sxR, sevalprocAttr]
  (with_reducible refine Vc.go ?_ fun _ => ?_); focus (first | omega | (simp only [InK]; omega) | (simp [InK]; done) | (simp [InK]; omega))
  simp only [↓sx0, sx1, encs, tys, sxR, sevalprocAttr]
  rw [hmc]
  repeat ((with_reducible refine Vc.go ?_ fun _ => ?_); (focus (first | omega | (simp only [InK]; omega) | (simp [InK]; done) | (simp [InK]; omega))); simp only [↓sx0, sx1, encs, tys, sxR, sevalprocAttr])
  refine BrW.dec (fun hn => ?_) (fun hn => ?_)
  · rw [show labR a b L = (0, 10) by rw [labR, if_neg (by omega)]]
    simp only [↓sx0, sx1, encs, tys, sxR, sevalprocAttr]
    exact EndW.fn (by simp only [sx4, encs, kpLL_map, sxR, sevalprocAttr] <;> (try simp) <;> (try omega)) (by simp only [sx4, encs, kpLL_map, sxR, sevalprocAttr] <;> (try simp) <;> (try omega))
  · have hn2 : L.length = (a.length + 1) * (b.length + 1) := by omega
    rw [show labR a b L = if L.any badL = true then (0, 2) else if refOk a b L = true then (L.getD (L.length - 1) 0, 0) else (0, 22) by rw [labR, if_pos hn2]]
    simp only [↓sx0, sx1, encs, tys, sxR, sevalprocAttr]
    refine LoopW.comp [0, 1, 2, 8, 9] (by simp only [sx2, encs, sxR, sevalprocAttr] <;> (try simp) <;> (try omega)) ?_
    simp only [sx2, sxR, sevalprocAttr]
    refine LoopW.up Tok (fun k : Nat => [(9, (.v (.int .i64 k)))]) (fun k => []) (fun k => []) (fun k => []) (fun k => k ≤ L.length ∧ (L.take k).any badL = false) (fun k => L.length - k) (0) (by simp only [sx2, encs, sxR, sevalprocAttr] <;> (try simp) <;> (try omega)) ?_ ?_
    · exact ⟨by omega, by simp⟩
    rintro k ⟨hk, ht⟩
    simp only [↓sx0, sx1, encs, tys, sxR, sevalprocAttr]
    refine BrW.dec (fun hlt => ?_) (fun hlt => ?_)
    · simp only [↓sx0, sx1, encs, tys, sxR, sevalprocAttr]
      have hkl : k < L.length := by omega
      refine IxW.nat hkl ?_
      simp only [↓sx0, sx1, encs, tys, sxR, sevalprocAttr]
      refine CallI.fn (withinB_s L[k] 0 100) (by simp only [sx3, encs, sxR, sevalprocAttr] <;> (try simp) <;> (try rfl)) ?_
      simp only [↓sx0, sx1, encs, tys, sxR, sevalprocAttr]
      refine BrW.of (fun hb => ?_) (fun hb => ?_)
      · simp only [↓sx0, sx1, encs, tys, sxR, sevalprocAttr]
        repeat ((with_reducible refine Vc.go ?_ fun _ => ?_); (focus (first | omega | (simp only [InK]; omega) | (simp [InK]; done) | (simp [InK]; omega))); simp only [↓sx0, sx1, encs, tys, sxR, sevalprocAttr])
        refine ⟨k + 1, StLe.auto (by simp only [sx2, encs, sxR, sevalprocAttr] <;> (try simp) <;> (try omega)), ?_, ?_⟩
        · exact ⟨hkl, by rw [List.take_succ_eq_append_getElem hkl, List.any_append, ht]; simp [badL]; simpa using hb⟩
        · omega
      · rw [if_pos (by rw [List.any_eq_true]; exact ⟨_, List.getElem_mem hkl, by rw [badL, hb]; rfl⟩)]
        simp only [↓sx0, sx1, encs, tys, sxR, sevalprocAttr]
        exact EndW.fn (by simp only [sx4, encs, kpLL_map, sxR, sevalprocAttr] <;> (try simp) <;> (try omega)) (by simp only [sx4, encs, kpLL_map, sxR, sevalprocAttr] <;> (try simp) <;> (try omega))
    · have hke : k = L.length := by omega
      subst hke
      rw [List.take_length] at ht
      rw [if_neg (by rw [ht]; simp)]
      have hpos : 0 < L.length := by rw [hn2]; exact Nat.mul_pos (by omega) (by omega)
      have hg0 : L.getD 0 0 = L[0] := by simp [List.getD_eq_getElem?_getD, hpos]
      have hv : ∀ x ∈ L, 0 ≤ x ∧ x ≤ 100 := fun x hx => by
        rw [List.any_eq_false] at ht
        simpa [badL] using ht x hx
      have hix : ∀ i k, i ≤ a.length → k ≤ b.length → atN b.length i k < L.length := fun i k h1 h2 => by rw [hn2]; exact atN_lt h1 h2
      simp only [↓sx0, sx1, encs, tys, sxR, sevalprocAttr]
      refine IxW.nat (j := 0) hpos ?_
      simp only [↓sx0, sx1, encs, tys, sxR, sevalprocAttr]
      refine BrW.dec (fun h0 => ?_) (fun h0 => ?_)
      · rw [if_neg (by rw [refOk, hg0, decide_eq_false h0]; simp)]
        simp only [↓sx0, sx1, encs, tys, sxR, sevalprocAttr]
        exact EndW.fn (by simp only [sx4, encs, kpLL_map, sxR, sevalprocAttr] <;> (try simp) <;> (try omega)) (by simp only [sx4, encs, kpLL_map, sxR, sevalprocAttr] <;> (try simp) <;> (try omega))
      · have h0 : L[0] = 0 := Decidable.not_not.1 h0
        have hro : refOk a b L = (List.range (a.length + 1)).all fun i => fwdR a b L i := by rw [refOk, hg0, decide_eq_true h0, Bool.true_and]
        rw [hro]
        simp only [↓sx0, sx1, encs, tys, sxR, sevalprocAttr]
        refine LoopW.comp [0, 1, 2, 8, 10] (by simp only [sx2, encs, sxR, sevalprocAttr] <;> (try simp) <;> (try omega)) ?_
        simp only [sx2, sxR, sevalprocAttr]
        refine LoopW.up Tok (fun i : Nat => [(10, (.v (.int .i64 i)))]) (fun i => []) (fun i => []) (fun i => []) (fun i => i ≤ a.length + 1 ∧ ∀ j, j < i → fwdR a b L j = true) (fun i => a.length + 1 - i) (0) (by simp only [sx2, encs, sxR, sevalprocAttr] <;> (try simp) <;> (try omega)) ?_ ?_
        · exact ⟨by omega, fun j h => absurd h (Nat.not_lt_zero _)⟩
        rintro i ⟨hi, hI⟩
        simp only [↓sx0, sx1, encs, tys, sxR, sevalprocAttr]
        refine BrW.dec (fun hlt => ?_) (fun hlt => ?_)
        · simp only [↓sx0, sx1, encs, tys, sxR, sevalprocAttr]
          refine LoopW.comp [0, 1, 2, 8, 10, 11] (by simp only [sx2, encs, sxR, sevalprocAttr] <;> (try simp) <;> (try omega)) ?_
          simp only [sx2, sxR, sevalprocAttr]
          refine LoopW.up Tok (fun k : Nat => [(11, (.v (.int .i64 k)))]) (fun k => []) (fun k => []) (fun k => []) (fun k => k ≤ b.length + 1 ∧ ∀ j, j < k → fwdB a b L i j = true) (fun k => b.length + 1 - k) (0) (by simp only [sx2, encs, sxR, sevalprocAttr] <;> (try simp) <;> (try omega)) ?_ ?_
          · exact ⟨by omega, fun j h => absurd h (Nat.not_lt_zero _)⟩
          rintro k ⟨hk, hK⟩
          simp only [↓sx0, sx1, encs, tys, sxR, sevalprocAttr]
          refine BrW.dec (fun hlt2 => ?_) (fun hlt2 => ?_)
          · simp only [↓sx0, sx1, encs, tys, sxR, sevalprocAttr]
            have hi2 : i ≤ a.length := by omega
            have hk2 : k ≤ b.length := by omega
            have hx := hix i k hi2 hk2
            have m0 := mul_cast b.length i
            have m1 := mul_cast1 b.length i
            have q0 := mul_b (nb := b.length) (i := i) (by omega) (by omega)
            have q1 := mul_b (nb := b.length) (i := i + 1) (by omega) (by omega)
            have hgd : L.getD (atN b.length i k) 0 = L[atN b.length i k] := by simp [List.getD_eq_getElem?_getD, hx]
            have hvx := hv _ (List.getElem_mem hx)
            have ec : ((i * (b.length + 1) : Nat) : Int) + (k : Int) = ((atN b.length i k : Nat) : Int) := by rw [← m0, atN_cast]
            rw [m0]
            repeat ((with_reducible refine Vc.go ?_ fun _ => ?_); (focus (first | omega | (simp only [InK]; omega) | (simp [InK]; done) | (simp [InK]; omega))); simp only [↓sx0, sx1, encs, tys, sxR, sevalprocAttr])
            rw [ec]
            repeat ((with_reducible refine Vc.go ?_ fun _ => ?_); (focus (first | omega | (simp only [InK]; omega) | (simp [InK]; done) | (simp [InK]; omega))); simp only [↓sx0, sx1, encs, tys, sxR, sevalprocAttr])
            refine IxW.nat hx ?_
            simp only [↓sx0, sx1, encs, tys, sxR, sevalprocAttr]
            dsimp only [List.append]
            refine DrawW.plan Tok mixed (.q 0 <| .q 1 <| .q 2 <| .q 3 <| .q 4 <| .q 5 <| .q 6 <| .q 7 <| .q 8 <| .q 9 <| .q 10 <| .q 11 <| .q 12 <| .q 13 <| .q 14 <| .q 15 <| .q 16 <| .q 17 <| .q 18 <| .q 19 <| .q 20 <| .q 21 <| .q 22 <| .q 23 <| .q 24 <| .q 25 <| .q 26 <| .q 27 <| .q 28 <| .q 29 <| .q 30 <| .q 31 <| .q 32 <| .q 33 <| .q 34 <| .q 35 <| .q 36 <| .q 37 <| .q 38 <| .q 39 <| .q 40 <| .q 41 <| .q 42 <| .q 43 <| .q 44 <| .q 45 <| .q 46 <| .q 47 <| .q 48 <| .q 49 <| .q 50 <| .q 51 <| .q 52 <| .q 53 <| .q 54 <| .q 55 <| .q 56 <| .q 57 <| .q 58 <| .q 59 <| .q 60 <| .q 61 <| .q 62 <| .q 63 <| .q 64 <| .e 65 [13, 32, 59] <| .q 66 <| .q 67 <| .q 68 <| .q 69 <| .done) (planG_ok (pre := [⟨some 60, [10], []⟩, ⟨some 61, [0], []⟩, ⟨some 62, [61], [1]⟩, ⟨some 63, [60, 62], [0, 2]⟩, ⟨some 64, [63], [3]⟩, ⟨some 65, [2, 64], [4]⟩, ⟨some 66, [10, 64], [4]⟩, ⟨some 67, [64, 66], [6, 4]⟩, ⟨some 68, [8, 64], [4]⟩, ⟨some 69, [64, 67, 68], [7, 8, 4]⟩, ⟨some 70, [11, 64], [4]⟩, ⟨some 71, [64, 69, 70], [9, 10, 4]⟩, ⟨some 72, [64, 65, 71], [5, 11, 4]⟩, ⟨some 73, [64, 72], [12, 4]⟩, ⟨some 74, [12, 64], [4]⟩, ⟨some 75, [64, 74], [14, 4]⟩, ⟨some 76, [64, 73, 75], [13, 15, 4]⟩, ⟨some 77, [64, 76], [4, 16]⟩, ⟨some 78, [77], [17, 4]⟩, ⟨some 79, [11, 78], [18]⟩, ⟨some 80, [1, 78], [18]⟩, ⟨some 81, [78, 80], [20, 18]⟩, ⟨some 82, [78, 79, 81], [19, 21, 18]⟩, ⟨some 83, [78, 82], [22, 18, 18]⟩, ⟨some 84, [2, 83], [23]⟩, ⟨some 85, [10, 83], [23]⟩, ⟨some 86, [8, 83], [23]⟩, ⟨some 87, [83, 85, 86], [25, 26, 23]⟩, ⟨some 88, [11, 83], [23]⟩, ⟨some 89, [83, 87, 88], [27, 28, 23]⟩, ⟨some 90, [83, 89], [29, 23]⟩, ⟨some 91, [83, 84, 90], [24, 30, 23]⟩, ⟨some 92, [83, 91], [31, 23]⟩, ⟨some 93, [12, 83], [23]⟩, ⟨some 94, [83, 93], [33, 23]⟩, ⟨some 95, [83, 92, 94], [32, 34, 23]⟩, ⟨some 96, [78, 83, 95], [23, 35, 18]⟩, ⟨some 97, [78, 96], [18, 36]⟩, ⟨some 98, [97], [37, 23]⟩, ⟨some 99, [10, 98], [38]⟩, ⟨some 100, [0, 98], [38]⟩, ⟨some 101, [98, 100], [40, 38]⟩, ⟨some 102, [98, 99, 101], [39, 41, 38]⟩, ⟨some 103, [98, 102], [42, 38, 38]⟩, ⟨some 104, [11, 103], [43]⟩, ⟨some 105, [1, 103], [43]⟩, ⟨some 106, [103, 105], [45, 43]⟩, ⟨some 107, [103, 104, 106], [44, 46, 43]⟩, ⟨some 108, [98, 103, 107], [43, 47, 38]⟩, ⟨some 109, [98, 108], [48, 43, 38]⟩, ⟨some 110, [2, 109], [49]⟩, ⟨some 111, [10, 109], [49]⟩, ⟨some 112, [109, 111], [51, 49]⟩, ⟨some 113, [8, 109], [49]⟩, ⟨some 114, [109, 112, 113], [52, 53, 49]⟩, ⟨some 115, [11, 109], [49]⟩, ⟨some 116, [109, 114, 115], [54, 55, 49]⟩, ⟨some 117, [109, 116], [56, 49]⟩, ⟨some 118, [109, 110, 117], [50, 57, 49]⟩, ⟨some 119, [109, 118], [58, 49]⟩, ⟨some 120, [12, 109], [49]⟩, ⟨some 121, [0, 109], [49]⟩, ⟨some 122, [1, 109], [49]⟩, ⟨some 123, [10, 109], [49]⟩, ⟨some 124, [11, 109], [49]⟩, ⟨some 125, [109, 121, 122, 123, 124], [61, 62, 63, 64, 49, 49]⟩, ⟨some 126, [109, 120, 125], [60, 65, 49]⟩, ⟨some 127, [109, 119, 126], [59, 66, 49]⟩, ⟨some 128, [98, 109, 127], [49, 67, 38]⟩, ⟨some 129, [98, 128], [38, 68]⟩]) (n := 70) (by kernel_rfl) rfl (by kernel_rfl)) (by kernel_rfl) ?_
            simp only [↓sx0, sx1, encs, tys, sxR, sevalprocAttr]
            have hch : 0 ≤ chN a b i k ∧ chN a b i k ≤ 1 := by unfold chN; split <;> omega
            have ec1 : (((i + 1) * (b.length + 1) : Nat) : Int) + (k : Int) = ((atN b.length (i + 1) k : Nat) : Int) := by rw [atN, Int.natCast_add]
            have ec2 : ((atN b.length i k : Nat) : Int) + 1 = ((atN b.length i (k + 1) : Nat) : Int) := by unfold atN; omega
            have ec3 := ec1
            have ec4 : ((atN b.length (i + 1) k : Nat) : Int) + 1 = ((atN b.length (i + 1) (k + 1) : Nat) : Int) := by unfold atN; omega
            have ab0 := hx
            have ab1 : atN b.length (i + 1) k ≤ 1002000 := by unfold atN; omega
            refine BrW.dec (fun p1 => ?_) (fun p1 => ?_)
            · simp only [↓sx0, sx1, encs, tys, sxR, sevalprocAttr]
              (with_reducible refine Vc.go ?_ fun _ => ?_); focus (first | omega | (simp only [InK]; omega) | (simp [InK]; done) | (simp [InK]; omega))
              simp only [↓sx0, sx1, encs, tys, sxR, sevalprocAttr]
              rw [m1]
              repeat ((with_reducible refine Vc.go ?_ fun _ => ?_); (focus (first | omega | (simp only [InK]; omega) | (simp [InK]; done) | (simp [InK]; omega))); simp only [↓sx0, sx1, encs, tys, sxR, sevalprocAttr])
              rw [ec1]
              repeat ((with_reducible refine Vc.go ?_ fun _ => ?_); (focus (first | omega | (simp only [InK]; omega) | (simp [InK]; done) | (simp [InK]; omega))); simp only [↓sx0, sx1, encs, tys, sxR, sevalprocAttr])
              have hx1 := hix (i + 1) k (by omega) (by omega)
              have hgd1 : L.getD (atN b.length (i + 1) k) 0 = L[atN b.length (i + 1) k] := by simp [List.getD_eq_getElem?_getD, hx1]
              have hv1 := hv _ (List.getElem_mem hx1)
              refine IxW.nat hx1 ?_
              simp only [↓sx0, sx1, encs, tys, sxR, sevalprocAttr]
              repeat ((with_reducible refine Vc.go ?_ fun _ => ?_); (focus (first | omega | (simp only [InK]; omega) | (simp [InK]; done) | (simp [InK]; omega))); simp only [↓sx0, sx1, encs, tys, sxR, sevalprocAttr])
              refine BrW.dec (fun p2 => ?_) (fun p2 => ?_)
              · simp only [↓sx0, sx1, encs, tys, sxR, sevalprocAttr]
                repeat ((first | (with_reducible refine BrW.yes (by omega) ?_) | (with_reducible refine BrW.no (by omega) ?_)); (try simp only [↓sx0, sx1, encs, tys, sxR, sevalprocAttr]))
                have hf : fwdB a b L i k = false := by
                  unfold fwdB
                  simp only [hgd, hgd1]
                  simp
                  omega
                have hrs : fwdR a b L i = false := any_range_take (by omega) hf
                have hlo : ((List.range (a.length + 1)).all fun i => fwdR a b L i) = false := any_range_take (by omega) hrs
                rw [if_neg (by rw [hlo]; simp)]
                exact EndW.fn (by simp only [sx4, encs, kpLL_map, sxR, sevalprocAttr] <;> (try simp) <;> (try omega)) (by simp only [sx4, encs, kpLL_map, sxR, sevalprocAttr] <;> (try simp) <;> (try omega))
              · simp only [↓sx0, sx1, encs, tys, sxR, sevalprocAttr]
                refine BrW.dec (fun p3 => ?_) (fun p3 => ?_)
                · simp only [↓sx0, sx1, encs, tys, sxR, sevalprocAttr]
                  rw [m0]
                  repeat ((with_reducible refine Vc.go ?_ fun _ => ?_); (focus (first | omega | (simp only [InK]; omega) | (simp [InK]; done) | (simp [InK]; omega))); simp only [↓sx0, sx1, encs, tys, sxR, sevalprocAttr])
                  rw [ec]
                  repeat ((with_reducible refine Vc.go ?_ fun _ => ?_); (focus (first | omega | (simp only [InK]; omega) | (simp [InK]; done) | (simp [InK]; omega))); simp only [↓sx0, sx1, encs, tys, sxR, sevalprocAttr])
                  rw [ec2]
                  have hx2 := hix i (k + 1) (by omega) (by omega)
                  have hgd2 : L.getD (atN b.length i (k + 1)) 0 = L[atN b.length i (k + 1)] := by simp [List.getD_eq_getElem?_getD, hx2]
                  have hv2 := hv _ (List.getElem_mem hx2)
                  refine IxW.nat hx2 ?_
                  simp only [↓sx0, sx1, encs, tys, sxR, sevalprocAttr]
                  repeat ((with_reducible refine Vc.go ?_ fun _ => ?_); (focus (first | omega | (simp only [InK]; omega) | (simp [InK]; done) | (simp [InK]; omega))); simp only [↓sx0, sx1, encs, tys, sxR, sevalprocAttr])
                  refine BrW.dec (fun p4 => ?_) (fun p4 => ?_)
                  · simp only [↓sx0, sx1, encs, tys, sxR, sevalprocAttr]
                    repeat ((first | (with_reducible refine BrW.yes (by omega) ?_) | (with_reducible refine BrW.no (by omega) ?_)); (try simp only [↓sx0, sx1, encs, tys, sxR, sevalprocAttr]))
                    have hf : fwdB a b L i k = false := by
                      unfold fwdB
                      simp only [hgd, hgd1, hgd2]
                      simp
                      omega
                    have hrs : fwdR a b L i = false := any_range_take (by omega) hf
                    have hlo : ((List.range (a.length + 1)).all fun i => fwdR a b L i) = false := any_range_take (by omega) hrs
                    rw [if_neg (by rw [hlo]; simp)]
                    exact EndW.fn (by simp only [sx4, encs, kpLL_map, sxR, sevalprocAttr] <;> (try simp) <;> (try omega)) (by simp only [sx4, encs, kpLL_map, sxR, sevalprocAttr] <;> (try simp) <;> (try omega))
                  · simp only [↓sx0, sx1, encs, tys, sxR, sevalprocAttr]
                    repeat ((first | (with_reducible refine BrW.yes (by omega) ?_) | (with_reducible refine BrW.no (by omega) ?_)); (try simp only [↓sx0, sx1, encs, tys, sxR, sevalprocAttr]))
                    (with_reducible refine Vc.go ?_ fun _ => ?_); focus (first | omega | (simp only [InK]; omega) | (simp [InK]; done) | (simp [InK]; omega))
                    simp only [↓sx0, sx1, encs, tys, sxR, sevalprocAttr]
                    rw [m1]
                    repeat ((with_reducible refine Vc.go ?_ fun _ => ?_); (focus (first | omega | (simp only [InK]; omega) | (simp [InK]; done) | (simp [InK]; omega))); simp only [↓sx0, sx1, encs, tys, sxR, sevalprocAttr])
                    rw [ec3]
                    repeat ((with_reducible refine Vc.go ?_ fun _ => ?_); (focus (first | omega | (simp only [InK]; omega) | (simp [InK]; done) | (simp [InK]; omega))); simp only [↓sx0, sx1, encs, tys, sxR, sevalprocAttr])
                    rw [ec4]
                    repeat ((with_reducible refine Vc.go ?_ fun _ => ?_); (focus (first | omega | (simp only [InK]; omega) | (simp [InK]; done) | (simp [InK]; omega))); simp only [↓sx0, sx1, encs, tys, sxR, sevalprocAttr])
                    have hx3 := hix (i + 1) (k + 1) (by omega) (by omega)
                    have hgd3 : L.getD (atN b.length (i + 1) (k + 1)) 0 = L[atN b.length (i + 1) (k + 1)] := by simp [List.getD_eq_getElem?_getD, hx3]
                    have hv3 := hv _ (List.getElem_mem hx3)
                    refine IxW.nat hx3 ?_
                    simp only [↓sx0, sx1, encs, tys, sxR, sevalprocAttr]
                    refine CallI.fn (change_s b1 b2 a b i k (by omega) (by omega)) (by simp only [sx3, encs, sxR, sevalprocAttr] <;> (try simp) <;> (try rfl)) ?_
                    simp only [↓sx0, sx1, encs, tys, sxR, sevalprocAttr]
                    repeat ((with_reducible refine Vc.go ?_ fun _ => ?_); (focus (first | omega | (simp only [InK]; omega) | (simp [InK]; done) | (simp [InK]; omega))); simp only [↓sx0, sx1, encs, tys, sxR, sevalprocAttr])
                    refine BrW.dec (fun p5 => ?_) (fun p5 => ?_)
                    · simp only [↓sx0, sx1, encs, tys, sxR, sevalprocAttr]
                      have hf : fwdB a b L i k = false := by
                        unfold fwdB
                        simp only [hgd, hgd1, hgd2, hgd3]
                        simp
                        omega
                      have hrs : fwdR a b L i = false := any_range_take (by omega) hf
                      have hlo : ((List.range (a.length + 1)).all fun i => fwdR a b L i) = false := any_range_take (by omega) hrs
                      rw [if_neg (by rw [hlo]; simp)]
                      exact EndW.fn (by simp only [sx4, encs, kpLL_map, sxR, sevalprocAttr] <;> (try simp) <;> (try omega)) (by simp only [sx4, encs, kpLL_map, sxR, sevalprocAttr] <;> (try simp) <;> (try omega))
                    · simp only [↓sx0, sx1, encs, tys, sxR, sevalprocAttr]
                      have hf : fwdB a b L i k = true := by
                        unfold fwdB
                        simp only [hgd, hgd1, hgd2, hgd3]
                        simp
                        omega
                      repeat ((with_reducible refine Vc.go ?_ fun _ => ?_); (focus (first | omega | (simp only [InK]; omega) | (simp [InK]; done) | (simp [InK]; omega))); simp only [↓sx0, sx1, encs, tys, sxR, sevalprocAttr])
                      refine ⟨k + 1, StLe.auto (by simp only [sx2, encs, sxR, sevalprocAttr] <;> (try simp) <;> (try omega)), ?_, ?_⟩
                      · refine ⟨by omega, fun j hj => ?_⟩
                        by_cases e : j = k
                        · subst e; exact hf
                        · exact hK j (by omega)
                      · omega
                · simp only [↓sx0, sx1, encs, tys, sxR, sevalprocAttr]
                  repeat ((first | (with_reducible refine BrW.yes (by omega) ?_) | (with_reducible refine BrW.no (by omega) ?_)); (try simp only [↓sx0, sx1, encs, tys, sxR, sevalprocAttr]))
                  have hf : fwdB a b L i k = true := by
                    unfold fwdB
                    simp only [hgd, hgd1]
                    simp
                    omega
                  repeat ((with_reducible refine Vc.go ?_ fun _ => ?_); (focus (first | omega | (simp only [InK]; omega) | (simp [InK]; done) | (simp [InK]; omega))); simp only [↓sx0, sx1, encs, tys, sxR, sevalprocAttr])
                  refine ⟨k + 1, StLe.auto (by simp only [sx2, encs, sxR, sevalprocAttr] <;> (try simp) <;> (try omega)), ?_, ?_⟩
                  · refine ⟨by omega, fun j hj => ?_⟩
                    by_cases e : j = k
                    · subst e; exact hf
                    · exact hK j (by omega)
                  · omega
            · simp only [↓sx0, sx1, encs, tys, sxR, sevalprocAttr]
              refine BrW.dec (fun p3 => ?_) (fun p3 => ?_)
              · simp only [↓sx0, sx1, encs, tys, sxR, sevalprocAttr]
                rw [m0]
                repeat ((with_reducible refine Vc.go ?_ fun _ => ?_); (focus (first | omega | (simp only [InK]; omega) | (simp [InK]; done) | (simp [InK]; omega))); simp only [↓sx0, sx1, encs, tys, sxR, sevalprocAttr])
                rw [ec]
                repeat ((with_reducible refine Vc.go ?_ fun _ => ?_); (focus (first | omega | (simp only [InK]; omega) | (simp [InK]; done) | (simp [InK]; omega))); simp only [↓sx0, sx1, encs, tys, sxR, sevalprocAttr])
                rw [ec2]
                have hx2 := hix i (k + 1) (by omega) (by omega)
                have hgd2 : L.getD (atN b.length i (k + 1)) 0 = L[atN b.length i (k + 1)] := by simp [List.getD_eq_getElem?_getD, hx2]
                have hv2 := hv _ (List.getElem_mem hx2)
                refine IxW.nat hx2 ?_
                simp only [↓sx0, sx1, encs, tys, sxR, sevalprocAttr]
                repeat ((with_reducible refine Vc.go ?_ fun _ => ?_); (focus (first | omega | (simp only [InK]; omega) | (simp [InK]; done) | (simp [InK]; omega))); simp only [↓sx0, sx1, encs, tys, sxR, sevalprocAttr])
                refine BrW.dec (fun p4 => ?_) (fun p4 => ?_)
                · simp only [↓sx0, sx1, encs, tys, sxR, sevalprocAttr]
                  repeat ((first | (with_reducible refine BrW.yes (by omega) ?_) | (with_reducible refine BrW.no (by omega) ?_)); (try simp only [↓sx0, sx1, encs, tys, sxR, sevalprocAttr]))
                  have hf : fwdB a b L i k = false := by
                    unfold fwdB
                    simp only [hgd, hgd2]
                    simp
                    omega
                  have hrs : fwdR a b L i = false := any_range_take (by omega) hf
                  have hlo : ((List.range (a.length + 1)).all fun i => fwdR a b L i) = false := any_range_take (by omega) hrs
                  rw [if_neg (by rw [hlo]; simp)]
                  exact EndW.fn (by simp only [sx4, encs, kpLL_map, sxR, sevalprocAttr] <;> (try simp) <;> (try omega)) (by simp only [sx4, encs, kpLL_map, sxR, sevalprocAttr] <;> (try simp) <;> (try omega))
                · simp only [↓sx0, sx1, encs, tys, sxR, sevalprocAttr]
                  repeat ((first | (with_reducible refine BrW.yes (by omega) ?_) | (with_reducible refine BrW.no (by omega) ?_)); (try simp only [↓sx0, sx1, encs, tys, sxR, sevalprocAttr]))
                  have hf : fwdB a b L i k = true := by
                    unfold fwdB
                    simp only [hgd, hgd2]
                    simp
                    omega
                  repeat ((with_reducible refine Vc.go ?_ fun _ => ?_); (focus (first | omega | (simp only [InK]; omega) | (simp [InK]; done) | (simp [InK]; omega))); simp only [↓sx0, sx1, encs, tys, sxR, sevalprocAttr])
                  refine ⟨k + 1, StLe.auto (by simp only [sx2, encs, sxR, sevalprocAttr] <;> (try simp) <;> (try omega)), ?_, ?_⟩
                  · refine ⟨by omega, fun j hj => ?_⟩
                    by_cases e : j = k
                    · subst e; exact hf
                    · exact hK j (by omega)
                  · omega
              · simp only [↓sx0, sx1, encs, tys, sxR, sevalprocAttr]
                repeat ((first | (with_reducible refine BrW.yes (by omega) ?_) | (with_reducible refine BrW.no (by omega) ?_)); (try simp only [↓sx0, sx1, encs, tys, sxR, sevalprocAttr]))
                have hf : fwdB a b L i k = true := by
                  unfold fwdB
                  simp only [hgd]
                  simp
                  omega
                repeat ((with_reducible refine Vc.go ?_ fun _ => ?_); (focus (first | omega | (simp only [InK]; omega) | (simp [InK]; done) | (simp [InK]; omega))); simp only [↓sx0, sx1, encs, tys, sxR, sevalprocAttr])
                refine ⟨k + 1, StLe.auto (by simp only [sx2, encs, sxR, sevalprocAttr] <;> (try simp) <;> (try omega)), ?_, ?_⟩
                · refine ⟨by omega, fun j hj => ?_⟩
                  by_cases e : j = k
                  · subst e; exact hf
                  · exact hK j (by omega)
                · omega
          · have hke : k = b.length + 1 := by omega
            subst hke
            simp only [↓sx0, sx1, encs, tys, sxR, sevalprocAttr]
            repeat ((with_reducible refine Vc.go ?_ fun _ => ?_); (focus (first | omega | (simp only [InK]; omega) | (simp [InK]; done) | (simp [InK]; omega))); simp only [↓sx0, sx1, encs, tys, sxR, sevalprocAttr])
            refine ⟨i + 1, StLe.auto (by simp only [sx2, encs, sxR, sevalprocAttr] <;> (try simp) <;> (try omega)), ?_, ?_⟩
            · refine ⟨by omega, fun j hj => ?_⟩
              by_cases e : j = i
              · subst e; exact all_range hK
              · exact hI j (by omega)
            · omega
        · have hie : i = a.length + 1 := by omega
          subst hie
          rw [if_pos (all_range hI)]
          have hpos : L.length - 1 < L.length := by omega
          have hgd : L.getD (L.length - 1) 0 = L[L.length - 1] := by simp [List.getD_eq_getElem?_getD, hpos]
          rw [hgd]
          simp only [↓sx0, sx1, encs, tys, sxR, sevalprocAttr]
          repeat ((with_reducible refine Vc.go ?_ fun _ => ?_); (focus (first | omega | (simp only [InK]; omega) | (simp [InK]; done) | (simp [InK]; omega))); simp only [↓sx0, sx1, encs, tys, sxR, sevalprocAttr])
          refine ⟨by omega, _, (by rw [show ((L.length : Int) - 1).toNat = L.length - 1 by omega, List.getElem?_map, List.getElem?_eq_getElem hpos]; rfl), ?_⟩
          simp only [↓sx0, sx1, encs, tys, sxR, sevalprocAttr]
          exact EndW.fn (by simp only [sx4, encs, kpLL_map, sxR, sevalprocAttr] <;> (try simp) <;> (try omega)) (by simp only [sx4, encs, kpLL_map, sxR, sevalprocAttr] <;> (try simp) <;> (try omega))
end Go.Proofs.Ytenohgpackcjbaa
/-
  Chapter 8: the law of labels.
-/
namespace Go.Proofs.Ytenohgpackcjbaa
open Go Go.Vx
set_option linter.unusedSimpArgs false
set_option linter.unusedVariables false
set_option maxRecDepth 20000
theorem fold_le {nb : Nat} {L : List Int} {x : Int} : ∀ (l : List ((Nat × Nat) × Int)) (m : Int), x ≤ l.foldl (bdS nb L) m ↔ x ≤ m ∧ ∀ p ∈ l, x ≤ L.getD (atN nb p.1.1 p.1.2) 0 + p.2
  | [], m => by simp
  | p :: l, m => by
    rw [List.foldl_cons, fold_le l, bdS]
    simp only [List.forall_mem_cons]
    constructor
    · rintro ⟨h1, h2⟩
      exact ⟨by omega, by omega, h2⟩
    · rintro ⟨h1, h2, h3⟩
      exact ⟨by omega, h3⟩
theorem bdV_le {a b : List ByteArray} {L : List Int} {i k : Nat} {x : Int} : x ≤ bdV a b L i k ↔ x ≤ mostB i k ∧ ∀ p ∈ stN a b i k, x ≤ L.getD (atN b.length p.1.1 p.1.2) 0 + p.2 := fold_le _ _
def lb (b : List ByteArray) (L : List Int) (i k : Nat) : Int := L.getD (atN b.length i k) 0
theorem fwd_iff {a b : List ByteArray} {L : List Int} {i k : Nat} : fwdB a b L i k = true ↔ (i < a.length → lb b L (i + 1) k ≤ lb b L i k + 1) ∧ (k < b.length → lb b L i (k + 1) ≤ lb b L i k + 1) ∧ (i < a.length → k < b.length → lb b L (i + 1) (k + 1) ≤ lb b L i k + chN a b i k) := by
  unfold fwdB lb
  simp only [Bool.not_eq_true', Bool.or_eq_false_iff, Bool.and_eq_false_iff, decide_eq_false_iff_not]
  constructor
  · rintro ⟨⟨h1, h2⟩, h3⟩
    refine ⟨fun h => by omega, fun h => by omega, fun h h' => by omega⟩
  · rintro ⟨h1, h2, h3⟩
    refine ⟨⟨?_, ?_⟩, ?_⟩
    · by_cases h : i < a.length
      · have := h1 h; omega
      · exact .inl h
    · by_cases h : k < b.length
      · have := h2 h; omega
      · exact .inl h
    · by_cases h : i < a.length
      · by_cases h' : k < b.length
        · have := h3 h h'; omega
        · exact .inl (.inr h')
      · exact .inl (.inl h)
theorem row_iff {a b : List ByteArray} {L : List Int} {i k : Nat} : rowOk a b L i k = true ↔ lb b L i k ≤ mostB i k ∧ (0 < i → 0 < k → lb b L i k ≤ lb b L (i - 1) (k - 1) + chN a b (i - 1) (k - 1)) ∧ (0 < i → lb b L i k ≤ lb b L (i - 1) k + 1) ∧ (0 < k → lb b L i k ≤ lb b L i (k - 1) + 1) := by
  unfold rowOk
  rw [decide_eq_true_eq, bdV_le]
  refine and_congr Iff.rfl ?_
  unfold stN lb chN
  constructor
  · intro h
    refine ⟨fun h1 h2 => ?_, fun h1 => ?_, fun h2 => ?_⟩
    · have := h ((i - 1, k - 1), if a[i - 1]? = b[k - 1]? then 0 else 1) (by rw [if_pos ⟨h1, h2⟩]; simp)
      exact this
    · have := h ((i - 1, k), 1) (by rw [if_pos h1]; simp)
      exact this
    · have := h ((i, k - 1), 1) (by rw [if_pos h2]; simp)
      exact this
  · rintro ⟨h1, h2, h3⟩ p hp
    simp only [List.mem_append] at hp
    rcases hp with hp | hp | hp
    · split at hp
      · rename_i hh
        simp only [List.mem_singleton] at hp; subst hp
        exact h1 hh.1 hh.2
      · cases hp
    · split at hp
      · rename_i hh
        simp only [List.mem_singleton] at hp; subst hp
        exact h2 hh
      · cases hp
    · split at hp
      · rename_i hh
        simp only [List.mem_singleton] at hp; subst hp
        exact h3 hh
      · cases hp
theorem range_all {p : Nat → Bool} {n : Nat} : (List.range n).all p = true ↔ ∀ k, k < n → p k = true := by
  rw [List.all_eq_true]
  exact ⟨fun h k hk => h k (List.mem_range.2 hk), fun h k hk => h k (List.mem_range.1 hk)⟩
theorem lab_ref {a b : List ByteArray} {L : List Int} (hn : L.length = (a.length + 1) * (b.length + 1)) (hv : ∀ x ∈ L, 0 ≤ x ∧ x ≤ 100) : labOk a b L = refOk a b L := by
  have hb : ∀ i k, i ≤ a.length → k ≤ b.length → 0 ≤ lb b L i k ∧ lb b L i k ≤ 100 := fun i k h1 h2 => by
    have hx : atN b.length i k < L.length := by rw [hn]; exact atN_lt h1 h2
    have : lb b L i k = L[atN b.length i k] := by simp [lb, List.getD_eq_getElem?_getD, hx]
    rw [this]
    exact hv _ (List.getElem_mem hx)
  have h00 : lb b L 0 0 = L.getD 0 0 := by simp [lb, atN]
  rw [Bool.eq_iff_iff]
  unfold labOk refOk rowsOk fwdR
  rw [Bool.and_eq_true, decide_eq_true_eq, range_all, range_all]
  simp only [range_all]
  constructor
  · intro h
    have hr := fun i k (h1 : i < a.length + 1) (h2 : k < b.length + 1) => row_iff.1 (h i h1 k h2)
    refine ⟨?_, fun i hi k hk => fwd_iff.2 ⟨fun h1 => ?_, fun h2 => ?_, fun h1 h2 => ?_⟩⟩
    · have h1 := (hr 0 0 (by omega) (by omega)).1
      have h2 := hb 0 0 (by omega) (by omega)
      rw [← h00]
      unfold mostB at h1
      simp at h1; omega
    · exact (hr (i + 1) k (by omega) hk).2.2.1 (by omega)
    · exact (hr i (k + 1) hi (by omega)).2.2.2 (by omega)
    · exact (hr (i + 1) (k + 1) (by omega) (by omega)).2.1 (by omega) (by omega)
  · rintro ⟨h0, h⟩ i hi k hk
    have hf := fun i k (h1 : i < a.length + 1) (h2 : k < b.length + 1) => fwd_iff.1 (h i h1 k h2)
    refine row_iff.2 ⟨?_, fun h1 h2 => ?_, fun h1 => ?_, fun h2 => ?_⟩
    · unfold mostB
      split
      · rename_i hz
        obtain ⟨rfl, rfl⟩ := hz
        omega
      · exact (hb i k (by omega) (by omega)).2
    · obtain ⟨i, rfl⟩ : ∃ j, i = j + 1 := ⟨i - 1, by omega⟩
      obtain ⟨k, rfl⟩ : ∃ j, k = j + 1 := ⟨k - 1, by omega⟩
      exact (hf i k (by omega) (by omega)).2.2 (by omega) (by omega)
    · obtain ⟨i, rfl⟩ : ∃ j, i = j + 1 := ⟨i - 1, by omega⟩
      exact (hf i k (by omega) hk).1 (by omega)
    · obtain ⟨k, rfl⟩ : ∃ j, k = j + 1 := ⟨k - 1, by omega⟩
      exact (hf i k hi (by omega)).2.1 (by omega)
theorem labE_eq (a b : List ByteArray) (L : List Int) : labE a b L = labR a b L := by
  unfold labE labR
  by_cases hn : L.length = (a.length + 1) * (b.length + 1)
  · rw [if_pos hn, if_pos hn]
    by_cases hr : L.any badL = true
    · rw [if_pos hr, if_pos hr]
    · rw [if_neg hr, if_neg hr, lab_ref hn (fun x hx => ?_)]
      have hr : L.any badL = false := by simpa using hr
      rw [List.any_eq_false] at hr
      simpa [badL] using hr x hx
  · rw [if_neg hn, if_neg hn]
/-- edits cost at least what labels say. -/
theorem edF_ge {a b : List ByteArray} {L : List Int} (hf : ∀ i k, i ≤ a.length → k ≤ b.length → fwdB a b L i k = true) : ∀ (l : List Ed) (i k c : Nat), i ≤ a.length → k ≤ b.length → lb b L i k ≤ c → (edF a b l i k c).2 = 0 → lb b L a.length b.length ≤ (edF a b l i k c).1
  | [], i, k, c, hi, hk, hc, he => by
    unfold edF at he ⊢
    split at he
    · rename_i h
      rw [if_pos h, ← h.1, ← h.2]
      exact hc
    · simp at he
  | x :: l, i, k, c, hi, hk, hc, he => by
    unfold edF at he ⊢
    split at he
    · simp at he
    · rename_i h1
      rw [if_neg h1]
      split at he
      · rename_i h2
        rw [if_pos h2]
        simp only [nxOk, Bool.or_eq_true, Bool.and_eq_true, decide_eq_true_eq] at h2
        obtain ⟨f1, f2, f3⟩ := fwd_iff.1 (hf i k hi hk)
        have hi' : nxI x.fr i ≤ a.length := by unfold nxI; split <;> omega
        have hk' : nxI x.to k ≤ b.length := by unfold nxI; split <;> omega
        refine edF_ge hf l _ _ _ hi' hk' ?_ he
        rw [Int.natCast_add]
        by_cases q1 : x.fr = -1
        · have q2 : ¬ x.to = -1 := fun h => h1 ⟨q1, h⟩
          rw [show nxI x.fr i = i by rw [nxI, if_pos q1], show nxI x.to k = k + 1 by rw [nxI, if_neg q2], show edC a b x i k = 1 by rw [edC, if_pos (.inl q1)]]
          have := f2 (by omega)
          omega
        · by_cases q2 : x.to = -1
          · rw [show nxI x.fr i = i + 1 by rw [nxI, if_neg q1], show nxI x.to k = k by rw [nxI, if_pos q2], show edC a b x i k = 1 by rw [edC, if_pos (.inr (.inl q2))]]
            have := f1 (by omega)
            omega
          · rw [show nxI x.fr i = i + 1 by rw [nxI, if_neg q1], show nxI x.to k = k + 1 by rw [nxI, if_neg q2]]
            have h3 := f3 (by omega) (by omega)
            have hch : chN a b i k = ((edC a b x i k : Nat) : Int) := by
              unfold chN edC
              by_cases hab : a[i]? = b[k]?
              · rw [if_pos hab, if_neg (by simp [q1, q2, hab])]; rfl
              · rw [if_neg hab, if_pos (.inr (.inr hab))]; rfl
            rw [hch] at h3
            omega
      · simp at he
theorem lab_le {a b : List ByteArray} {L : List Int} {E : List Ed} (h1 : (labR a b L).2 = 0) (h2 : (edF a b E 0 0 0).2 = 0) : (labR a b L).1 ≤ (edF a b E 0 0 0).1 := by
  unfold labR at h1 ⊢
  split at h1
  · rename_i hn
    rw [if_pos hn]
    split at h1
    · simp at h1
    · rename_i hr
      rw [if_neg hr]
      split at h1
      · rename_i ho
        rw [if_pos ho]
        unfold refOk fwdR at ho
        rw [Bool.and_eq_true, decide_eq_true_eq, range_all] at ho
        simp only [range_all] at ho
        have hl : L.length - 1 = atN b.length a.length b.length := by have := lab_last a.length b.length; omega
        rw [hl]
        refine edF_ge (fun i k hi hk => ho.2 i (by omega) k (by omega)) E 0 0 0 (by omega) (by omega) ?_ h2
        have : lb b L 0 0 = 0 := by rw [← ho.1]; simp [lb, atN]
        omega
      · simp at h1
  · simp at h1
end Go.Proofs.Ytenohgpackcjbaa
