/-
  Chapter 8, walks: parts of a copy are right.
-/
import Derived.Test.YtenohgpackcjbaaVW2
namespace Go.Proofs.Ytenohgpackcjbaa
open Go Go.Vx
set_option linter.unusedSimpArgs false
set_option linter.unusedVariables false
set_option maxRecDepth 20000
def ixG {α : Type} (p : α → Bool) (l : List α) : Int := match l.findIdx? p with
  | some k => (k : Int)
  | none => -1
theorem ixG_at {α : Type} {p : α → Bool} {l : List α} {k : Nat} (hk : k < l.length) (he : p l[k] = true) (ht : ∀ j (_ : j < k) (h2 : j < l.length), p l[j] = false) : ixG p l = k := by
  have : l.findIdx? p = some k := by
    rw [List.findIdx?_eq_some_iff_getElem]
    exact ⟨hk, he, fun j hj => by simpa using ht j hj (by omega)⟩
  simp [ixG, this]
theorem ixG_no {α : Type} {p : α → Bool} {l : List α} (ht : ∀ j (h2 : j < l.length), p l[j] = false) : ixG p l = -1 := by
  have : l.findIdx? p = none := by
    rw [List.findIdx?_eq_none_iff]
    intro y hy
    obtain ⟨j, h1, rfl⟩ := List.getElem_of_mem hy
    exact ht j h1
  simp [ixG, this]
theorem ixG_any {α : Type} {p : α → Bool} {l : List α} : decide (0 ≤ ixG p l) = l.any p := by
  rw [Bool.eq_iff_iff, decide_eq_true_eq, List.any_eq_true]
  unfold ixG
  cases h : l.findIdx? p with
  | none =>
    rw [List.findIdx?_eq_none_iff] at h
    simp only
    refine ⟨fun h => by omega, fun ⟨x, h1, h2⟩ => ?_⟩
    rw [h x h1] at h2; cases h2
  | some k =>
    rw [List.findIdx?_eq_some_iff_getElem] at h
    obtain ⟨h1, h2, _⟩ := h
    exact ⟨fun _ => ⟨_, List.getElem_mem h1, h2⟩, fun _ => by simp only; omega⟩
theorem indexS_s (b : Bool) (f : Nat) (p : ByteArray → Bool) (l : List ByteArray) (hl : l.length ≤ 1000000000) (hof : ∀ x ∈ l, Ctr Try.prog f [(.v (.string (x)))] (fun rr => rr = ⟨(.v (.bool (p x))), []⟩)) : Ctr Try.prog 117 [.sl b 1 (l.map eS), .clo f []] (fun rr => rr = ⟨(.v (.int .i64 (ixG p l))), []⟩) := by
  refine Ctr.of (rs := [.tmp 4]) Tok true Try.func117 rfl rfl rfl rfl (by simp [ofDL]) (fun w0 kp => ?_)
  simp only [↓sx0, sx1, encs, tys, sxR, sevalprocAttr]
  refine LoopW.comp [0, 1, 7, 8] (by simp only [sx2, encs, sxR, sevalprocAttr] <;> (try simp) <;> (try omega)) ?_
  simp only [sx2, sxR, sevalprocAttr]
  refine LoopW.up Tok (fun k : Nat => [(8, (.v (.int .i64 k)))]) (fun k => []) (fun k => []) (fun k => []) (fun k => k ≤ l.length ∧ ∀ j (_ : j < k) (h2 : j < l.length), p l[j] = false) (fun k => l.length - k) (0) (by simp only [sx2, encs, sxR, sevalprocAttr] <;> (try simp) <;> (try omega)) ?_ ?_
  · exact ⟨by omega, fun j h => absurd h (Nat.not_lt_zero _)⟩
  rintro k ⟨hk, ht⟩
  simp only [↓sx0, sx1, encs, tys, sxR, sevalprocAttr]
  refine BrW.dec (fun hlt => ?_) (fun hlt => ?_)
  · simp only [↓sx0, sx1, encs, tys, sxR, sevalprocAttr]
    have hlt : k < l.length := by omega
    refine IxW.nat hlt ?_
    simp only [↓sx0, sx1, encs, tys, sxR, sevalprocAttr]
    refine CallI.fn (hof l[k] (List.getElem_mem hlt)) (by simp only [sx3, encs, sxR, sevalprocAttr] <;> (try simp) <;> (try rfl)) ?_
    simp only [↓sx0, sx1, encs, tys, sxR, sevalprocAttr]
    refine BrW.of (fun hb => ?_) (fun hb => ?_)
    · simp only [↓sx0, sx1, encs, tys, sxR, sevalprocAttr]
      have := ixG_at hlt hb ht
      exact EndW.fn (by simp only [sx4, encs, kpLL_map, sxR, sevalprocAttr] <;> (try simp [this]) <;> (try omega)) (by simp only [sx4, encs, kpLL_map, sxR, sevalprocAttr] <;> (try simp) <;> (try omega))
    · simp only [↓sx0, sx1, encs, tys, sxR, sevalprocAttr]
      (with_reducible refine Vc.go ?_ fun _ => ?_); focus (first | omega | (simp only [InK]; omega) | (simp [InK]; done) | (simp [InK]; omega))
      simp only [↓sx0, sx1, encs, tys, sxR, sevalprocAttr]
      refine ⟨k + 1, StLe.auto (by simp only [sx2, encs, sxR, sevalprocAttr] <;> (try simp) <;> (try omega)), ?_, ?_⟩
      · refine ⟨hlt, fun j h h2 => ?_⟩
        by_cases e : j = k
        · subst e; exact hb
        · exact ht j (by omega) h2
      · omega
  · simp only [↓sx0, sx1, encs, tys, sxR, sevalprocAttr]
    have hke : k = l.length := by omega
    subst hke
    have := ixG_no (l := l) (p := p) fun j h => ht j h h
    exact EndW.fn (by simp only [sx4, encs, kpLL_map, sxR, sevalprocAttr] <;> (try simp [this]) <;> (try omega)) (by simp only [sx4, encs, kpLL_map, sxR, sevalprocAttr] <;> (try simp) <;> (try omega))
theorem containsS_s (b : Bool) (f : Nat) (p : ByteArray → Bool) (l : List ByteArray) (hl : l.length ≤ 1000000000) (hof : ∀ x ∈ l, Ctr Try.prog f [(.v (.string (x)))] (fun rr => rr = ⟨(.v (.bool (p x))), []⟩)) : Ctr Try.prog 86 [.sl b 1 (l.map eS), .clo f []] (fun rr => rr = ⟨(.v (.bool (l.any p))), []⟩) := by
  refine Ctr.of (rs := [.tmp 4]) Tok true Try.func86 rfl rfl rfl rfl (by simp [ofDL]) (fun w0 kp => ?_)
  simp only [↓sx0, sx1, encs, tys, sxR, sevalprocAttr]
  refine CallI.fn (indexS_s b f p l hl hof) (by simp only [sx3, encs, sxR, sevalprocAttr] <;> (try simp) <;> (try rfl)) ?_
  simp only [↓sx0, sx1, encs, tys, sxR, sevalprocAttr]
  rw [ixG_any]
  exact EndW.fn (by simp only [sx4, encs, kpLL_map, sxR, sevalprocAttr] <;> (try simp) <;> (try omega)) (by simp only [sx4, encs, kpLL_map, sxR, sevalprocAttr] <;> (try simp) <;> (try omega))
def badW (s : ByteArray) : Bool := !isWd s
theorem part1_s (s : ByteArray) : Ctr Try.prog 134 [(.v (.string (s)))] (fun rr => rr = ⟨(.v (.bool (badW s))), []⟩) := by
  refine Ctr.of (rs := [.tmp 2]) Tok true Try.func134 rfl rfl rfl rfl (by simp [ofDL]) (fun w0 kp => ?_)
  simp only [↓sx0, sx1, encs, tys, sxR, sevalprocAttr]
  refine CallI.fn (isWordT_s s) (by simp only [sx3, encs, sxR, sevalprocAttr] <;> (try simp) <;> (try rfl)) ?_
  simp only [↓sx0, sx1, encs, tys, sxR, sevalprocAttr]
  exact EndW.fn (by simp only [sx4, encs, kpLL_map, sxR, sevalprocAttr] <;> (try simp [badW]) <;> (try omega)) (by simp only [sx4, encs, kpLL_map, sxR, sevalprocAttr] <;> (try simp) <;> (try omega))
/-- the error of a part. -/
def partErr (p : Pt) : Int :=
  if 1 ≤ p.kind ∧ p.kind ≤ 3 then (if p.words.length = 0 then 10 else if 100 < p.words.length then 8 else if p.words.any badW = true ∨ isMk (p.words.headD hash) = true then 3 else 0) else 15
theorem headD_get {α : Type} {l : List α} {d : α} (h : 0 < l.length) : l.headD d = l[0] := by
  cases l with
  | nil => simp at h
  | cons x l => rfl
theorem checkPart_s (b : Bool) (p : Pt) : Ctr Try.prog 119 [.agg [(.v (.int .i64 p.kind)), .sl b 1 (p.words.map eS)]] (fun rr => rr = ⟨(.v (.int .i64 (partErr p))), []⟩) := by
  refine Ctr.of (rs := [.tmp 2]) Tok true Try.func119 rfl rfl rfl rfl (by simp [ofDL]) (fun w0 kp => ?_)
  simp only [↓sx0, sx1, encs, tys, sxR, sevalprocAttr]
  refine CallI.fn (withinT_s p.kind 1 3) (by simp only [sx3, encs, sxR, sevalprocAttr] <;> (try simp) <;> (try rfl)) ?_
  simp only [↓sx0, sx1, encs, tys, sxR, sevalprocAttr]
  refine BrW.of (fun hk => ?_) (fun hk => ?_)
  · have hk : 1 ≤ p.kind ∧ p.kind ≤ 3 := by simpa using hk
    simp only [↓sx0, sx1, encs, tys, sxR, sevalprocAttr]
    refine BrW.dec (fun h0 => ?_) (fun h0 => ?_)
    · simp only [↓sx0, sx1, encs, tys, sxR, sevalprocAttr]
      rw [show partErr p = 10 by rw [partErr, if_pos hk, if_pos (by omega)]]
      exact EndW.fn (by simp only [sx4, encs, kpLL_map, sxR, sevalprocAttr] <;> (try simp) <;> (try omega)) (by simp only [sx4, encs, kpLL_map, sxR, sevalprocAttr] <;> (try simp) <;> (try omega))
    · simp only [↓sx0, sx1, encs, tys, sxR, sevalprocAttr]
      refine BrW.dec (fun h8 => ?_) (fun h8 => ?_)
      · simp only [↓sx0, sx1, encs, tys, sxR, sevalprocAttr]
        rw [show partErr p = 8 by rw [partErr, if_pos hk, if_neg (by omega), if_pos (by omega)]]
        exact EndW.fn (by simp only [sx4, encs, kpLL_map, sxR, sevalprocAttr] <;> (try simp) <;> (try omega)) (by simp only [sx4, encs, kpLL_map, sxR, sevalprocAttr] <;> (try simp) <;> (try omega))
      · simp only [↓sx0, sx1, encs, tys, sxR, sevalprocAttr]
        have hpe : partErr p = if p.words.any badW = true ∨ isMk (p.words.headD hash) = true then 3 else 0 := by rw [partErr, if_pos hk, if_neg (by omega), if_neg (by omega)]
        have hpos : 0 < p.words.length := by omega
        refine CallI.fn (containsS_s b 134 badW p.words (by omega) (fun x _ => part1_s x)) (by simp only [sx3, encs, sxR, sevalprocAttr] <;> (try simp) <;> (try rfl)) ?_
        simp only [↓sx0, sx1, encs, tys, sxR, sevalprocAttr]
        refine BrW.of (fun hb => ?_) (fun hb => ?_)
        · simp only [↓sx0, sx1, encs, tys, sxR, sevalprocAttr]
          rw [hpe, if_pos (.inl hb)]
          exact EndW.fn (by simp only [sx4, encs, kpLL_map, sxR, sevalprocAttr] <;> (try simp) <;> (try omega)) (by simp only [sx4, encs, kpLL_map, sxR, sevalprocAttr] <;> (try simp) <;> (try omega))
        · simp only [↓sx0, sx1, encs, tys, sxR, sevalprocAttr]
          refine IxW.nat (j := 0) hpos ?_
          simp only [↓sx0, sx1, encs, tys, sxR, sevalprocAttr]
          refine CallI.fn (isMark_s p.words[0]) (by simp only [sx3, encs, sxR, sevalprocAttr] <;> (try simp) <;> (try rfl)) ?_
          simp only [↓sx0, sx1, encs, tys, sxR, sevalprocAttr]
          refine BrW.of (fun hm => ?_) (fun hm => ?_)
          · simp only [↓sx0, sx1, encs, tys, sxR, sevalprocAttr]
            rw [hpe, if_pos (.inr (by rw [headD_get hpos]; exact hm))]
            exact EndW.fn (by simp only [sx4, encs, kpLL_map, sxR, sevalprocAttr] <;> (try simp) <;> (try omega)) (by simp only [sx4, encs, kpLL_map, sxR, sevalprocAttr] <;> (try simp) <;> (try omega))
          · simp only [↓sx0, sx1, encs, tys, sxR, sevalprocAttr]
            rw [hpe, if_neg (by rw [headD_get hpos, hb, hm]; simp)]
            exact EndW.fn (by simp only [sx4, encs, kpLL_map, sxR, sevalprocAttr] <;> (try simp) <;> (try omega)) (by simp only [sx4, encs, kpLL_map, sxR, sevalprocAttr] <;> (try simp) <;> (try omega))
  · have hk : ¬ (1 ≤ p.kind ∧ p.kind ≤ 3) := by simpa using hk
    simp only [↓sx0, sx1, encs, tys, sxR, sevalprocAttr]
    rw [show partErr p = 15 by rw [partErr, if_neg hk]]
    exact EndW.fn (by simp only [sx4, encs, kpLL_map, sxR, sevalprocAttr] <;> (try simp) <;> (try omega)) (by simp only [sx4, encs, kpLL_map, sxR, sevalprocAttr] <;> (try simp) <;> (try omega))
/-- the number and the error of the first part that is wrong. -/
def partsE : Nat → List Pt → Int × Int
  | _, [] => (0, 0)
  | k, p :: l => if partErr p = 0 then partsE (k + 1) l else ((k : Int), partErr p)
def partsErr (l : List Pt) : Int × Int := if 60 < l.length then (0, 8) else partsE 0 l
theorem partsE_at {l : List Pt} {k : Nat} (h : k < l.length) (ht : partsE k (l.drop k) = partsE 0 l) : partsE 0 l = if partErr l[k] = 0 then partsE (k + 1) (l.drop (k + 1)) else ((k : Int), partErr l[k]) := by
  rw [← ht, List.drop_eq_getElem_cons h]
  rfl
theorem checkParts_s (b b2 : Bool) (l : List Pt) : Ctr Try.prog 92 [.sl b 2 (l.map (eP b2))] (fun rr => rr = ⟨.tup [(.v (.int .i64 ((partsErr l).1))), (.v (.int .i64 ((partsErr l).2)))], []⟩) := by
  refine Ctr.of (rs := [.tmp 2, .tmp 3]) Tok true Try.func92 rfl rfl rfl rfl (by simp [ofDL]) (fun w0 kp => ?_)
  simp only [↓sx0, sx1, encs, tys, sxR, sevalprocAttr]
  refine BrW.dec (fun h1 => ?_) (fun h1 => ?_)
  · simp only [↓sx0, sx1, encs, tys, sxR, sevalprocAttr]
    rw [show partsErr l = (0, 8) by rw [partsErr, if_pos (by omega)]]
    exact EndW.fn (by simp only [sx4, encs, kpLL_map, sxR, sevalprocAttr] <;> (try simp) <;> (try omega)) (by simp only [sx4, encs, kpLL_map, sxR, sevalprocAttr] <;> (try simp) <;> (try omega))
  · simp only [↓sx0, sx1, encs, tys, sxR, sevalprocAttr]
    rw [show partsErr l = partsE 0 l by rw [partsErr, if_neg (by omega)]]
    refine LoopW.comp [10, 11, 12] (by simp only [sx2, encs, sxR, sevalprocAttr] <;> (try simp) <;> (try omega)) ?_
    simp only [sx2, sxR, sevalprocAttr]
    refine LoopW.up Tok (fun k : Nat => [(12, (.v (.int .i64 k)))]) (fun k => []) (fun k => []) (fun k => []) (fun k => k ≤ l.length ∧ partsE k (l.drop k) = partsE 0 l) (fun k => l.length - k) (0) (by simp only [sx2, encs, sxR, sevalprocAttr] <;> (try simp) <;> (try omega)) ?_ ?_
    · exact ⟨by omega, rfl⟩
    rintro k ⟨hk, ht⟩
    simp only [↓sx0, sx1, encs, tys, sxR, sevalprocAttr]
    refine BrW.dec (fun hlt => ?_) (fun hlt => ?_)
    · simp only [↓sx0, sx1, encs, tys, sxR, sevalprocAttr]
      have hlt : k < l.length := by omega
      have he := partsE_at hlt ht
      refine IxW.nat hlt ?_
      simp only [↓sx0, sx1, encs, tys, sxR, sevalprocAttr]
      refine CallI.fn (checkPart_s b2 l[k]) (by simp only [sx3, encs, sxR, sevalprocAttr] <;> (try simp) <;> (try rfl)) ?_
      simp only [↓sx0, sx1, encs, tys, sxR, sevalprocAttr]
      refine BrW.dec (fun hp => ?_) (fun hp => ?_)
      · simp only [↓sx0, sx1, encs, tys, sxR, sevalprocAttr]
        rw [if_neg hp] at he
        rw [he]
        exact EndW.fn (by simp only [sx4, encs, kpLL_map, sxR, sevalprocAttr] <;> (try simp) <;> (try omega)) (by simp only [sx4, encs, kpLL_map, sxR, sevalprocAttr] <;> (try simp) <;> (try omega))
      · simp only [↓sx0, sx1, encs, tys, sxR, sevalprocAttr]
        rw [if_pos (Decidable.not_not.1 hp)] at he
        repeat ((with_reducible refine Vc.go ?_ fun _ => ?_); (focus (first | omega | (simp only [InK]; omega) | (simp [InK]; done) | (simp [InK]; omega))); simp only [↓sx0, sx1, encs, tys, sxR, sevalprocAttr])
        refine ⟨k + 1, StLe.auto (by simp only [sx2, encs, sxR, sevalprocAttr] <;> (try simp) <;> (try omega)), ?_, ?_⟩
        · exact ⟨hlt, he.symm⟩
        · omega
    · simp only [↓sx0, sx1, encs, tys, sxR, sevalprocAttr]
      have hke : k = l.length := by omega
      subst hke
      rw [List.drop_length] at ht
      rw [← ht]
      exact EndW.fn (by simp only [sx4, encs, kpLL_map, sxR, sevalprocAttr] <;> (try simp [partsE]) <;> (try omega)) (by simp only [sx4, encs, kpLL_map, sxR, sevalprocAttr] <;> (try simp) <;> (try omega))
theorem checkCopy_s (b b2 : Bool) (l : List Pt) : Ctr Try.prog 56 [.sl b 2 (l.map (eP b2))] (fun rr => rr = ⟨(.v (.int .i64 ((partsErr l).2))), []⟩) := by
  refine Ctr.of (rs := [.tmp 2]) Tok true Try.func56 rfl rfl rfl rfl (by simp [ofDL]) (fun w0 kp => ?_)
  simp only [↓sx0, sx1, encs, tys, sxR, sevalprocAttr]
  refine CallI.fn (checkParts_s b b2 l) (by simp only [sx3, encs, sxR, sevalprocAttr] <;> (try simp) <;> (try rfl)) ?_
  simp only [↓sx0, sx1, encs, tys, sxR, sevalprocAttr]
  exact EndW.fn (by simp only [sx4, encs, kpLL_map, sxR, sevalprocAttr] <;> (try simp) <;> (try omega)) (by simp only [sx4, encs, kpLL_map, sxR, sevalprocAttr] <;> (try simp) <;> (try omega))
end Go.Proofs.Ytenohgpackcjbaa
