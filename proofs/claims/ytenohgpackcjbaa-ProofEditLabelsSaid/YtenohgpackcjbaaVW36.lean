/-
  Chapter 8, walks: labels of edits are checked.
-/
import Derived.Test.YtenohgpackcjbaaVW35
namespace Go.Proofs.Ytenohgpackcjbaa
open Go Go.Vx
set_option linter.unusedSimpArgs false
set_option linter.unusedVariables false
set_option maxRecDepth 20000
theorem indexI_s (b : Bool) (f : Nat) (p : Int → Bool) (l : List Int) (hl : l.length ≤ 1000000000) (hof : ∀ x ∈ l, Ctr Try.prog f [(.v (.int .i64 x))] (fun rr => rr = ⟨(.v (.bool (p x))), []⟩)) : Ctr Try.prog 112 [.sl b 1 (l.map eI), .clo f []] (fun rr => rr = ⟨(.v (.int .i64 (ixG p l))), []⟩) := by
  refine Ctr.of (rs := [.tmp 4]) Tok true Try.func112 rfl rfl rfl rfl (by simp [ofDL]) (fun w0 kp => ?_)
  simp only [↓sx0, sx1, encs, tys, sxR, sevalprocAttr]
  refine LoopW.comp [0, 1, 7, 8] (by simp only [sx2, encs, sxR, sevalprocAttr] <;> (try simp) <;> (try omega)) ?_
  simp only [sx2, sxR, sevalprocAttr]
  refine LoopW.up Tok (fun k : Nat => [(8, (.v (.int .i64 k)))]) (fun k => []) (fun k => []) (fun k => []) (fun k => k ≤ l.length ∧ ∀ j (_ : j < k) (h2 : j < l.length), p l[j] = false) (fun k => l.length - k) (0) (by simp only [sx2, encs, sxR, sevalprocAttr] <;> (try simp) <;> (try omega)) ?_ ?_
  · exact ⟨by omega, fun j h => absurd h (Nat.not_lt_zero _)⟩
  rintro k ⟨hk, ht⟩
  simp only [↓sx0, sx1, encs, tys, sxR, sevalprocAttr]
  refine BrW.dec (fun hlt => ?_) (fun hlt => ?_)
  · simp only [↓sx0, sx1, encs, tys, sxR, sevalprocAttr]
    have hlt : k < l.length := by omega
    refine IxW.nat hlt ?_
    simp only [↓sx0, sx1, encs, tys, sxR, sevalprocAttr]
    refine CallI.fn (hof l[k] (List.getElem_mem hlt)) (by simp only [sx3, encs, sxR, sevalprocAttr] <;> (try simp) <;> (try rfl)) ?_
    simp only [↓sx0, sx1, encs, tys, sxR, sevalprocAttr]
    refine BrW.of (fun hb => ?_) (fun hb => ?_)
    · simp only [↓sx0, sx1, encs, tys, sxR, sevalprocAttr]
      have := ixG_at hlt hb ht
      exact EndW.fn (by simp only [sx4, encs, kpLL_map, sxR, sevalprocAttr] <;> (try simp [this]) <;> (try omega)) (by simp only [sx4, encs, kpLL_map, sxR, sevalprocAttr] <;> (try simp) <;> (try omega))
    · simp only [↓sx0, sx1, encs, tys, sxR, sevalprocAttr]
      (with_reducible refine Vc.go ?_ fun _ => ?_); focus (first | omega | (simp only [InK]; omega) | (simp [InK]; done) | (simp [InK]; omega))
      simp only [↓sx0, sx1, encs, tys, sxR, sevalprocAttr]
      refine ⟨k + 1, StLe.auto (by simp only [sx2, encs, sxR, sevalprocAttr] <;> (try simp) <;> (try omega)), ?_, ?_⟩
      · refine ⟨hlt, fun j h h2 => ?_⟩
        by_cases e : j = k
        · subst e; exact hb
        · exact ht j (by omega) h2
      · omega
  · simp only [↓sx0, sx1, encs, tys, sxR, sevalprocAttr]
    have hke : k = l.length := by omega
    subst hke
    have := ixG_no (l := l) (p := p) fun j h => ht j h h
    exact EndW.fn (by simp only [sx4, encs, kpLL_map, sxR, sevalprocAttr] <;> (try simp [this]) <;> (try omega)) (by simp only [sx4, encs, kpLL_map, sxR, sevalprocAttr] <;> (try simp) <;> (try omega))
theorem containsI_s (b : Bool) (f : Nat) (p : Int → Bool) (l : List Int) (hl : l.length ≤ 1000000000) (hof : ∀ x ∈ l, Ctr Try.prog f [(.v (.int .i64 x))] (fun rr => rr = ⟨(.v (.bool (p x))), []⟩)) : Ctr Try.prog 74 [.sl b 1 (l.map eI), .clo f []] (fun rr => rr = ⟨(.v (.bool (l.any p))), []⟩) := by
  refine Ctr.of (rs := [.tmp 4]) Tok true Try.func74 rfl rfl rfl rfl (by simp [ofDL]) (fun w0 kp => ?_)
  simp only [↓sx0, sx1, encs, tys, sxR, sevalprocAttr]
  refine CallI.fn (indexI_s b f p l hl hof) (by simp only [sx3, encs, sxR, sevalprocAttr] <;> (try simp) <;> (try rfl)) ?_
  simp only [↓sx0, sx1, encs, tys, sxR, sevalprocAttr]
  rw [ixG_any]
  exact EndW.fn (by simp only [sx4, encs, kpLL_map, sxR, sevalprocAttr] <;> (try simp) <;> (try omega)) (by simp only [sx4, encs, kpLL_map, sxR, sevalprocAttr] <;> (try simp) <;> (try omega))
def badL (n : Int) : Bool := !decide (0 ≤ n ∧ n ≤ 100)
theorem labels1_s (n : Int) : Ctr Try.prog 75 [(.v (.int .i64 n))] (fun rr => rr = ⟨(.v (.bool (badL n))), []⟩) := by
  refine Ctr.of (rs := [.tmp 2]) Tok true Try.func75 rfl rfl rfl rfl (by simp [ofDL]) (fun w0 kp => ?_)
  simp only [↓sx0, sx1, encs, tys, sxR, sevalprocAttr]
  refine CallI.fn (within_s n 0 100) (by simp only [sx3, encs, sxR, sevalprocAttr] <;> (try simp) <;> (try rfl)) ?_
  simp only [↓sx0, sx1, encs, tys, sxR, sevalprocAttr]
  exact EndW.fn (by simp only [sx4, encs, kpLL_map, sxR, sevalprocAttr] <;> (try simp [badL]) <;> (try omega)) (by simp only [sx4, encs, kpLL_map, sxR, sevalprocAttr] <;> (try simp) <;> (try omega))
/-- whether each label is at most its bound. -/
def rowOk (a b : List ByteArray) (L : List Int) (i k : Nat) : Bool := decide (L.getD (atN b.length i k) 0 ≤ bdV a b L i k)
def rowsOk (a b : List ByteArray) (L : List Int) (i : Nat) : Bool := (List.range (b.length + 1)).all fun k => rowOk a b L i k
def labOk (a b : List ByteArray) (L : List Int) : Bool := (List.range (a.length + 1)).all fun i => rowsOk a b L i
def labE (a b : List ByteArray) (L : List Int) : Int × Int :=
  if L.length = (a.length + 1) * (b.length + 1) then (if L.any badL = true then (0, 2) else if labOk a b L = true then (L.getD (L.length - 1) 0, 0) else (0, 22)) else (0, 10)
def labV (a b : List ByteArray) (L : List Int) : Int × Int := if wdsErr a b = 0 then labE a b L else (0, wdsErr a b)
theorem any_range_take {p : Nat → Bool} {n k : Nat} (h : k < n) (hp : p k = false) : (List.range n).all p = false := by
  rw [← Bool.not_eq_true, List.all_eq_true]
  intro hc
  have := hc k (List.mem_range.2 h)
  rw [hp] at this; cases this
theorem all_range {p : Nat → Bool} {n : Nat} (h : ∀ k, k < n → p k = true) : (List.range n).all p = true := by
  rw [List.all_eq_true]; intro k hk; exact h k (List.mem_range.1 hk)
theorem lab_last (na nb : Nat) : atN nb na nb + 1 = (na + 1) * (nb + 1) := by unfold atN; rw [Nat.add_mul]; omega
set_option maxHeartbeats 8000000 in
theorem checkLabels_s (a b : List ByteArray) (L : List Int) (ha : AllSz a) (hb : AllSz b) (hL : L.length ≤ 1000000) : Ctr Try.prog 35 [.sl true 1 (a.map eS), .sl true 1 (b.map eS), .sl true 1 (L.map eI)] (fun rr => rr = ⟨.tup [(.v (.int .i64 ((labV a b L).1))), (.v (.int .i64 ((labV a b L).2)))], []⟩) := by
  have encs := And.intro encs (show ∀ b1 b2 a b, gV b1 b2 a b = .agg [.sl b1 1 (a.map eS), .sl b2 1 (b.map eS)] from fun _ _ _ _ => rfl)
  refine Ctr.of (rs := [.tmp 6, .tmp 7]) Tok true Try.func35 rfl rfl rfl rfl (by simp [ofDL]) (fun w0 kp => ?_)
  simp only [↓sx0, sx1, encs, tys, sxR, sevalprocAttr]
  refine CallI.fn (checkWords_s true true a b ha hb) (by simp only [sx3, encs, sxR, sevalprocAttr] <;> (try simp) <;> (try rfl)) ?_
  simp only [↓sx0, sx1, encs, tys, sxR, sevalprocAttr]
  refine BrW.dec (fun he => ?_) (fun he => ?_)
  · rw [show labV a b L = (0, wdsErr a b) by rw [labV, if_neg he]]
    simp only [↓sx0, sx1, encs, tys, sxR, sevalprocAttr]
    exact EndW.fn (by simp only [sx4, encs, kpLL_map, sxR, sevalprocAttr] <;> (try simp) <;> (try omega)) (by simp only [sx4, encs, kpLL_map, sxR, sevalprocAttr] <;> (try simp) <;> (try omega))
  · have he : wdsErr a b = 0 := Decidable.not_not.1 he
    have hlen : a.length ≤ 40 ∧ b.length ≤ 40 := by
      unfold wdsErr at he
      split at he
      · assumption
      · omega
    rw [show labV a b L = labE a b L by rw [labV, if_pos he]]
    simp only [↓sx0, sx1, encs, tys, sxR, sevalprocAttr]
    refine CallI.fn (at_s true true a b a.length b.length (by omega) (by omega) (by omega)) (by simp only [sx3, encs, sxR, sevalprocAttr] <;> (try simp) <;> (try rfl)) ?_
    simp only [↓sx0, sx1, encs, tys, sxR, sevalprocAttr]
    have hlast := lab_last a.length b.length
    have hmb := mul_b (nb := b.length) (i := a.length) (by omega) (by omega)
    have hat : atN b.length a.length b.length ≤ 1002000 := by unfold atN; omega
    repeat ((with_reducible refine Vc.go ?_ fun _ => ?_); (focus (first | omega | (simp only [InK]; omega) | (simp [InK]; done) | (simp [InK]; omega))); simp only [↓sx0, sx1, encs, tys, sxR, sevalprocAttr])
    refine BrW.dec (fun hn => ?_) (fun hn => ?_)
    · rw [show labE a b L = (0, 10) by rw [labE, if_neg (by omega)]]
      simp only [↓sx0, sx1, encs, tys, sxR, sevalprocAttr]
      exact EndW.fn (by simp only [sx4, encs, kpLL_map, sxR, sevalprocAttr] <;> (try simp) <;> (try omega)) (by simp only [sx4, encs, kpLL_map, sxR, sevalprocAttr] <;> (try simp) <;> (try omega))
    · have hn2 : L.length = (a.length + 1) * (b.length + 1) := by omega
      have hE : labE a b L = if L.any badL = true then (0, 2) else if labOk a b L = true then (L.getD (L.length - 1) 0, 0) else (0, 22) := by rw [labE, if_pos hn2]
      rw [hE]
      simp only [↓sx0, sx1, encs, tys, sxR, sevalprocAttr]
      refine CallI.fn (containsI_s true 75 badL L (by omega) (fun x _ => labels1_s x)) (by simp only [sx3, encs, sxR, sevalprocAttr] <;> (try simp) <;> (try rfl)) ?_
      simp only [↓sx0, sx1, encs, tys, sxR, sevalprocAttr]
      refine BrW.of (fun hr => ?_) (fun hr => ?_)
      · rw [if_pos hr]
        simp only [↓sx0, sx1, encs, tys, sxR, sevalprocAttr]
        exact EndW.fn (by simp only [sx4, encs, kpLL_map, sxR, sevalprocAttr] <;> (try simp) <;> (try omega)) (by simp only [sx4, encs, kpLL_map, sxR, sevalprocAttr] <;> (try simp) <;> (try omega))
      · rw [if_neg (by rw [hr]; simp)]
        have hv : ∀ x ∈ L, 0 ≤ x ∧ x ≤ 100 := fun x hx => by
          rw [List.any_eq_false] at hr
          simpa [badL] using hr x hx
        have hix : ∀ i k, i ≤ a.length → k ≤ b.length → atN b.length i k < L.length := fun i k h1 h2 => by rw [hn2]; exact atN_lt h1 h2
        have hbs : ∀ i k, i ≤ a.length → k ≤ b.length → ∀ p ∈ stN a b i k, atN b.length p.1.1 p.1.2 < L.length := fun i k h1 h2 p hp => by
          have := stN_mem hp
          exact hix _ _ (by omega) (by omega)
        simp only [↓sx0, sx1, encs, tys, sxR, sevalprocAttr]
        repeat ((with_reducible refine Vc.go ?_ fun _ => ?_); (focus (first | omega | (simp only [InK]; omega) | (simp [InK]; done) | (simp [InK]; omega))); simp only [↓sx0, sx1, encs, tys, sxR, sevalprocAttr])
        refine LoopW.comp [1, 2, 9, 37, 38] (by simp only [sx2, encs, sxR, sevalprocAttr] <;> (try simp) <;> (try omega)) ?_
        simp only [sx2, sxR, sevalprocAttr]
        refine LoopW.up Tok (fun i : Nat => [(38, (.v (.int .i64 i)))]) (fun i => []) (fun i => []) (fun i => []) (fun i => i ≤ a.length + 1 ∧ ∀ j, j < i → rowsOk a b L j = true) (fun i => a.length + 1 - i) (0) (by simp only [sx2, encs, sxR, sevalprocAttr] <;> (try simp) <;> (try omega)) ?_ ?_
        · exact ⟨by omega, fun j h => absurd h (Nat.not_lt_zero _)⟩
        rintro i ⟨hi, hI⟩
        simp only [↓sx0, sx1, encs, tys, sxR, sevalprocAttr]
        refine BrW.dec (fun hlt => ?_) (fun hlt => ?_)
        · simp only [↓sx0, sx1, encs, tys, sxR, sevalprocAttr]
          repeat ((with_reducible refine Vc.go ?_ fun _ => ?_); (focus (first | omega | (simp only [InK]; omega) | (simp [InK]; done) | (simp [InK]; omega))); simp only [↓sx0, sx1, encs, tys, sxR, sevalprocAttr])
          refine LoopW.comp [1, 2, 9, 10, 37, 38, 43, 44] (by simp only [sx2, encs, sxR, sevalprocAttr] <;> (try simp) <;> (try omega)) ?_
          simp only [sx2, sxR, sevalprocAttr]
          refine LoopW.up Tok (fun k : Nat => [(44, (.v (.int .i64 k)))]) (fun k => []) (fun k => []) (fun k => []) (fun k => k ≤ b.length + 1 ∧ ∀ j, j < k → rowOk a b L i j = true) (fun k => b.length + 1 - k) (0) (by simp only [sx2, encs, sxR, sevalprocAttr] <;> (try simp) <;> (try omega)) ?_ ?_
          · exact ⟨by omega, fun j h => absurd h (Nat.not_lt_zero _)⟩
          rintro k ⟨hk, hK⟩
          simp only [↓sx0, sx1, encs, tys, sxR, sevalprocAttr]
          refine BrW.dec (fun hlt2 => ?_) (fun hlt2 => ?_)
          · simp only [↓sx0, sx1, encs, tys, sxR, sevalprocAttr]
            have hi2 : i ≤ a.length := by omega
            have hk2 : k ≤ b.length := by omega
            have hx := hix i k hi2 hk2
            have hat2 := at_s true true a b i k (by omega) (by omega) (by omega)
            have hbo := bound_s true a b L i k hi2 hk2 (by omega) (by omega) (hbs i k hi2 hk2) hv
            have hgd : L.getD (atN b.length i k) 0 = L[atN b.length i k] := by simp [List.getD_eq_getElem?_getD, hx]
            refine DrawW.plan Tok mixed (.q 0 <| .q 1 <| .q 2 <| .q 3 <| .q 7 <| .q 8 <| .q 9 <| .q 10 <| .e 4 [7] <| .q 5 <| .q 6 <| .e 11 [6] <| .q 12 <| .done) (by kernel_rfl) (by kernel_rfl) ?_
            simp only [↓sx0, sx1, encs, tys, sxR, sevalprocAttr]
            refine CallI.fn (hat2) (by simp only [sx3, encs, sxR, sevalprocAttr] <;> (try simp) <;> (try rfl)) ?_
            simp only [↓sx0, sx1, encs, tys, sxR, sevalprocAttr]
            refine IxW.nat hx ?_
            simp only [↓sx0, sx1, encs, tys, sxR, sevalprocAttr]
            refine CallI.fn (hbo) (by simp only [sx3, encs, sxR, sevalprocAttr] <;> (try simp) <;> (try rfl)) ?_
            simp only [↓sx0, sx1, encs, tys, sxR, sevalprocAttr]
            refine BrW.dec (fun hgt => ?_) (fun hgt => ?_)
            · have hro : rowOk a b L i k = false := by rw [rowOk, hgd]; simpa using hgt
              have hrs : rowsOk a b L i = false := any_range_take (by omega) hro
              have hlo : labOk a b L = false := any_range_take (by omega) hrs
              rw [if_neg (by rw [hlo]; simp)]
              simp only [↓sx0, sx1, encs, tys, sxR, sevalprocAttr]
              exact EndW.fn (by simp only [sx4, encs, kpLL_map, sxR, sevalprocAttr] <;> (try simp) <;> (try omega)) (by simp only [sx4, encs, kpLL_map, sxR, sevalprocAttr] <;> (try simp) <;> (try omega))
            · have hro : rowOk a b L i k = true := by rw [rowOk, hgd]; simpa using hgt
              simp only [↓sx0, sx1, encs, tys, sxR, sevalprocAttr]
              repeat ((with_reducible refine Vc.go ?_ fun _ => ?_); (focus (first | omega | (simp only [InK]; omega) | (simp [InK]; done) | (simp [InK]; omega))); simp only [↓sx0, sx1, encs, tys, sxR, sevalprocAttr])
              refine ⟨k + 1, StLe.auto (by simp only [sx2, encs, sxR, sevalprocAttr] <;> (try simp) <;> (try omega)), ?_, ?_⟩
              · refine ⟨by omega, fun j hj => ?_⟩
                by_cases e : j = k
                · subst e; exact hro
                · exact hK j (by omega)
              · omega
          · have hke : k = b.length + 1 := by omega
            subst hke
            simp only [↓sx0, sx1, encs, tys, sxR, sevalprocAttr]
            repeat ((with_reducible refine Vc.go ?_ fun _ => ?_); (focus (first | omega | (simp only [InK]; omega) | (simp [InK]; done) | (simp [InK]; omega))); simp only [↓sx0, sx1, encs, tys, sxR, sevalprocAttr])
            refine ⟨i + 1, StLe.auto (by simp only [sx2, encs, sxR, sevalprocAttr] <;> (try simp) <;> (try omega)), ?_, ?_⟩
            · refine ⟨by omega, fun j hj => ?_⟩
              by_cases e : j = i
              · subst e; exact all_range hK
              · exact hI j (by omega)
            · omega
        · have hie : i = a.length + 1 := by omega
          subst hie
          rw [if_pos (show labOk a b L = true from all_range hI)]
          have hpos : L.length - 1 < L.length := by omega
          have hgd : L.getD (L.length - 1) 0 = L[L.length - 1] := by simp [List.getD_eq_getElem?_getD, hpos]
          rw [hgd]
          simp only [↓sx0, sx1, encs, tys, sxR, sevalprocAttr]
          repeat ((with_reducible refine Vc.go ?_ fun _ => ?_); (focus (first | omega | (simp only [InK]; omega) | (simp [InK]; done) | (simp [InK]; omega))); simp only [↓sx0, sx1, encs, tys, sxR, sevalprocAttr])
          refine ⟨by omega, _, (by rw [show ((L.length : Int) - 1).toNat = L.length - 1 by omega, List.getElem?_map, List.getElem?_eq_getElem hpos]; rfl), ?_⟩
          simp only [↓sx0, sx1, encs, tys, sxR, sevalprocAttr]
          exact EndW.fn (by simp only [sx4, encs, kpLL_map, sxR, sevalprocAttr] <;> (try simp) <;> (try omega)) (by simp only [sx4, encs, kpLL_map, sxR, sevalprocAttr] <;> (try simp) <;> (try omega))
end Go.Proofs.Ytenohgpackcjbaa
