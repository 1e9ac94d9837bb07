/-
  Chapter 8, walks: pairs that are kept.
-/
import Derived.Test.YtenohgpackcjbaaVW5
namespace Go.Proofs.Ytenohgpackcjbaa
open Go Go.Vx
set_option linter.unusedSimpArgs false
set_option linter.unusedVariables false
set_option maxRecDepth 20000
theorem checkSorts_s (b1 b2 : Bool) (a b : List Int) : Ctr Try.prog 90 [.sl b1 1 (a.map eI), .sl b2 1 (b.map eI)] (fun rr => rr = ⟨(.v (.int .i64 (if a.length ≤ 300 ∧ b.length ≤ 300 then 0 else 8))), []⟩) := by
  refine Ctr.of (rs := [.tmp 4]) Tok true Try.func90 rfl rfl rfl rfl (by simp [ofDL]) (fun w0 kp => ?_)
  simp only [↓sx0, sx1, encs, tys, sxR, sevalprocAttr]
  refine BrW.dec (fun h1 => ?_) (fun h1 => ?_)
  · rw [if_neg (by omega)]
    simp only [↓sx0, sx1, encs, tys, sxR, sevalprocAttr]
    repeat ((with_reducible refine BrW.yes (by omega) ?_); simp only [↓sx0, sx1, encs, tys, sxR, sevalprocAttr])
    exact EndW.fn (by simp only [sx4, encs, kpLL_map, sxR, sevalprocAttr] <;> (try simp) <;> (try omega)) (by simp only [sx4, encs, kpLL_map, sxR, sevalprocAttr] <;> (try simp) <;> (try omega))
  · simp only [↓sx0, sx1, encs, tys, sxR, sevalprocAttr]
    repeat ((with_reducible refine BrW.no (by omega) ?_); simp only [↓sx0, sx1, encs, tys, sxR, sevalprocAttr])
    refine BrW.dec (fun h2 => ?_) (fun h2 => ?_)
    · rw [if_neg (by omega)]
      simp only [↓sx0, sx1, encs, tys, sxR, sevalprocAttr]
      exact EndW.fn (by simp only [sx4, encs, kpLL_map, sxR, sevalprocAttr] <;> (try simp) <;> (try omega)) (by simp only [sx4, encs, kpLL_map, sxR, sevalprocAttr] <;> (try simp) <;> (try omega))
    · rw [if_pos (by omega)]
      simp only [↓sx0, sx1, encs, tys, sxR, sevalprocAttr]
      exact EndW.fn (by simp only [sx4, encs, kpLL_map, sxR, sevalprocAttr] <;> (try simp) <;> (try omega)) (by simp only [sx4, encs, kpLL_map, sxR, sevalprocAttr] <;> (try simp) <;> (try omega))
def eJ (p : Nat × Nat) : List D := [(.v (.int .i64 ((p.1 : Int)))), (.v (.int .i64 ((p.2 : Int))))]
/-- the first place in b from f on that is kept with place i of a. -/
def keP (a b : List Int) (i f k : Nat) : Bool := match a[i]?, b[k]? with
  | some x, some y => decide (x = y) && decide (tl a b (i + 1) (k + 1) + 1 = tl a b i f)
  | _, _ => false
def keF (a b : List Int) (i f : Nat) : Nat → Nat → Option Nat
  | 0, _ => none
  | n + 1, k => if keP a b i f k = true then some k else keF a b i f n (k + 1)
def keN (a b : List Int) (i f : Nat) : Option Nat := keF a b i f (b.length - f) f
/-- the pairs of the first i places, and where to go on. -/
def keS : (a b : List Int) → Nat → List (Nat × Nat) × Nat
  | _, _, 0 => ([], 0)
  | a, b, i + 1 => match keN a b i (keS a b i).2 with
    | none => keS a b i
    | some k => ((keS a b i).1 ++ [(i, k)], k + 1)
theorem keF_b (a b : List Int) (i f : Nat) : ∀ n k j, keF a b i f n k = some j → k ≤ j ∧ j < k + n
  | 0, _, _, h => by simp [keF] at h
  | n + 1, k, j, h => by
    unfold keF at h
    split at h
    · cases h; omega
    · have := keF_b a b i f n (k + 1) j h; omega
theorem keS_b (a b : List Int) : ∀ i, (keS a b i).2 ≤ b.length ∧ (keS a b i).1.length ≤ i
  | 0 => by simp [keS]
  | i + 1 => by
    have h := keS_b a b i
    simp only [keS]
    split
    · omega
    · rename_i k hk
      have := keF_b a b i _ _ _ _ hk
      simp only [List.length_append, List.length_cons, List.length_nil]
      omega
def keptL (a b : List Int) : List (Nat × Nat) := (keS a b a.length).1
theorem tab0_get {a b : List Int} {r : Nat} (h : r < a.length + 1) : (tabT a b 0)[r]? = some [.sl true 1 ((rowT a b r).map eI)] := by rw [tabT_get h, if_pos (by omega)]
def keptV (a b : List Int) : List (Nat × Nat) × Int := if a.length ≤ 300 ∧ b.length ≤ 300 then (keptL a b, 0) else ([], 8)
set_option maxHeartbeats 8000000 in
theorem kept_s (b1 b2 : Bool) (a b : List Int) : Ctr Try.prog 53 [.sl b1 1 (a.map eI), .sl b2 1 (b.map eI)] (fun rr => rr = ⟨.tup [.sl true 2 ((keptV a b).1.map eJ), (.v (.int .i64 ((keptV a b).2)))], []⟩) := by
  have encs := And.intro encs (show ∀ p, eJ p = [(.v (.int .i64 ((p.1 : Int)))), (.v (.int .i64 ((p.2 : Int))))] from fun _ => rfl)
  have hcs := checkSorts_s b1 b2 a b
  refine Ctr.of (rs := [.tmp 4, .tmp 5]) Tok true Try.func53 rfl rfl rfl rfl (by simp [ofDL]) (fun w0 kp => ?_)
  simp only [↓sx0, sx1, encs, tys, sxR, sevalprocAttr]
  by_cases hs : a.length ≤ 300 ∧ b.length ≤ 300
  · rw [if_pos hs] at hcs
    rw [show keptV a b = (keptL a b, 0) by rw [keptV, if_pos hs]]
    refine CallI.fn (hcs) (by simp only [sx3, encs, sxR, sevalprocAttr] <;> (try simp) <;> (try rfl)) ?_
    simp only [↓sx0, sx1, encs, tys, sxR, sevalprocAttr]
    refine BrW.no (by simp) ?_
    simp only [↓sx0, sx1, encs, tys, sxR, sevalprocAttr]
    refine CallI.fn (tails_s b1 b2 a b (by omega) (by omega)) (by simp only [sx3, encs, sxR, sevalprocAttr] <;> (try simp) <;> (try rfl)) ?_
    simp only [↓sx0, sx1, encs, tys, sxR, sevalprocAttr]
    refine LoopW.comp [1, 7, 8, 9, 22, 23, 24] (by simp only [sx2, encs, sxR, sevalprocAttr] <;> (try simp) <;> (try omega)) ?_
    simp only [sx2, sxR, sevalprocAttr]
    refine LoopW.up Tok (fun i : Nat => [(8, .row 0), (24, (.v (.int .i64 i))), (9, (.v (.int .i64 ((keS a b i).2))))]) (fun i => []) (fun i => []) (fun i => [.own 84 2 ((keS a b i).1.map eJ)]) (fun i => i ≤ a.length) (fun i => a.length - i) (0) (by simp only [sx2, encs, sxR, sevalprocAttr] <;> (try simp [keS, encs]) <;> (try omega)) ?_ ?_
    · omega
    rintro i hi
    obtain ⟨hb1, hb2⟩ := keS_b a b i
    simp only [↓sx0, sx1, encs, tys, sxR, sevalprocAttr]
    refine BrW.dec (fun hlt => ?_) (fun hlt => ?_)
    · simp only [↓sx0, sx1, encs, tys, sxR, sevalprocAttr]
      have hia : i < a.length := by omega
      refine IxW.nat hia ?_
      simp only [↓sx0, sx1, encs, tys, sxR, sevalprocAttr]
      generalize hf : (keS a b i).2 = f at hb1 ⊢
      refine LoopW.comp [1, 7, 8, 9, 10, 11, 12, 22, 23, 24] (by simp only [sx2, encs, sxR, sevalprocAttr] <;> (try simp) <;> (try omega)) ?_
      simp only [sx2, sxR, sevalprocAttr]
      refine LoopW.up Tok (fun k : Nat => [(8, .row 0), (12, (.v (.int .i64 k))), (9, (.v (.int .i64 f)))]) (fun k => []) (fun k => []) (fun k => []) (fun k => (f ≤ k ∧ k ≤ b.length) ∧ keF a b i f (b.length - k) k = keN a b i f) (fun k => b.length - k) (f) (by simp only [sx2, encs, sxR, sevalprocAttr] <;> (try simp) <;> (try omega)) ?_ ?_
      · exact ⟨⟨by omega, by omega⟩, rfl⟩
      rintro k ⟨⟨hfk, hkb⟩, hF⟩
      simp only [↓sx0, sx1, encs, tys, sxR, sevalprocAttr]
      refine BrW.dec (fun hlt2 => ?_) (fun hlt2 => ?_)
      · simp only [↓sx0, sx1, encs, tys, sxR, sevalprocAttr]
        have hkb2 : k < b.length := by omega
        have hFs : keF a b i f (b.length - k) k = if keP a b i f k = true then some k else keF a b i f (b.length - (k + 1)) (k + 1) := by rw [show b.length - k = (b.length - (k + 1)) + 1 by omega, keF]
        have hP : keP a b i f k = (decide (a[i] = b[k]) && decide (tl a b (i + 1) (k + 1) + 1 = tl a b i f)) := by simp [keP, hia, hkb2]
        have hno : keP a b i f k = false → keF a b i f (b.length - (k + 1)) (k + 1) = keN a b i f := fun h => by rw [← hF, hFs, if_neg (by rw [h]; simp)]
        have htb := tl_b a b (i + 1) (k + 1)
        refine DrawW.plan Tok mixed (.q 0 <| .q 1 <| .q 2 <| .q 3 <| .q 4 <| .q 5 <| .q 6 <| .q 7 <| .q 8 <| .q 9 <| .q 10 <| .q 11 <| .q 12 <| .q 13 <| .q 14 <| .q 15 <| .q 16 <| .q 17 <| .q 18 <| .q 19 <| .q 20 <| .q 21 <| .q 22 <| .q 23 <| .q 24 <| .q 25 <| .done) (by kernel_rfl) (by kernel_rfl) ?_
        simp only [↓sx0, sx1, encs, tys, sxR, sevalprocAttr]
        refine IxW.nat hkb2 ?_
        simp only [↓sx0, sx1, encs, tys, sxR, sevalprocAttr]
        refine BrW.dec (fun heq => ?_) (fun heq => ?_)
        · simp only [↓sx0, sx1, encs, tys, sxR, sevalprocAttr]
          repeat ((with_reducible refine Vc.go ?_ fun _ => ?_); (focus (first | omega | (simp only [InK]; omega) | (simp [InK]; done) | (simp [InK]; omega))); simp only [↓sx0, sx1, encs, tys, sxR, sevalprocAttr])
          refine ⟨by omega, _, (by rw [show ((i : Int) + 1).toNat = i + 1 by omega]; exact tab0_get (by omega)), ?_⟩
          simp only [↓sx0, sx1, encs, tys, sxR, sevalprocAttr]
          repeat ((with_reducible refine Vc.go ?_ fun _ => ?_); (focus (first | omega | (simp only [InK]; omega) | (simp [InK]; done) | (simp [InK]; omega))); simp only [↓sx0, sx1, encs, tys, sxR, sevalprocAttr])
          refine ⟨by omega, _, (by rw [show ((k : Int) + 1).toNat = k + 1 by omega]; exact rowT_get a b (i + 1) (k + 1) (by omega)), ?_⟩
          simp only [↓sx0, sx1, encs, tys, sxR, sevalprocAttr]
          repeat ((with_reducible refine Vc.go ?_ fun _ => ?_); (focus (first | omega | (simp only [InK]; omega) | (simp [InK]; done) | (simp [InK]; omega))); simp only [↓sx0, sx1, encs, tys, sxR, sevalprocAttr])
          refine ⟨by omega, _, (by rw [Int.toNat_natCast]; exact tab0_get (by omega)), ?_⟩
          simp only [↓sx0, sx1, encs, tys, sxR, sevalprocAttr]
          refine ⟨by omega, _, (by rw [Int.toNat_natCast]; exact rowT_get a b i f (by omega)), ?_⟩
          simp only [↓sx0, sx1, encs, tys, sxR, sevalprocAttr]
          refine BrW.dec (fun h2 => ?_) (fun h2 => ?_)
          · have hkp : keP a b i f k = true := by rw [hP, heq, h2]; simp
            have hN : keN a b i f = some k := by rw [← hF, hFs, if_pos hkp]
            have hS : keS a b (i + 1) = ((keS a b i).1 ++ [(i, k)], k + 1) := by simp only [keS]; rw [hf, hN]
            simp only [↓sx0, sx1, encs, tys, sxR, sevalprocAttr]
            repeat ((with_reducible refine Vc.go ?_ fun _ => ?_); (focus (first | omega | (simp only [InK]; omega) | (simp [InK]; done) | (simp [InK]; omega))); simp only [↓sx0, sx1, encs, tys, sxR, sevalprocAttr])
            refine ⟨i + 1, StLe.auto (by simp only [sx2, encs, sxR, sevalprocAttr] <;> (try simp [hS, encs]) <;> (try omega)), ?_, ?_⟩
            · omega
            · omega
          · have hkp : keP a b i f k = false := by rw [hP, decide_eq_false h2]; simp
            simp only [↓sx0, sx1, encs, tys, sxR, sevalprocAttr]
            repeat ((with_reducible refine Vc.go ?_ fun _ => ?_); (focus (first | omega | (simp only [InK]; omega) | (simp [InK]; done) | (simp [InK]; omega))); simp only [↓sx0, sx1, encs, tys, sxR, sevalprocAttr])
            refine ⟨k + 1, StLe.auto (by simp only [sx2, encs, sxR, sevalprocAttr] <;> (try simp) <;> (try omega)), ?_, ?_⟩
            · exact ⟨⟨by omega, by omega⟩, hno hkp⟩
            · omega
        · have hkp : keP a b i f k = false := by rw [hP, decide_eq_false (fun h => heq h.symm)]; simp
          simp only [↓sx0, sx1, encs, tys, sxR, sevalprocAttr]
          repeat ((with_reducible refine Vc.go ?_ fun _ => ?_); (focus (first | omega | (simp only [InK]; omega) | (simp [InK]; done) | (simp [InK]; omega))); simp only [↓sx0, sx1, encs, tys, sxR, sevalprocAttr])
          refine ⟨k + 1, StLe.auto (by simp only [sx2, encs, sxR, sevalprocAttr] <;> (try simp) <;> (try omega)), ?_, ?_⟩
          · exact ⟨⟨by omega, by omega⟩, hno hkp⟩
          · omega
      · have hkb3 : k = b.length := by omega
        have hN : keN a b i f = none := by rw [← hF, hkb3, Nat.sub_self, keF]
        have hS : keS a b (i + 1) = keS a b i := by simp only [keS]; rw [hf, hN]
        simp only [↓sx0, sx1, encs, tys, sxR, sevalprocAttr]
        repeat ((with_reducible refine Vc.go ?_ fun _ => ?_); (focus (first | omega | (simp only [InK]; omega) | (simp [InK]; done) | (simp [InK]; omega))); simp only [↓sx0, sx1, encs, tys, sxR, sevalprocAttr])
        refine ⟨i + 1, StLe.auto (by simp only [sx2, encs, sxR, sevalprocAttr] <;> (try simp [hS, hf, encs]) <;> (try omega)), ?_, ?_⟩
        · omega
        · omega
    · simp only [↓sx0, sx1, encs, tys, sxR, sevalprocAttr]
      have hie : i = a.length := by omega
      subst hie
      exact EndW.fn (by simp only [sx4, encs, kpLL_map, sxR, sevalprocAttr] <;> (try simp [keptL]) <;> (try omega)) (by simp only [sx4, encs, kpLL_map, sxR, sevalprocAttr] <;> (try simp) <;> (try omega))
  · rw [if_neg hs] at hcs
    rw [show keptV a b = ([], 8) by rw [keptV, if_neg hs]]
    refine CallI.fn (hcs) (by simp only [sx3, encs, sxR, sevalprocAttr] <;> (try simp) <;> (try rfl)) ?_
    simp only [↓sx0, sx1, encs, tys, sxR, sevalprocAttr]
    exact EndW.fn (by simp only [sx4, encs, kpLL_map, sxR, sevalprocAttr] <;> (try simp) <;> (try omega)) (by simp only [sx4, encs, kpLL_map, sxR, sevalprocAttr] <;> (try simp) <;> (try omega))
end Go.Proofs.Ytenohgpackcjbaa
