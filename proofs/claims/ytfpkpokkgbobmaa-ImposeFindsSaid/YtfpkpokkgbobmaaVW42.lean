/-
  Chapter 6, walks: folds are looked for (program).
-/
import Derived.Test.YtfpkpokkgbobmaaVW39
import Derived.Test.YtfpkpokkgbobmaaVMut
namespace Go.Proofs.Ytfpkpokkgbobmaa
open Go Go.Vx
set_option linter.unusedSimpArgs false
set_option maxRecDepth 20000
/-- pages read 1, 2, 3 and so on, all upright. -/
def ordK : Nat → List Page → Bool
  | _, [] => true
  | k, x :: l => decide (x = ⟨(k : Int) + 1, 0⟩) && ordK (k + 1) l
theorem inOrd_s (b : Bool) (l : List Page) (hl : l.length ≤ 1000000) : Ctr Try.prog 99 [.sl b 2 (l.map eP)] (fun rr => rr = ⟨(.v (.bool (ordK 0 l))), []⟩) := by
  refine Ctr.of (rs := [.tmp 2]) Tok true Try.func99 rfl rfl rfl rfl (by simp [ofDL]) (fun w0 kp => ?_)
  simp only [↓sxD, ↓sxP0, sxP1, sxF, sxA, sxS, sxK, encs, tys, sxN, sevalprocAttr, ne_eq, decide_true, decide_false]
  refine LoopW.comp [5, 6, 7] (by simp only [sxS, sxL, sxF, encs, sxN, sevalprocAttr, ne_eq, decide_true, decide_false] <;> (try simp) <;> (try omega)) ?_
  simp only [sxS, sxF, sxN, sevalprocAttr, ne_eq, decide_true, decide_false]
  refine LoopW.up Tok (fun k : Nat => [(7, (.v (.int .i64 k)))]) (fun k => []) (fun k => []) (fun k => []) (fun k => k ≤ l.length ∧ ordK 0 l = ordK k (l.drop k)) (fun k => l.length - k) (0) (by simp only [sxS, sxL, sxF, encs, sxN, sevalprocAttr, ne_eq, decide_true, decide_false] <;> (try simp) <;> (try omega)) ?_ ?_
  · exact ⟨by omega, rfl⟩
  rintro k ⟨hk, ho⟩
  simp only [↓sxD, ↓sxP0, sxP1, sxF, sxA, sxS, sxK, encs, tys, sxN, sevalprocAttr, ne_eq, decide_true, decide_false]
  refine BrW.dec (fun hlt => ?_) (fun hlt => ?_)
  · have hk2 : k < l.length := by omega
    rw [List.drop_eq_getElem_cons hk2, ordK] at ho
    simp only [↓sxD, ↓sxP0, sxP1, sxF, sxA, sxS, sxK, encs, tys, sxN, sevalprocAttr, ne_eq, decide_true, decide_false]
    refine IxW.nat hk2 ?_
    simp only [↓sxD, ↓sxP0, sxP1, sxF, sxA, sxS, sxK, encs, tys, sxN, sevalprocAttr, ne_eq, decide_true, decide_false]
    repeat ((with_reducible refine Vc.go ?_ fun _ => ?_); (focus (first | omega | (simp only [InK]; omega) | (simp [InK]; done) | (simp [InK]; omega))); simp only [↓sxD, ↓sxP0, sxP1, sxF, sxA, sxS, sxK, encs, tys, sxN, sevalprocAttr, ne_eq, decide_true, decide_false])
    refine BrW.dec (fun hne => ?_) (fun hne => ?_)
    · have hno : ordK 0 l = false := by
        rw [ho]
        have : ¬ l[k] = ⟨(k : Int) + 1, 0⟩ := fun e => hne (by rw [e])
        simp [this]
      rw [hno]
      simp only [↓sxD, ↓sxP0, sxP1, sxF, sxA, sxS, sxK, encs, tys, sxN, sevalprocAttr, ne_eq, decide_true, decide_false]
      exact EndW.fn (by simp only [sxL, encs, kpLL_map, sxN, sevalprocAttr, ne_eq, decide_true, decide_false] <;> (try simp) <;> (try omega)) (by simp only [sxL, encs, kpLL_map, sxN, sevalprocAttr, ne_eq, decide_true, decide_false] <;> (try simp) <;> (try omega))
    · have hye : l[k] = ⟨(k : Int) + 1, 0⟩ := by
        have h2 := Decidable.not_not.1 hne
        injection h2 with h3 h4
        injection h4 with h4
        cases hx : l[k] with
        | mk p t => rw [hx] at h3 h4; simp only at h3 h4; rw [h3, h4]
      rw [hye] at ho
      simp only [↓sxD, ↓sxP0, sxP1, sxF, sxA, sxS, sxK, encs, tys, sxN, sevalprocAttr, ne_eq, decide_true, decide_false]
      repeat ((with_reducible refine Vc.go ?_ fun _ => ?_); (focus (first | omega | (simp only [InK]; omega) | (simp [InK]; done) | (simp [InK]; omega))); simp only [↓sxD, ↓sxP0, sxP1, sxF, sxA, sxS, sxK, encs, tys, sxN, sevalprocAttr, ne_eq, decide_true, decide_false])
      refine ⟨k + 1, StLe.auto (by simp only [sxS, sxL, sxF, encs, sxN, sevalprocAttr, ne_eq, decide_true, decide_false] <;> (try simp) <;> (try omega)), ?_, ?_⟩
      · exact ⟨by omega, by rw [ho]; simp⟩
      · omega
  · simp only [↓sxD, ↓sxP0, sxP1, sxF, sxA, sxS, sxK, encs, tys, sxN, sevalprocAttr, ne_eq, decide_true, decide_false]
    have hke : k = l.length := by omega
    subst hke
    rw [List.drop_length, ordK] at ho
    rw [ho]
    exact EndW.fn (by simp only [sxL, encs, kpLL_map, sxN, sevalprocAttr, ne_eq, decide_true, decide_false] <;> (try simp) <;> (try omega)) (by simp only [sxL, encs, kpLL_map, sxN, sevalprocAttr, ne_eq, decide_true, decide_false] <;> (try simp) <;> (try omega))
theorem inOrdR_s (b : Bool) (l : List Page) (hl : l.length ≤ 1000000) : Ctr Try.prog 53 [.sl b 2 (l.map eP)] (fun rr => rr = ⟨(.v (.bool (ordK 0 l))), []⟩) := by
  refine Ctr.of (rs := [.tmp 2]) Tok true Try.func53 rfl rfl rfl rfl (by simp [ofDL]) (fun w0 kp => ?_)
  simp only [↓sxD, ↓sxP0, sxP1, sxF, sxA, sxS, sxK, encs, tys, sxN, sevalprocAttr, ne_eq, decide_true, decide_false]
  refine LoopW.comp [0, 3] (by simp only [sxS, sxL, sxF, encs, sxN, sevalprocAttr, ne_eq, decide_true, decide_false] <;> (try simp) <;> (try omega)) ?_
  simp only [sxS, sxF, sxN, sevalprocAttr, ne_eq, decide_true, decide_false]
  refine LoopW.up Tok (fun k : Nat => [(3, (.v (.int .i64 k)))]) (fun k => []) (fun k => []) (fun k => []) (fun k => k ≤ l.length ∧ ordK 0 l = ordK k (l.drop k)) (fun k => l.length - k) (0) (by simp only [sxS, sxL, sxF, encs, sxN, sevalprocAttr, ne_eq, decide_true, decide_false] <;> (try simp) <;> (try omega)) ?_ ?_
  · exact ⟨by omega, rfl⟩
  rintro k ⟨hk, ho⟩
  simp only [↓sxD, ↓sxP0, sxP1, sxF, sxA, sxS, sxK, encs, tys, sxN, sevalprocAttr, ne_eq, decide_true, decide_false]
  refine BrW.dec (fun hlt => ?_) (fun hlt => ?_)
  · have hk2 : k < l.length := by omega
    rw [List.drop_eq_getElem_cons hk2, ordK] at ho
    simp only [↓sxD, ↓sxP0, sxP1, sxF, sxA, sxS, sxK, encs, tys, sxN, sevalprocAttr, ne_eq, decide_true, decide_false]
    refine IxW.nat hk2 ?_
    simp only [↓sxD, ↓sxP0, sxP1, sxF, sxA, sxS, sxK, encs, tys, sxN, sevalprocAttr, ne_eq, decide_true, decide_false]
    repeat ((with_reducible refine Vc.go ?_ fun _ => ?_); (focus (first | omega | (simp only [InK]; omega) | (simp [InK]; done) | (simp [InK]; omega))); simp only [↓sxD, ↓sxP0, sxP1, sxF, sxA, sxS, sxK, encs, tys, sxN, sevalprocAttr, ne_eq, decide_true, decide_false])
    refine BrW.dec (fun hne => ?_) (fun hne => ?_)
    · have hno : ordK 0 l = false := by
        rw [ho]
        have : ¬ l[k] = ⟨(k : Int) + 1, 0⟩ := fun e => hne (by rw [e])
        simp [this]
      rw [hno]
      simp only [↓sxD, ↓sxP0, sxP1, sxF, sxA, sxS, sxK, encs, tys, sxN, sevalprocAttr, ne_eq, decide_true, decide_false]
      exact EndW.fn (by simp only [sxL, encs, kpLL_map, sxN, sevalprocAttr, ne_eq, decide_true, decide_false] <;> (try simp) <;> (try omega)) (by simp only [sxL, encs, kpLL_map, sxN, sevalprocAttr, ne_eq, decide_true, decide_false] <;> (try simp) <;> (try omega))
    · have hye : l[k] = ⟨(k : Int) + 1, 0⟩ := by
        have h2 := Decidable.not_not.1 hne
        injection h2 with h3 h4
        injection h4 with h4
        cases hx : l[k] with
        | mk p t => rw [hx] at h3 h4; simp only at h3 h4; rw [h3, h4]
      rw [hye] at ho
      simp only [↓sxD, ↓sxP0, sxP1, sxF, sxA, sxS, sxK, encs, tys, sxN, sevalprocAttr, ne_eq, decide_true, decide_false]
      repeat ((with_reducible refine Vc.go ?_ fun _ => ?_); (focus (first | omega | (simp only [InK]; omega) | (simp [InK]; done) | (simp [InK]; omega))); simp only [↓sxD, ↓sxP0, sxP1, sxF, sxA, sxS, sxK, encs, tys, sxN, sevalprocAttr, ne_eq, decide_true, decide_false])
      refine ⟨k + 1, StLe.auto (by simp only [sxS, sxL, sxF, encs, sxN, sevalprocAttr, ne_eq, decide_true, decide_false] <;> (try simp) <;> (try omega)), ?_, ?_⟩
      · exact ⟨by omega, by rw [ho]; simp⟩
      · omega
  · simp only [↓sxD, ↓sxP0, sxP1, sxF, sxA, sxS, sxK, encs, tys, sxN, sevalprocAttr, ne_eq, decide_true, decide_false]
    have hke : k = l.length := by omega
    subst hke
    rw [List.drop_length, ordK] at ho
    rw [ho]
    exact EndW.fn (by simp only [sxL, encs, kpLL_map, sxN, sevalprocAttr, ne_eq, decide_true, decide_false] <;> (try simp) <;> (try omega)) (by simp only [sxL, encs, kpLL_map, sxN, sevalprocAttr, ne_eq, decide_true, decide_false] <;> (try simp) <;> (try omega))
/-- a pile of one stack that reads in order. -/
def goalS (cn : Nat) (cells : List Cell) (p : PileS) : Bool := decide (p.ls.length = 1) && ordK 0 ((stkAt p.ls 0).flatMap (rdP cn cells))
def inF {α : Type} (F : Fold → Option α) (k : Int) : Nat → Int → Option α
  | 0, _ => none
  | m + 1, c => (F ⟨k, c⟩).or (inF F k m (c + 1))
def outF {α : Type} (F : Fold → Option α) : Nat → Int → Option α
  | 0, _ => none
  | m + 1, k => (inF F k 8 1).or (outF F m (k + 1))
/-- so many folds, the first ones first. -/
def findS (cn : Nat) (cells : List Cell) : Nat → PileS → Option (List Fold)
  | 0, p => if goalS cn cells p = true then some [] else none
  | n + 1, p => if p.ls.length = 1 then none else outF (fun x => if foldErrS p x = 0 then (findS cn cells n (foldP p x)).map (x :: ·) else none) 4 1
theorem inF_err {α : Type} {F : Fold → Option α} {p : PileS} {k : Int} (hF : ∀ x, foldErrS p x ≠ 0 → F x = none) : ∀ (m : Nat) (c : Int), 1 ≤ c → (1 ≤ k ∧ k ≤ 4) → foldErrS p ⟨k, c⟩ ≠ 0 → inF F k m c = none
  | 0, _, _, _, _ => rfl
  | m + 1, c, hc, hk, he => by
    have h2 : foldErrS p ⟨k, c + 1⟩ ≠ 0 := by
      unfold foldErrS at he ⊢
      have h56 : ¬ (k = 5 ∨ k = 6) := by omega
      have hs : foldSide p ⟨k, c + 1⟩ = foldSide p ⟨k, c⟩ := rfl
      rw [hs]
      generalize foldSide p ⟨k, c⟩ = side at he ⊢
      simp only [h56, if_false, not_false_eq_true, true_and] at he ⊢
      have e1 : ¬ ¬ (1 ≤ k ∧ k ≤ 6) := by omega
      rw [if_neg e1] at he ⊢
      rw [if_neg (show ¬ c < 1 by omega)] at he
      rw [if_neg (show ¬ c + 1 < 1 by omega)]
      by_cases h3 : (side : Int) - c < c
      · rw [if_pos (by omega)]; omega
      · rw [if_neg h3] at he; exact absurd rfl he
    rw [inF, hF _ he, inF_err hF m (c + 1) (by omega) hk h2]; rfl
theorem lf_flip {cn rn : Nat} (b : Bool) (y : Leaf) (h : LfOk cn rn y) : LfOk cn rn (flip b y) := by
  obtain ⟨⟨⟨a1, a2⟩, a3, a4⟩, h2⟩ := h
  refine ⟨?_, h2⟩
  cases b <;> simp only [flip, Bool.false_eq_true, if_false, if_true] <;> omega
theorem lf_rnd {cn rn : Nat} (y : Leaf) (h : LfOk cn rn y) : LfOk cn rn (rnd1 y) := by
  obtain ⟨⟨⟨a1, a2⟩, a3, a4⟩, h2⟩ := h
  exact ⟨⟨⟨a1, a2⟩, by simp only [rnd1]; omega⟩, h2⟩
set_option maxHeartbeats 4000000 in
theorem find_s (cn rn : Nat) (cells : List Cell) (hc : cn ≤ 8) (hr : rn ≤ 8) (hl : cells.length = rn * cn) (ht : ∀ y ∈ cells, TnOk y) : ∀ (n : Nat) (p : PileS) (h : Nat) (pre : List Fold), p.Good h → h * 2 ^ n ≤ 4096 → allP (LfOk cn rn) p.ls → pre.length + n ≤ 1000 →
    CtrM Try.prog 86 142 [(.v (.int .i64 cn)), (.v (.int .i64 rn)), .sl true 4 (cells.map eC), .row 0] [.own 32 2 (pre.map eF)] [.agg [(.v (.int .i64 p.cols)), (.v (.int .i64 p.rows)), .sl true 1 (p.ls.map eK)], (.v (.int .i64 n))]
      (fun sv cells' rw' => sv = (.v (.bool ((findS cn cells n p).isSome))) ∧ cells' = [(.v (.int .i64 cn)), (.v (.int .i64 rn)), .sl true 4 (cells.map eC), .row 0] ∧ rw' = [.own 32 2 ((pre ++ (findS cn cells n p).getD []).map eF)]) := by
  intro n
  have encs := And.intro encs sxMut
  induction n with
  | zero =>
    intro p h pre hg hh hin hpn
    refine CtrM.of (rs := [.tmp 6]) Tok Try.func86 rfl rfl rfl rfl (by simp [ofDL]) (by first | exact noFrz0 | exact noFrz1 _ _ _) (fun w0 kp ρ σ μ np => ?_)
    simp only [↓sxD, ↓sxP0, sxP1, sxF, sxA, sxS, sxK, encs, tys, sxN, sevalprocAttr, ne_eq, decide_true, decide_false]
    refine DrawW.plan Tok mixed (.q 0 <| .q 1 <| .q 2 <| .q 3 <| .q 4 <| .q 5 <| .q 6 <| .q 7 <| .q 8 <| .q 9 <| .q 10 <| .q 11 <| .q 12 <| .e 13 [] <| .e 14 [] <| .q 15 <| .q 16 <| .done) (by kernel_rfl) (by kernel_rfl) ?_
    simp only [↓sxD, ↓sxP0, sxP1, sxF, sxA, sxS, sxK, encs, tys, sxN, sevalprocAttr, ne_eq, decide_true, decide_false]
    have h0 : findS cn cells 0 p = if goalS cn cells p = true then some [] else none := rfl
    have hg1 : goalS cn cells p = (decide (p.ls.length = 1) && ordK 0 ((stkAt p.ls 0).flatMap (rdP cn cells))) := rfl
    refine BrW.dec (fun h1 => ?_) (fun h1 => ?_)
    · have h1' : p.ls.length = 1 := by omega
      obtain ⟨hf1, hf2⟩ := stkAt_good hg.fine 0
      have hh' : h ≤ 4096 := by simpa using hh
      simp only [↓sxD, ↓sxP0, sxP1, sxF, sxA, sxS, sxK, encs, tys, sxN, sevalprocAttr, ne_eq, decide_true, decide_false]
      refine IxW.map (stkAt p.ls 0) (by omega) (stkAt_get (by omega)) ?_
      simp only [↓sxD, ↓sxP0, sxP1, sxF, sxA, sxS, sxK, encs, tys, sxN, sevalprocAttr, ne_eq, decide_true, decide_false]
      refine CallI.fn (read_s true true cn rn cells (stkAt p.ls 0) hc hr hl (allP_stk hin 0) ht (by omega)) (by simp only [sxA, sxL, sxF, encs, sxN, sevalprocAttr, ne_eq, decide_true, decide_false] <;> (try simp)) ?_
      simp only [↓sxD, ↓sxP0, sxP1, sxF, sxA, sxS, sxK, encs, tys, sxN, sevalprocAttr, ne_eq, decide_true, decide_false]
      refine CallI.fn (inOrd_s true ((stkAt p.ls 0).flatMap (rdP cn cells)) (by rw [rdL_len]; omega)) (by simp only [sxA, sxL, sxF, encs, sxN, sevalprocAttr, ne_eq, decide_true, decide_false] <;> (try simp)) ?_
      simp only [↓sxD, ↓sxP0, sxP1, sxF, sxA, sxS, sxK, encs, tys, sxN, sevalprocAttr, ne_eq, decide_true, decide_false]
      refine EndM.r [some 0] (.v (.bool (ordK 0 ((stkAt p.ls 0).flatMap (rdP cn cells))))) [(.v (.int .i64 cn)), (.v (.int .i64 rn)), .sl true 4 (cells.map eC), .row 0] [.own 32 2 (pre.map eF)] ?_ (by simp) (by simp only [sxS, sxL, sxF, encs, kpLL_map, List.map_cons, List.map_nil, sxN, sevalprocAttr, ne_eq, decide_true, decide_false] <;> simp) (by simp only [sxS, sxL, sxF, encs, kpLL_map, List.map_cons, List.map_nil, sxN, sevalprocAttr, ne_eq, decide_true, decide_false] <;> simp) (by simp only [sxS, sxL, sxF, encs, kpLL_map, List.map_cons, List.map_nil, sxN, sevalprocAttr, ne_eq, decide_true, decide_false] <;> simp) (by simp only [sxS, sxL, sxF, encs, kpLL_map, List.map_cons, List.map_nil, sxN, sevalprocAttr, ne_eq, decide_true, decide_false] <;> simp) (by simp only [sxS, sxL, sxF, encs, kpLL_map, List.map_cons, List.map_nil, sxN, sevalprocAttr, ne_eq, decide_true, decide_false] <;> simp) (by simp only [sxS, sxL, sxF, encs, kpLL_map, List.map_cons, List.map_nil, sxN, sevalprocAttr, ne_eq, decide_true, decide_false] <;> simp)
      rw [h0, hg1, h1']
      cases ordK 0 ((stkAt p.ls 0).flatMap (rdP cn cells)) <;> exact ⟨rfl, rfl, by simp⟩
    · have h1' : ¬ p.ls.length = 1 := by omega
      simp only [↓sxD, ↓sxP0, sxP1, sxF, sxA, sxS, sxK, encs, tys, sxN, sevalprocAttr, ne_eq, decide_true, decide_false]
      refine EndM.r [some 0] (.v (.bool (false))) [(.v (.int .i64 cn)), (.v (.int .i64 rn)), .sl true 4 (cells.map eC), .row 0] [.own 32 2 (pre.map eF)] ?_ (by simp) (by simp only [sxS, sxL, sxF, encs, kpLL_map, List.map_cons, List.map_nil, sxN, sevalprocAttr, ne_eq, decide_true, decide_false] <;> simp) (by simp only [sxS, sxL, sxF, encs, kpLL_map, List.map_cons, List.map_nil, sxN, sevalprocAttr, ne_eq, decide_true, decide_false] <;> simp) (by simp only [sxS, sxL, sxF, encs, kpLL_map, List.map_cons, List.map_nil, sxN, sevalprocAttr, ne_eq, decide_true, decide_false] <;> simp) (by simp only [sxS, sxL, sxF, encs, kpLL_map, List.map_cons, List.map_nil, sxN, sevalprocAttr, ne_eq, decide_true, decide_false] <;> simp) (by simp only [sxS, sxL, sxF, encs, kpLL_map, List.map_cons, List.map_nil, sxN, sevalprocAttr, ne_eq, decide_true, decide_false] <;> simp) (by simp only [sxS, sxL, sxF, encs, kpLL_map, List.map_cons, List.map_nil, sxN, sevalprocAttr, ne_eq, decide_true, decide_false] <;> simp)
      rw [h0, hg1]
      simp [h1']
  | succ n ih =>
    intro p h pre hg hh hin hpn
    refine CtrM.of (rs := [.tmp 6]) Tok Try.func86 rfl rfl rfl rfl (by simp [ofDL]) (by first | exact noFrz0 | exact noFrz1 _ _ _) (fun w0 kp ρ σ μ np => ?_)
    simp only [↓sxD, ↓sxP0, sxP1, sxF, sxA, sxS, sxK, encs, tys, sxN, sevalprocAttr, ne_eq, decide_true, decide_false]
    have hfS : findS cn cells (n + 1) p = if p.ls.length = 1 then none else outF (fun x => if foldErrS p x = 0 then (findS cn cells n (foldP p x)).map (x :: ·) else none) 4 1 := rfl
    generalize hF : (fun x => if foldErrS p x = 0 then (findS cn cells n (foldP p x)).map (x :: ·) else none) = F at hfS
    have hFe : ∀ x, foldErrS p x ≠ 0 → F x = none := fun x hx => by rw [← hF]; simp only [if_neg hx]
    have hFo : ∀ x, foldErrS p x = 0 → F x = (findS cn cells n (foldP p x)).map (x :: ·) := fun x hx => by rw [← hF]; simp only [if_pos hx]
    clear hF
    refine BrW.ff (by simp; omega) ?_
    simp only [↓sxD, ↓sxP0, sxP1, sxF, sxA, sxS, sxK, encs, tys, sxN, sevalprocAttr, ne_eq, decide_true, decide_false]
    refine BrW.dec (fun h1 => ?_) (fun h1 => ?_)
    · have h1' : p.ls.length = 1 := by omega
      rw [if_pos h1'] at hfS
      simp only [↓sxD, ↓sxP0, sxP1, sxF, sxA, sxS, sxK, encs, tys, sxN, sevalprocAttr, ne_eq, decide_true, decide_false]
      refine EndM.r [some 0] (.v (.bool (false))) [(.v (.int .i64 cn)), (.v (.int .i64 rn)), .sl true 4 (cells.map eC), .row 0] [.own 32 2 (pre.map eF)] ?_ (by simp) (by simp only [sxS, sxL, sxF, encs, kpLL_map, List.map_cons, List.map_nil, sxN, sevalprocAttr, ne_eq, decide_true, decide_false] <;> simp) (by simp only [sxS, sxL, sxF, encs, kpLL_map, List.map_cons, List.map_nil, sxN, sevalprocAttr, ne_eq, decide_true, decide_false] <;> simp) (by simp only [sxS, sxL, sxF, encs, kpLL_map, List.map_cons, List.map_nil, sxN, sevalprocAttr, ne_eq, decide_true, decide_false] <;> simp) (by simp only [sxS, sxL, sxF, encs, kpLL_map, List.map_cons, List.map_nil, sxN, sevalprocAttr, ne_eq, decide_true, decide_false] <;> simp) (by simp only [sxS, sxL, sxF, encs, kpLL_map, List.map_cons, List.map_nil, sxN, sevalprocAttr, ne_eq, decide_true, decide_false] <;> simp) (by simp only [sxS, sxL, sxF, encs, kpLL_map, List.map_cons, List.map_nil, sxN, sevalprocAttr, ne_eq, decide_true, decide_false] <;> simp)
      rw [hfS]
      simp
    · have h1' : ¬ p.ls.length = 1 := by omega
      rw [if_neg h1'] at hfS
      simp only [↓sxD, ↓sxP0, sxP1, sxF, sxA, sxS, sxK, encs, tys, sxN, sevalprocAttr, ne_eq, decide_true, decide_false]
      refine LoopW.comp [0, 2, 4, 7] (by simp only [sxS, sxL, sxF, encs, sxN, sevalprocAttr, ne_eq, decide_true, decide_false] <;> (try simp) <;> (try omega)) ?_
      simp only [sxS, sxF, sxN, sevalprocAttr, ne_eq, decide_true, decide_false]
      refine LoopW.up Tok (fun k : Nat => [(7, (.v (.int .i64 k)))]) (fun k => [(0, [(.v (.int .i64 cn)), (.v (.int .i64 rn)), .sl true 4 (cells.map eC), .row 0])]) (fun k => [(0, pre.map eF)]) (fun k => []) (fun k => (1 ≤ k ∧ k ≤ 5) ∧ outF F 4 1 = outF F (5 - k) k) (fun k => 5 - k) (1) (by simp only [sxS, sxL, sxF, encs, sxN, sevalprocAttr, ne_eq, decide_true, decide_false] <;> (try simp) <;> (try omega)) ?_ ?_
      · exact ⟨by omega, rfl⟩
      rintro k ⟨hk, ho⟩
      simp only [↓sxD, ↓sxP0, sxP1, sxF, sxA, sxS, sxK, encs, tys, sxN, sevalprocAttr, ne_eq, decide_true, decide_false]
      refine BrW.dec (fun hk4 => ?_) (fun hk4 => ?_)
      · have hk5 : k ≤ 4 := by omega
        simp only [↓sxD, ↓sxP0, sxP1, sxF, sxA, sxS, sxK, encs, tys, sxN, sevalprocAttr, ne_eq, decide_true, decide_false]
        refine LoopW.comp [0, 2, 4, 7, 8] (by simp only [sxS, sxL, sxF, encs, sxN, sevalprocAttr, ne_eq, decide_true, decide_false] <;> (try simp) <;> (try omega)) ?_
        simp only [sxS, sxF, sxN, sevalprocAttr, ne_eq, decide_true, decide_false]
        refine LoopW.up Tok (fun c : Nat => [(8, (.v (.int .i64 c)))]) (fun c => [(0, [(.v (.int .i64 cn)), (.v (.int .i64 rn)), .sl true 4 (cells.map eC), .row 0])]) (fun c => [(0, pre.map eF)]) (fun c => []) (fun c => (1 ≤ c ∧ c ≤ 9) ∧ inF F k 8 1 = inF F k (9 - c) c) (fun c => 9 - c) (1) (by simp only [sxS, sxL, sxF, encs, sxN, sevalprocAttr, ne_eq, decide_true, decide_false] <;> (try simp) <;> (try omega)) ?_ ?_
        · exact ⟨by omega, rfl⟩
        rintro c ⟨hc9, hi⟩
        simp only [↓sxD, ↓sxP0, sxP1, sxF, sxA, sxS, sxK, encs, tys, sxN, sevalprocAttr, ne_eq, decide_true, decide_false]
        refine BrW.dec (fun hc8 => ?_) (fun hc8 => ?_)
        · have hc8' : c ≤ 8 := by omega
          simp only [↓sxD, ↓sxP0, sxP1, sxF, sxA, sxS, sxK, encs, tys, sxN, sevalprocAttr, ne_eq, decide_true, decide_false]
          refine CallI.fn (fold_s p (hg.ok (by have := Nat.one_le_two_pow (n := n + 1); have := Nat.le_mul_of_pos_right h (show 0 < 2 ^ (n + 1) by omega); omega)) ⟨k, c⟩ (by simp; omega)) (by simp only [sxA, sxL, sxF, encs, sxN, sevalprocAttr, ne_eq, decide_true, decide_false] <;> (try simp)) ?_
          simp only [↓sxD, ↓sxP0, sxP1, sxF, sxA, sxS, sxK, encs, tys, sxN, sevalprocAttr, ne_eq, decide_true, decide_false]
          refine BrW.dec (fun he => ?_) (fun he => ?_)
          · have hin0 : inF F k 8 1 = none := by rw [hi]; exact inF_err hFe _ _ (by omega) (by omega) he
            have ho2 : outF F 4 1 = outF F (5 - (k + 1)) ((k + 1 : Nat) : Int) := by
              rw [ho, show 5 - k = (5 - (k + 1)) + 1 by omega, outF, hin0]; rfl
            simp only [↓sxD, ↓sxP0, sxP1, sxF, sxA, sxS, sxK, encs, tys, sxN, sevalprocAttr, ne_eq, decide_true, decide_false]
            repeat ((with_reducible refine Vc.go ?_ fun _ => ?_); (focus (first | omega | (simp only [InK]; omega) | (simp [InK]; done) | (simp [InK]; omega))); simp only [↓sxD, ↓sxP0, sxP1, sxF, sxA, sxS, sxK, encs, tys, sxN, sevalprocAttr, ne_eq, decide_true, decide_false])
            refine ⟨k + 1, StLe.auto (by simp only [sxS, sxL, sxF, encs, sxN, sevalprocAttr, ne_eq, decide_true, decide_false] <;> (try simp) <;> (try omega)), ?_, ?_⟩
            · exact ⟨by omega, ho2⟩
            · omega
          · have he0 : foldErrS p ⟨k, c⟩ = 0 := Decidable.not_not.1 he
            have hi2 : inF F k 8 1 = (F ⟨k, c⟩).or (inF F k (9 - (c + 1)) ((c + 1 : Nat) : Int)) := by
              rw [hi, show 9 - c = (9 - (c + 1)) + 1 by omega, inF]; rfl
            rw [hFo _ he0] at hi2
            simp only [↓sxD, ↓sxP0, sxP1, sxF, sxA, sxS, sxK, encs, tys, sxN, sevalprocAttr, ne_eq, decide_true, decide_false]
            refine DrawW.plan Tok mixed (.q 0 <| .q 1 <| .q 2 <| .q 3 <| .q 4 <| .q 5 <| .e 6 [4] <| .e 7 [] <| .q 8 <| .q 9 <| .e 10 [] <| .done) (by kernel_rfl) (by kernel_rfl) ?_
            simp only [↓sxD, ↓sxP0, sxP1, sxF, sxA, sxS, sxK, encs, tys, sxN, sevalprocAttr, ne_eq, decide_true, decide_false]
            repeat ((with_reducible refine Vc.go ?_ fun _ => ?_); (focus (first | omega | (simp only [InK]; omega) | (simp [InK]; done) | (simp [InK]; omega))); simp only [↓sxD, ↓sxP0, sxP1, sxF, sxA, sxS, sxK, encs, tys, sxN, sevalprocAttr, ne_eq, decide_true, decide_false])
            refine CallI.ctrM (k := 0) (γ := [some 2]) (ih (foldP p ⟨k, c⟩) (2 * h) (pre ++ [⟨k, c⟩]) (foldP_good hg he0) (by rw [Nat.pow_succ] at hh; rw [Nat.mul_comm 2 h, Nat.mul_assoc, Nat.mul_comm 2]; exact hh) (allP_fold lf_flip lf_rnd hin _) (by simp; omega)) rfl (by simp only [sxS, sxL, sxF, encs, List.map_cons, List.map_nil, sxN, sevalprocAttr, ne_eq, decide_true, decide_false] <;> (try simp [eF])) (by simp) (by simp only [sxS, sxL, sxF, encs, List.map_cons, List.map_nil, sxN, sevalprocAttr, ne_eq, decide_true, decide_false] <;> (try simp [eF])) (by simp only [sxS, sxL, sxF, encs, List.map_cons, List.map_nil, sxN, sevalprocAttr, ne_eq, decide_true, decide_false] <;> (try simp [eF])) ?_
            rintro _ _ _ ⟨rfl, rfl, rfl⟩
            simp only [↓sxD, ↓sxP0, sxP1, sxF, sxA, sxS, sxK, encs, tys, sxN, sevalprocAttr, ne_eq, decide_true, decide_false]
            refine BrW.of (fun hs => ?_) (fun hs => ?_)
            · obtain ⟨rest, hrest⟩ := Option.isSome_iff_exists.1 hs
              have hR : findS cn cells (n + 1) p = some (⟨k, c⟩ :: rest) := by
                rw [hfS, ho, show 5 - k = (4 - k) + 1 by omega, outF, hi2, hrest]; rfl
              rw [hrest]
              simp only [↓sxD, ↓sxP0, sxP1, sxF, sxA, sxS, sxK, encs, tys, sxN, sevalprocAttr, ne_eq, decide_true, decide_false]
              refine EndM.r [some 3] (.v (.bool (true))) [(.v (.int .i64 cn)), (.v (.int .i64 rn)), .sl true 4 (cells.map eC), .row 0] [.own 32 2 ((pre ++ (⟨k, c⟩ : Fold) :: rest).map eF)] ?_ (by simp) (by simp only [sxS, sxL, sxF, encs, kpLL_map, List.map_cons, List.map_nil, sxN, sevalprocAttr, ne_eq, decide_true, decide_false] <;> simp) (by simp only [sxS, sxL, sxF, encs, kpLL_map, List.map_cons, List.map_nil, sxN, sevalprocAttr, ne_eq, decide_true, decide_false] <;> simp) (by simp only [sxS, sxL, sxF, encs, kpLL_map, List.map_cons, List.map_nil, sxN, sevalprocAttr, ne_eq, decide_true, decide_false] <;> simp) (by simp only [sxS, sxL, sxF, encs, kpLL_map, List.map_cons, List.map_nil, sxN, sevalprocAttr, ne_eq, decide_true, decide_false] <;> simp) (by simp only [sxS, sxL, sxF, encs, kpLL_map, List.map_cons, List.map_nil, sxN, sevalprocAttr, ne_eq, decide_true, decide_false] <;> simp) (by simp only [sxS, sxL, sxF, encs, kpLL_map, List.map_cons, List.map_nil, sxN, sevalprocAttr, ne_eq, decide_true, decide_false] <;> simp)
              rw [hR]
              exact ⟨rfl, rfl, rfl⟩
            · have hnone : findS cn cells n (foldP p ⟨k, c⟩) = none := by
                cases hx : findS cn cells n (foldP p ⟨k, c⟩) with
                | none => rfl
                | some y => rw [hx] at hs; cases hs
              rw [hnone] at hi2 ⊢
              have hi3 : inF F k 8 1 = inF F k (9 - (c + 1)) ((c + 1 : Nat) : Int) := hi2
              have e1 : (((pre.length + 1 : Nat) : Int) - 1).toNat = pre.length := by omega
              have encs := And.intro encs e1
              simp only [Option.getD_none, List.append_nil]
              simp only [↓sxD, ↓sxP0, sxP1, sxF, sxA, sxS, sxK, encs, tys, sxN, sevalprocAttr, ne_eq, decide_true, decide_false]
              refine DrawW.plan Tok mixed (.q 0 <| .q 1 <| .q 2 <| .q 3 <| .q 4 <| .q 5 <| .q 6 <| .q 7 <| .q 8 <| .q 9 <| .q 10 <| .e 11 [] <| .q 12 <| .q 13 <| .e 14 [] <| .done) (by kernel_rfl) (by kernel_rfl) ?_
              simp only [↓sxD, ↓sxP0, sxP1, sxF, sxA, sxS, sxK, encs, tys, sxN, sevalprocAttr, ne_eq, decide_true, decide_false]
              repeat ((with_reducible refine Vc.go ?_ fun _ => ?_); (focus (first | omega | (simp only [InK]; omega) | (simp [InK]; done) | (simp [InK]; omega))); simp only [↓sxD, ↓sxP0, sxP1, sxF, sxA, sxS, sxK, encs, tys, sxN, sevalprocAttr, ne_eq, decide_true, decide_false])
              refine ⟨c + 1, StLe.auto (by simp only [sxS, sxL, sxF, encs, sxN, sevalprocAttr, ne_eq, decide_true, decide_false] <;> (try simp [eF, encs]) <;> (try omega)), ?_, ?_⟩
              · exact ⟨by omega, hi3⟩
              · omega
        · have hc9' : c = 9 := by omega
          have hin0 : inF F k 8 1 = none := by rw [hi, hc9']; rfl
          have ho2 : outF F 4 1 = outF F (5 - (k + 1)) ((k + 1 : Nat) : Int) := by
            rw [ho, show 5 - k = (5 - (k + 1)) + 1 by omega, outF, hin0]; rfl
          simp only [↓sxD, ↓sxP0, sxP1, sxF, sxA, sxS, sxK, encs, tys, sxN, sevalprocAttr, ne_eq, decide_true, decide_false]
          repeat ((with_reducible refine Vc.go ?_ fun _ => ?_); (focus (first | omega | (simp only [InK]; omega) | (simp [InK]; done) | (simp [InK]; omega))); simp only [↓sxD, ↓sxP0, sxP1, sxF, sxA, sxS, sxK, encs, tys, sxN, sevalprocAttr, ne_eq, decide_true, decide_false])
          refine ⟨k + 1, StLe.auto (by simp only [sxS, sxL, sxF, encs, sxN, sevalprocAttr, ne_eq, decide_true, decide_false] <;> (try simp) <;> (try omega)), ?_, ?_⟩
          · exact ⟨by omega, ho2⟩
          · omega
      · have hk5 : k = 5 := by omega
        subst hk5
        have hno : findS cn cells (n + 1) p = none := by rw [hfS, ho]; rfl
        simp only [↓sxD, ↓sxP0, sxP1, sxF, sxA, sxS, sxK, encs, tys, sxN, sevalprocAttr, ne_eq, decide_true, decide_false]
        refine EndM.r [some 0] (.v (.bool (false))) [(.v (.int .i64 cn)), (.v (.int .i64 rn)), .sl true 4 (cells.map eC), .row 0] [.own 32 2 (pre.map eF)] ?_ (by simp) (by simp only [sxS, sxL, sxF, encs, kpLL_map, List.map_cons, List.map_nil, sxN, sevalprocAttr, ne_eq, decide_true, decide_false] <;> simp) (by simp only [sxS, sxL, sxF, encs, kpLL_map, List.map_cons, List.map_nil, sxN, sevalprocAttr, ne_eq, decide_true, decide_false] <;> simp) (by simp only [sxS, sxL, sxF, encs, kpLL_map, List.map_cons, List.map_nil, sxN, sevalprocAttr, ne_eq, decide_true, decide_false] <;> simp) (by simp only [sxS, sxL, sxF, encs, kpLL_map, List.map_cons, List.map_nil, sxN, sevalprocAttr, ne_eq, decide_true, decide_false] <;> simp) (by simp only [sxS, sxL, sxF, encs, kpLL_map, List.map_cons, List.map_nil, sxN, sevalprocAttr, ne_eq, decide_true, decide_false] <;> simp) (by simp only [sxS, sxL, sxF, encs, kpLL_map, List.map_cons, List.map_nil, sxN, sevalprocAttr, ne_eq, decide_true, decide_false] <;> simp)
        rw [hno]
        simp
end Go.Proofs.Ytfpkpokkgbobmaa
