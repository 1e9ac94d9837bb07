/-
  Chapter 6, walks: folds are looked for (reference).
-/
import Derived.Test.YtfpkpokkgbobmaaVW43
namespace Go.Proofs.Ytfpkpokkgbobmaa
open Go Go.Vx
set_option linter.unusedSimpArgs false
set_option maxRecDepth 20000
def oneS1 (cn : Nat) (cells : List Cell) (p : PileS) : Option (List Fold) := if ordK 0 ((stkAt p.ls 0).flatMap (rdP cn cells)) = true then some [] else none
def searchS (cn : Nat) (cells : List Cell) : Nat → PileS → Option (List Fold)
  | 0, p => if p.ls.length = 1 then oneS1 cn cells p else none
  | n + 1, p => if p.ls.length = 1 then oneS1 cn cells p else outF (fun x => if foldErrS p x = 0 then (searchS cn cells n (foldP p x)).map (x :: ·) else none) 4 1
theorem oneS1_some {cn : Nat} {cells : List Cell} {p : PileS} : (oneS1 cn cells p).getD [] = [] ∧ (oneS1 cn cells p).isSome = ordK 0 ((stkAt p.ls 0).flatMap (rdP cn cells)) := by
  unfold oneS1
  cases ordK 0 ((stkAt p.ls 0).flatMap (rdP cn cells)) <;> exact ⟨rfl, rfl⟩
theorem inF_some {α : Type} {F : Fold → Option α} {k : Int} {y : α} : ∀ (m : Nat) (c : Int), inF F k m c = some y → ∃ c', (c ≤ c' ∧ c' < c + m) ∧ F ⟨k, c'⟩ = some y
  | 0, _, h => by cases h
  | m + 1, c, h => by
    rw [inF] at h
    cases hx : F ⟨k, c⟩ with
    | some z => rw [hx] at h; exact ⟨c, by omega, by rw [hx]; exact h⟩
    | none =>
      rw [hx] at h
      obtain ⟨c', h1, h2⟩ := inF_some m (c + 1) h
      exact ⟨c', by omega, h2⟩
theorem outF_some {α : Type} {F : Fold → Option α} {y : α} : ∀ (m : Nat) (k : Int), outF F m k = some y → ∃ k' c', (k ≤ k' ∧ k' < k + m) ∧ (1 ≤ c' ∧ c' ≤ 8) ∧ F ⟨k', c'⟩ = some y
  | 0, _, h => by cases h
  | m + 1, k, h => by
    rw [outF] at h
    cases hx : inF F k 8 1 with
    | some z =>
      rw [hx] at h
      obtain ⟨c', h1, h2⟩ := inF_some 8 1 hx
      exact ⟨k, c', by omega, by omega, by rw [h2]; exact h⟩
    | none =>
      rw [hx] at h
      obtain ⟨k', c', h1, h2⟩ := outF_some m (k + 1) h
      exact ⟨k', c', by omega, h2⟩
theorem searchS_len {cn : Nat} {cells : List Cell} : ∀ (n : Nat) (p : PileS) (l : List Fold), searchS cn cells n p = some l → l.length ≤ n
  | 0, p, l, h => by
    unfold searchS oneS1 at h
    split at h
    · split at h
      · cases h; simp
      · cases h
    · cases h
  | n + 1, p, l, h => by
    unfold searchS oneS1 at h
    split at h
    · split at h
      · cases h; simp
      · cases h
    · obtain ⟨k, c, -, -, h2⟩ := outF_some _ _ h
      split at h2
      · rw [Option.map_eq_some_iff] at h2
        obtain ⟨a, h3, rfl⟩ := h2
        have := searchS_len n _ a h3
        simp; omega
      · cases h2
set_option maxHeartbeats 4000000 in
theorem search_s (b : Bool) (cn rn : Nat) (cells : List Cell) (hc : cn ≤ 8) (hr : rn ≤ 8) (hl : cells.length = rn * cn) (ht : ∀ y ∈ cells, TnOk y) : ∀ (n : Nat) (p : PileS) (h : Nat), p.Good h → h * 2 ^ n ≤ 4096 → allP (LfOk cn rn) p.ls → n ≤ 1000 →
    Ctr Try.prog 88 [.agg [(.v (.int .i64 cn)), (.v (.int .i64 rn)), .sl b 4 (cells.map eC)], .agg [(.v (.int .i64 p.cols)), (.v (.int .i64 p.rows)), .sl true 1 (p.ls.map eK)], (.v (.int .i64 n))] (fun rr => rr = ⟨.tup [.sl true 2 (((searchS cn cells n p).getD []).map eF), (.v (.bool ((searchS cn cells n p).isSome)))], []⟩) := by
  intro n
  induction n with
  | zero =>
    intro p h hg hh hin hpn
    have h0 : searchS cn cells 0 p = if p.ls.length = 1 then oneS1 cn cells p else none := rfl
    refine Ctr.of (rs := [.tmp 6, .tmp 7]) Tok true Try.func88 rfl rfl rfl rfl (by simp [ofDL]) (fun w0 kp => ?_)
    simp only [↓sxD, ↓sxP0, sxP1, sxF, sxA, sxS, sxK, encs, tys, sxN, sevalprocAttr, ne_eq, decide_true, decide_false]
    refine BrW.dec (fun h1 => ?_) (fun h1 => ?_)
    · have h1' : p.ls.length = 1 := by omega
      obtain ⟨hf1, hf2⟩ := stkAt_good hg.fine 0
      have hh' : h ≤ 4096 := by simpa using hh
      rw [if_pos h1'] at h0
      obtain ⟨o1, o2⟩ := oneS1_some (cn := cn) (cells := cells) (p := p)
      simp only [↓sxD, ↓sxP0, sxP1, sxF, sxA, sxS, sxK, encs, tys, sxN, sevalprocAttr, ne_eq, decide_true, decide_false]
      refine DrawW.plan Tok mixed (.q 0 <| .q 1 <| .q 2 <| .q 3 <| .q 4 <| .e 5 [] <| .e 6 [] <| .q 7 <| .q 8 <| .done) (by kernel_rfl) (by kernel_rfl) ?_
      simp only [↓sxD, ↓sxP0, sxP1, sxF, sxA, sxS, sxK, encs, tys, sxN, sevalprocAttr, ne_eq, decide_true, decide_false]
      refine IxW.map (stkAt p.ls 0) (by omega) (stkAt_get (by omega)) ?_
      simp only [↓sxD, ↓sxP0, sxP1, sxF, sxA, sxS, sxK, encs, tys, sxN, sevalprocAttr, ne_eq, decide_true, decide_false]
      refine CallI.fn (readPile_s b true cn rn cells (stkAt p.ls 0) hc hr hl (allP_stk hin 0) ht (by omega)) (by simp only [sxA, sxL, sxF, encs, sxN, sevalprocAttr, ne_eq, decide_true, decide_false] <;> (try simp)) ?_
      simp only [↓sxD, ↓sxP0, sxP1, sxF, sxA, sxS, sxK, encs, tys, sxN, sevalprocAttr, ne_eq, decide_true, decide_false]
      refine CallI.fn (inOrdR_s true ((stkAt p.ls 0).flatMap (rdP cn cells)) (by rw [rdL_len]; omega)) (by simp only [sxA, sxL, sxF, encs, sxN, sevalprocAttr, ne_eq, decide_true, decide_false] <;> (try simp)) ?_
      simp only [↓sxD, ↓sxP0, sxP1, sxF, sxA, sxS, sxK, encs, tys, sxN, sevalprocAttr, ne_eq, decide_true, decide_false]
      exact EndW.fn (by simp only [sxL, encs, kpLL_map, sxN, sevalprocAttr, ne_eq, decide_true, decide_false] <;> (try simp [h0, o1, o2]) <;> (try omega)) (by simp only [sxL, encs, kpLL_map, sxN, sevalprocAttr, ne_eq, decide_true, decide_false] <;> (try simp) <;> (try omega))
    · have h1' : ¬ p.ls.length = 1 := by omega
      rw [if_neg h1'] at h0
      simp only [↓sxD, ↓sxP0, sxP1, sxF, sxA, sxS, sxK, encs, tys, sxN, sevalprocAttr, ne_eq, decide_true, decide_false]
      exact EndW.fn (by simp only [sxL, encs, kpLL_map, sxN, sevalprocAttr, ne_eq, decide_true, decide_false] <;> (try simp [h0]) <;> (try omega)) (by simp only [sxL, encs, kpLL_map, sxN, sevalprocAttr, ne_eq, decide_true, decide_false] <;> (try simp) <;> (try omega))
  | succ n ih =>
    intro p h hg hh hin hpn
    have hfS : searchS cn cells (n + 1) p = if p.ls.length = 1 then oneS1 cn cells p else outF (fun x => if foldErrS p x = 0 then (searchS cn cells n (foldP p x)).map (x :: ·) else none) 4 1 := rfl
    generalize hF : (fun x => if foldErrS p x = 0 then (searchS cn cells n (foldP p x)).map (x :: ·) else none) = F at hfS
    have hFe : ∀ x, foldErrS p x ≠ 0 → F x = none := fun x hx => by rw [← hF]; simp only [if_neg hx]
    have hFo : ∀ x, foldErrS p x = 0 → F x = (searchS cn cells n (foldP p x)).map (x :: ·) := fun x hx => by rw [← hF]; simp only [if_pos hx]
    clear hF
    have hok : p.Ok := hg.ok (by have := Nat.one_le_two_pow (n := n + 1); have := Nat.le_mul_of_pos_right h (show 0 < 2 ^ (n + 1) by omega); omega)
    refine Ctr.of (rs := [.tmp 6, .tmp 7]) Tok true Try.func88 rfl rfl rfl rfl (by simp [ofDL]) (fun w0 kp => ?_)
    simp only [↓sxD, ↓sxP0, sxP1, sxF, sxA, sxS, sxK, encs, tys, sxN, sevalprocAttr, ne_eq, decide_true, decide_false]
    refine BrW.dec (fun h1 => ?_) (fun h1 => ?_)
    · have h1' : p.ls.length = 1 := by omega
      obtain ⟨hf1, hf2⟩ := stkAt_good hg.fine 0
      have hh' : h ≤ 4096 := by have := Nat.one_le_two_pow (n := n + 1); have := Nat.le_mul_of_pos_right h (show 0 < 2 ^ (n + 1) by omega); omega
      rw [if_pos h1'] at hfS
      obtain ⟨o1, o2⟩ := oneS1_some (cn := cn) (cells := cells) (p := p)
      simp only [↓sxD, ↓sxP0, sxP1, sxF, sxA, sxS, sxK, encs, tys, sxN, sevalprocAttr, ne_eq, decide_true, decide_false]
      refine DrawW.plan Tok mixed (.q 0 <| .q 1 <| .q 2 <| .q 3 <| .q 4 <| .e 5 [] <| .e 6 [] <| .q 7 <| .q 8 <| .done) (by kernel_rfl) (by kernel_rfl) ?_
      simp only [↓sxD, ↓sxP0, sxP1, sxF, sxA, sxS, sxK, encs, tys, sxN, sevalprocAttr, ne_eq, decide_true, decide_false]
      refine IxW.map (stkAt p.ls 0) (by omega) (stkAt_get (by omega)) ?_
      simp only [↓sxD, ↓sxP0, sxP1, sxF, sxA, sxS, sxK, encs, tys, sxN, sevalprocAttr, ne_eq, decide_true, decide_false]
      refine CallI.fn (readPile_s b true cn rn cells (stkAt p.ls 0) hc hr hl (allP_stk hin 0) ht (by omega)) (by simp only [sxA, sxL, sxF, encs, sxN, sevalprocAttr, ne_eq, decide_true, decide_false] <;> (try simp)) ?_
      simp only [↓sxD, ↓sxP0, sxP1, sxF, sxA, sxS, sxK, encs, tys, sxN, sevalprocAttr, ne_eq, decide_true, decide_false]
      refine CallI.fn (inOrdR_s true ((stkAt p.ls 0).flatMap (rdP cn cells)) (by rw [rdL_len]; omega)) (by simp only [sxA, sxL, sxF, encs, sxN, sevalprocAttr, ne_eq, decide_true, decide_false] <;> (try simp)) ?_
      simp only [↓sxD, ↓sxP0, sxP1, sxF, sxA, sxS, sxK, encs, tys, sxN, sevalprocAttr, ne_eq, decide_true, decide_false]
      exact EndW.fn (by simp only [sxL, encs, kpLL_map, sxN, sevalprocAttr, ne_eq, decide_true, decide_false] <;> (try simp [hfS, o1, o2]) <;> (try omega)) (by simp only [sxL, encs, kpLL_map, sxN, sevalprocAttr, ne_eq, decide_true, decide_false] <;> (try simp) <;> (try omega))
    · have h1' : ¬ p.ls.length = 1 := by omega
      rw [if_neg h1'] at hfS
      simp only [↓sxD, ↓sxP0, sxP1, sxF, sxA, sxS, sxK, encs, tys, sxN, sevalprocAttr, ne_eq, decide_true, decide_false]
      refine BrW.ff (by simp; omega) ?_
      simp only [↓sxD, ↓sxP0, sxP1, sxF, sxA, sxS, sxK, encs, tys, sxN, sevalprocAttr, ne_eq, decide_true, decide_false]
      refine LoopW.comp [2, 3, 4, 8] (by simp only [sxS, sxL, sxF, encs, sxN, sevalprocAttr, ne_eq, decide_true, decide_false] <;> (try simp) <;> (try omega)) ?_
      simp only [sxS, sxF, sxN, sevalprocAttr, ne_eq, decide_true, decide_false]
      refine LoopW.up Tok (fun k : Nat => [(8, (.v (.int .i64 k)))]) (fun k => []) (fun k => []) (fun k => []) (fun k => (1 ≤ k ∧ k ≤ 5) ∧ outF F 4 1 = outF F (5 - k) k) (fun k => 5 - k) (1) (by simp only [sxS, sxL, sxF, encs, sxN, sevalprocAttr, ne_eq, decide_true, decide_false] <;> (try simp) <;> (try omega)) ?_ ?_
      · exact ⟨by omega, rfl⟩
      rintro k ⟨hk, ho⟩
      simp only [↓sxD, ↓sxP0, sxP1, sxF, sxA, sxS, sxK, encs, tys, sxN, sevalprocAttr, ne_eq, decide_true, decide_false]
      refine BrW.dec (fun hk4 => ?_) (fun hk4 => ?_)
      · have hk5 : k ≤ 4 := by omega
        simp only [↓sxD, ↓sxP0, sxP1, sxF, sxA, sxS, sxK, encs, tys, sxN, sevalprocAttr, ne_eq, decide_true, decide_false]
        refine LoopW.comp [2, 3, 4, 8, 9] (by simp only [sxS, sxL, sxF, encs, sxN, sevalprocAttr, ne_eq, decide_true, decide_false] <;> (try simp) <;> (try omega)) ?_
        simp only [sxS, sxF, sxN, sevalprocAttr, ne_eq, decide_true, decide_false]
        refine LoopW.up Tok (fun c : Nat => [(9, (.v (.int .i64 c)))]) (fun c => []) (fun c => []) (fun c => []) (fun c => (1 ≤ c ∧ c ≤ 9) ∧ inF F k 8 1 = inF F k (9 - c) c) (fun c => 9 - c) (1) (by simp only [sxS, sxL, sxF, encs, sxN, sevalprocAttr, ne_eq, decide_true, decide_false] <;> (try simp) <;> (try omega)) ?_ ?_
        · exact ⟨by omega, rfl⟩
        rintro c ⟨hc9, hi⟩
        simp only [↓sxD, ↓sxP0, sxP1, sxF, sxA, sxS, sxK, encs, tys, sxN, sevalprocAttr, ne_eq, decide_true, decide_false]
        refine BrW.dec (fun hc8 => ?_) (fun hc8 => ?_)
        · have hc8' : c ≤ 8 := by omega
          have hi2 : inF F k 8 1 = (F ⟨k, c⟩).or (inF F k (9 - (c + 1)) ((c + 1 : Nat) : Int)) := by
            rw [hi, show 9 - c = (9 - (c + 1)) + 1 by omega, inF]; rfl
          simp only [↓sxD, ↓sxP0, sxP1, sxF, sxA, sxS, sxK, encs, tys, sxN, sevalprocAttr, ne_eq, decide_true, decide_false]
          refine CallI.fn (foldErr_s p.cols p.rows p.ls ⟨k, c⟩ hg.c2 hg.r2) (by simp only [sxA, sxL, sxF, encs, sxN, sevalprocAttr, ne_eq, decide_true, decide_false] <;> (try simp)) ?_
          simp only [↓sxD, ↓sxP0, sxP1, sxF, sxA, sxS, sxK, encs, tys, sxN, sevalprocAttr, ne_eq, decide_true, decide_false]
          refine BrW.dec (fun he => ?_) (fun he => ?_)
          · have hi3 : inF F k 8 1 = inF F k (9 - (c + 1)) ((c + 1 : Nat) : Int) := by rw [hi2, hFe _ he]; rfl
            simp only [↓sxD, ↓sxP0, sxP1, sxF, sxA, sxS, sxK, encs, tys, sxN, sevalprocAttr, ne_eq, decide_true, decide_false]
            repeat ((with_reducible refine Vc.go ?_ fun _ => ?_); (focus (first | omega | (simp only [InK]; omega) | (simp [InK]; done) | (simp [InK]; omega))); simp only [↓sxD, ↓sxP0, sxP1, sxF, sxA, sxS, sxK, encs, tys, sxN, sevalprocAttr, ne_eq, decide_true, decide_false])
            refine ⟨c + 1, StLe.auto (by simp only [sxS, sxL, sxF, encs, sxN, sevalprocAttr, ne_eq, decide_true, decide_false] <;> (try simp) <;> (try omega)), ?_, ?_⟩
            · exact ⟨by omega, hi3⟩
            · omega
          · have he0 : foldErrS p ⟨k, c⟩ = 0 := Decidable.not_not.1 he
            rw [hFo _ he0] at hi2
            simp only [↓sxD, ↓sxP0, sxP1, sxF, sxA, sxS, sxK, encs, tys, sxN, sevalprocAttr, ne_eq, decide_true, decide_false]
            refine DrawW.plan Tok mixed (.q 0 <| .q 1 <| .q 2 <| .q 4 <| .q 5 <| .e 3 [0] <| .e 6 [] <| .q 7 <| .q 8 <| .q 9 <| .q 10 <| .q 11 <| .done) (by kernel_rfl) (by kernel_rfl) ?_
            simp only [↓sxD, ↓sxP0, sxP1, sxF, sxA, sxS, sxK, encs, tys, sxN, sevalprocAttr, ne_eq, decide_true, decide_false]
            repeat ((with_reducible refine Vc.go ?_ fun _ => ?_); (focus (first | omega | (simp only [InK]; omega) | (simp [InK]; done) | (simp [InK]; omega))); simp only [↓sxD, ↓sxP0, sxP1, sxF, sxA, sxS, sxK, encs, tys, sxN, sevalprocAttr, ne_eq, decide_true, decide_false])
            refine CallI.fn (foldHeap_s true p hok ⟨k, c⟩ he0) (by simp only [sxA, sxL, sxF, encs, sxN, sevalprocAttr, ne_eq, decide_true, decide_false] <;> (try simp)) ?_
            simp only [↓sxD, ↓sxP0, sxP1, sxF, sxA, sxS, sxK, encs, tys, sxN, sevalprocAttr, ne_eq, decide_true, decide_false]
            repeat ((with_reducible refine Vc.go ?_ fun _ => ?_); (focus (first | omega | (simp only [InK]; omega) | (simp [InK]; done) | (simp [InK]; omega))); simp only [↓sxD, ↓sxP0, sxP1, sxF, sxA, sxS, sxK, encs, tys, sxN, sevalprocAttr, ne_eq, decide_true, decide_false])
            have e1 : ((n + 1 : Nat) : Int) - 1 = n := by omega
            have encs := And.intro encs e1
            refine CallI.fn (ih (foldP p ⟨k, c⟩) (2 * h) (foldP_good hg he0) (by rw [Nat.pow_succ] at hh; rw [Nat.mul_comm 2 h, Nat.mul_assoc, Nat.mul_comm 2]; exact hh) (allP_fold lf_flip lf_rnd hin _) (by omega)) (by simp only [sxA, sxL, sxF, encs, sxN, sevalprocAttr, ne_eq, decide_true, decide_false] <;> (try simp)) ?_
            simp only [↓sxD, ↓sxP0, sxP1, sxF, sxA, sxS, sxK, encs, tys, sxN, sevalprocAttr, ne_eq, decide_true, decide_false]
            refine BrW.of (fun hs => ?_) (fun hs => ?_)
            · obtain ⟨rest, hrest⟩ := Option.isSome_iff_exists.1 hs
              have hR : searchS cn cells (n + 1) p = some (⟨k, c⟩ :: rest) := by
                rw [hfS, ho, show 5 - k = (4 - k) + 1 by omega, outF, hi2, hrest]; rfl
              have hrl := searchS_len _ _ _ hrest
              rw [hrest]
              simp only [↓sxD, ↓sxP0, sxP1, sxF, sxA, sxS, sxK, encs, tys, sxN, sevalprocAttr, ne_eq, decide_true, decide_false]
              repeat ((with_reducible refine Vc.go ?_ fun _ => ?_); (focus (first | omega | (simp only [InK]; omega) | (simp [InK]; done) | (simp [InK]; omega))); simp only [↓sxD, ↓sxP0, sxP1, sxF, sxA, sxS, sxK, encs, tys, sxN, sevalprocAttr, ne_eq, decide_true, decide_false])
              exact EndW.fn (by simp only [sxL, encs, kpLL_map, sxN, sevalprocAttr, ne_eq, decide_true, decide_false] <;> (try simp [hR, eF]) <;> (try omega)) (by simp only [sxL, encs, kpLL_map, sxN, sevalprocAttr, ne_eq, decide_true, decide_false] <;> (try simp) <;> (try omega))
            · have hnone : searchS cn cells n (foldP p ⟨k, c⟩) = none := by
                cases hx : searchS cn cells n (foldP p ⟨k, c⟩) with
                | none => rfl
                | some y => rw [hx] at hs; cases hs
              rw [hnone] at hi2 ⊢
              have hi3 : inF F k 8 1 = inF F k (9 - (c + 1)) ((c + 1 : Nat) : Int) := hi2
              simp only [↓sxD, ↓sxP0, sxP1, sxF, sxA, sxS, sxK, encs, tys, sxN, sevalprocAttr, ne_eq, decide_true, decide_false]
              repeat ((with_reducible refine Vc.go ?_ fun _ => ?_); (focus (first | omega | (simp only [InK]; omega) | (simp [InK]; done) | (simp [InK]; omega))); simp only [↓sxD, ↓sxP0, sxP1, sxF, sxA, sxS, sxK, encs, tys, sxN, sevalprocAttr, ne_eq, decide_true, decide_false])
              refine ⟨c + 1, StLe.auto (by simp only [sxS, sxL, sxF, encs, sxN, sevalprocAttr, ne_eq, decide_true, decide_false] <;> (try simp) <;> (try omega)), ?_, ?_⟩
              · exact ⟨by omega, hi3⟩
              · omega
        · have hc9' : c = 9 := by omega
          have hin0 : inF F k 8 1 = none := by rw [hi, hc9']; rfl
          have ho2 : outF F 4 1 = outF F (5 - (k + 1)) ((k + 1 : Nat) : Int) := by
            rw [ho, show 5 - k = (5 - (k + 1)) + 1 by omega, outF, hin0]; rfl
          simp only [↓sxD, ↓sxP0, sxP1, sxF, sxA, sxS, sxK, encs, tys, sxN, sevalprocAttr, ne_eq, decide_true, decide_false]
          repeat ((with_reducible refine Vc.go ?_ fun _ => ?_); (focus (first | omega | (simp only [InK]; omega) | (simp [InK]; done) | (simp [InK]; omega))); simp only [↓sxD, ↓sxP0, sxP1, sxF, sxA, sxS, sxK, encs, tys, sxN, sevalprocAttr, ne_eq, decide_true, decide_false])
          refine ⟨k + 1, StLe.auto (by simp only [sxS, sxL, sxF, encs, sxN, sevalprocAttr, ne_eq, decide_true, decide_false] <;> (try simp) <;> (try omega)), ?_, ?_⟩
          · exact ⟨by omega, ho2⟩
          · omega
      · have hk5 : k = 5 := by omega
        subst hk5
        have hno : searchS cn cells (n + 1) p = none := by rw [hfS, ho]; rfl
        simp only [↓sxD, ↓sxP0, sxP1, sxF, sxA, sxS, sxK, encs, tys, sxN, sevalprocAttr, ne_eq, decide_true, decide_false]
        exact EndW.fn (by simp only [sxL, encs, kpLL_map, sxN, sevalprocAttr, ne_eq, decide_true, decide_false] <;> (try simp [hno]) <;> (try omega)) (by simp only [sxL, encs, kpLL_map, sxN, sevalprocAttr, ne_eq, decide_true, decide_false] <;> (try simp) <;> (try omega))
/-- the first folds, as the reference finds them. -/
def ffR (cn rn : Nat) (l : List Cell) : Option (List Fold) := firstN (fun n => searchS cn l n (flatP cn rn)) (cn + rn - 1) 0
set_option maxHeartbeats 2000000 in
theorem foldsForR_s (b : Bool) (cn rn : Nat) (l : List Cell) (h1 : 1 ≤ cn) (h2 : cn ≤ 8) (h3 : 1 ≤ rn) (h4 : rn ≤ 8) (h5 : l.length = rn * cn) (h6 : l.length ≤ 16) (htn : ∀ y ∈ l, TnOk y) : Ctr Try.prog 65 [.agg [(.v (.int .i64 cn)), (.v (.int .i64 rn)), .sl b 4 (l.map eC)]] (fun rr => rr = ⟨.tup [.sl true 2 (((ffR cn rn l).getD []).map eF), (.v (.bool ((ffR cn rn l).isSome)))], []⟩) := by
  have hs := side_sum h1 h2 h3 h4 (by omega)
  have hS : ffR cn rn l = firstN (fun n => searchS cn l n (flatP cn rn)) (cn + rn - 1) 0 := rfl
  generalize hG : (fun n => searchS cn l n (flatP cn rn)) = G at hS
  have hGn : ∀ n, G n = searchS cn l n (flatP cn rn) := fun n => by rw [← hG]
  refine Ctr.of (rs := [.tmp 2, .tmp 3]) Tok true Try.func65 rfl rfl rfl rfl (by simp [ofDL]) (fun w0 kp => ?_)
  simp only [↓sxD, ↓sxP0, sxP1, sxF, sxA, sxS, sxK, encs, tys, sxN, sevalprocAttr, ne_eq, decide_true, decide_false]
  refine LoopW.comp [1, 4] (by simp only [sxS, sxL, sxF, encs, sxN, sevalprocAttr, ne_eq, decide_true, decide_false] <;> (try simp) <;> (try omega)) ?_
  simp only [sxS, sxF, sxN, sevalprocAttr, ne_eq, decide_true, decide_false]
  refine LoopW.up Tok (fun n : Nat => [(4, (.v (.int .i64 n)))]) (fun n => []) (fun n => []) (fun n => []) (fun n => n ≤ cn + rn - 1 ∧ firstN G (cn + rn - 1) 0 = firstN G (cn + rn - 1 - n) n) (fun n => cn + rn - 1 - n) (0) (by simp only [sxS, sxL, sxF, encs, sxN, sevalprocAttr, ne_eq, decide_true, decide_false] <;> (try simp) <;> (try omega)) ?_ ?_
  · exact ⟨by omega, rfl⟩
  rintro n ⟨hn, hf⟩
  simp only [↓sxD, ↓sxP0, sxP1, sxF, sxA, sxS, sxK, encs, tys, sxN, sevalprocAttr, ne_eq, decide_true, decide_false]
  repeat ((with_reducible refine Vc.go ?_ fun _ => ?_); (focus (first | omega | (simp only [InK]; omega) | (simp [InK]; done) | (simp [InK]; omega))); simp only [↓sxD, ↓sxP0, sxP1, sxF, sxA, sxS, sxK, encs, tys, sxN, sevalprocAttr, ne_eq, decide_true, decide_false])
  refine BrW.dec (fun hlt => ?_) (fun hlt => ?_)
  · have hn2 : n < cn + rn - 1 := by omega
    rw [show cn + rn - 1 - n = (cn + rn - 1 - (n + 1)) + 1 by omega, firstN, hGn] at hf
    simp only [↓sxD, ↓sxP0, sxP1, sxF, sxA, sxS, sxK, encs, tys, sxN, sevalprocAttr, ne_eq, decide_true, decide_false]
    refine DrawW.plan Tok mixed (.q 0 <| .q 1 <| .q 2 <| .q 3 <| .q 4 <| .q 6 <| .e 5 [0] <| .e 7 [] <| .q 8 <| .q 9 <| .q 10 <| .q 11 <| .q 12 <| .done) (by kernel_rfl) (by kernel_rfl) ?_
    simp only [↓sxD, ↓sxP0, sxP1, sxF, sxA, sxS, sxK, encs, tys, sxN, sevalprocAttr, ne_eq, decide_true, decide_false]
    refine CallI.fn (flatR_s cn rn (by omega) (by omega)) (by simp only [sxA, sxL, sxF, encs, sxN, sevalprocAttr, ne_eq, decide_true, decide_false] <;> (try simp)) ?_
    simp only [↓sxD, ↓sxP0, sxP1, sxF, sxA, sxS, sxK, encs, tys, sxN, sevalprocAttr, ne_eq, decide_true, decide_false]
    have hse : Ctr Try.prog 88 [.agg [(.v (.int .i64 cn)), (.v (.int .i64 rn)), .sl b 4 (l.map eC)], .agg [(.v (.int .i64 cn)), (.v (.int .i64 rn)), .sl true 1 ((flatG cn rn).map eK)], (.v (.int .i64 n))] (fun rr => rr = ⟨.tup [.sl true 2 (((searchS cn l n (flatP cn rn)).getD []).map eF), (.v (.bool ((searchS cn l n (flatP cn rn)).isSome)))], []⟩) := search_s b cn rn l h2 h4 h5 htn n (flatP cn rn) 1 (flatP_good h1 (by omega) h3 (by omega)) (by rw [Nat.one_mul]; exact Nat.pow_le_pow_right (n := 2) (by omega) (show n ≤ 12 by omega)) (flat_lf cn rn) (by omega)
    refine CallI.fn (hse) (by simp only [sxA, sxL, sxF, encs, sxN, sevalprocAttr, ne_eq, decide_true, decide_false] <;> (try simp)) ?_
    simp only [↓sxD, ↓sxP0, sxP1, sxF, sxA, sxS, sxK, encs, tys, sxN, sevalprocAttr, ne_eq, decide_true, decide_false]
    refine BrW.of (fun hs2 => ?_) (fun hs2 => ?_)
    · obtain ⟨x, hx⟩ := Option.isSome_iff_exists.1 hs2
      rw [hx] at hf ⊢
      rw [hf] at hS
      simp only [↓sxD, ↓sxP0, sxP1, sxF, sxA, sxS, sxK, encs, tys, sxN, sevalprocAttr, ne_eq, decide_true, decide_false]
      exact EndW.fn (by simp only [sxL, encs, kpLL_map, sxN, sevalprocAttr, ne_eq, decide_true, decide_false] <;> (try simp [hS]) <;> (try omega)) (by simp only [sxL, encs, kpLL_map, sxN, sevalprocAttr, ne_eq, decide_true, decide_false] <;> (try simp) <;> (try omega))
    · have hx : searchS cn l n (flatP cn rn) = none := by
        cases hx : searchS cn l n (flatP cn rn) with
        | none => rfl
        | some y => rw [hx] at hs2; cases hs2
      rw [hx] at hf ⊢
      simp only [↓sxD, ↓sxP0, sxP1, sxF, sxA, sxS, sxK, encs, tys, sxN, sevalprocAttr, ne_eq, decide_true, decide_false]
      repeat ((with_reducible refine Vc.go ?_ fun _ => ?_); (focus (first | omega | (simp only [InK]; omega) | (simp [InK]; done) | (simp [InK]; omega))); simp only [↓sxD, ↓sxP0, sxP1, sxF, sxA, sxS, sxK, encs, tys, sxN, sevalprocAttr, ne_eq, decide_true, decide_false])
      refine ⟨n + 1, StLe.auto (by simp only [sxS, sxL, sxF, encs, sxN, sevalprocAttr, ne_eq, decide_true, decide_false] <;> (try simp) <;> (try omega)), ?_, ?_⟩
      · exact ⟨by omega, hf⟩
      · omega
  · have hn2 : n = cn + rn - 1 := by omega
    subst hn2
    rw [Nat.sub_self, firstN] at hf
    rw [hf] at hS
    simp only [↓sxD, ↓sxP0, sxP1, sxF, sxA, sxS, sxK, encs, tys, sxN, sevalprocAttr, ne_eq, decide_true, decide_false]
    exact EndW.fn (by simp only [sxL, encs, kpLL_map, sxN, sevalprocAttr, ne_eq, decide_true, decide_false] <;> (try simp [hS]) <;> (try omega)) (by simp only [sxL, encs, kpLL_map, sxN, sevalprocAttr, ne_eq, decide_true, decide_false] <;> (try simp) <;> (try omega))
end Go.Proofs.Ytfpkpokkgbobmaa
