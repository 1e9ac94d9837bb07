/-
  Chapter 6, walks: signatures.
-/
import Derived.Test.YtfpkpokkgbobmaaVW11
namespace Go.Proofs.Ytfpkpokkgbobmaa
open Go Go.Vx
set_option linter.unusedSimpArgs false
set_option maxRecDepth 20000
def sigE (P Q k : Nat) : Rng := ⟨1 + (k : Int) * Q, min (1 + (k : Int) * Q + Q - 1) P⟩
def sigL (P Q k : Nat) : List Rng := (List.range k).map (sigE P Q)
theorem sigL_succ (P Q k : Nat) : sigL P Q (k + 1) = sigL P Q k ++ [sigE P Q k] := by simp [sigL, List.range_succ]
theorem sigL_length (P Q k : Nat) : (sigL P Q k).length = k := by simp [sigL]
def sigN (P Q : Nat) : Nat := (P + Q - 1) / Q
theorem sigN_eq {P Q k : Nat} (hQ : 0 < Q) (h1 : P ≤ k * Q) (h2 : k = 0 ∨ k * Q < P + Q) (hP : 0 < P) : k = sigN P Q := by
  unfold sigN
  have h3 : k * Q < P + Q := by
    rcases h2 with rfl | h2
    · simp at h1; omega
    · exact h2
  exact ((Nat.div_eq_iff hQ).2 ⟨by omega, by omega⟩).symm
theorem book_ok {b : Book} (h : (bookS b).2 = 0) : 1 ≤ b.pages ∧ b.pages ≤ 4000 ∧ 2 ≤ b.per ∧ b.per ≤ 64 := by
  unfold bookS at h
  by_cases p1 : 1 ≤ b.pages ∧ b.pages ≤ 4000
  · by_cases p2 : 2 ≤ b.per ∧ b.per ≤ 64
    · exact ⟨p1.1, p1.2, p2.1, p2.2⟩
    · rw [if_neg (fun h => h p1), if_pos p2] at h; simp at h
  · rw [if_pos p1] at h; simp at h
theorem sigR_s (x x' : Bool) (P Q : Nat) (pl ca : List Int) (h1 : 1 ≤ P) (h2 : P ≤ 4000) (h3 : 2 ≤ Q) (h4 : Q ≤ 64) : Ctr Try.prog 37 [.agg [(.v (.int .i64 P)), (.v (.int .i64 Q)), .sl x 1 (pl.map eI), .sl x' 1 (ca.map eI)]] (fun rr => rr = ⟨.tup [.sl true 2 ((sigL P Q (sigN P Q)).map eR), (.v (.int .i64 ((sigN P Q : Int) * Q - P)))], []⟩) := by
  refine Ctr.of (rs := [.tmp 2, .tmp 3]) Tok true Try.func37 rfl rfl rfl rfl (by simp [ofDL]) (fun w0 kp => ?_)
  simp only [↓sxD, ↓sxP0, sxP1, sxF, sxA, sxS, sxK, encs, tys, sxN, sevalprocAttr, ne_eq, decide_true, decide_false]
  refine LoopW.comp [1, 4, 5] (by simp only [sxS, sxL, sxF, encs, sxN, sevalprocAttr, ne_eq, decide_true, decide_false] <;> (try simp) <;> (try omega)) ?_
  simp only [sxS, sxF, sxN, sevalprocAttr, ne_eq, decide_true, decide_false]
  refine LoopW.up Tok (fun k : Nat => [(4, .row 0), (5, (.v (.int .i64 (1 + (k : Int) * Q))))]) (fun k => []) (fun k => []) (fun k => [.own 70 2 ((sigL P Q k).map eR)]) (fun k => k = 0 ∨ k * Q < P + Q) (fun k => P - k * Q) (0) (by simp only [sxS, sxL, sxF, encs, sxN, sevalprocAttr, ne_eq, decide_true, decide_false] <;> (try simp [sigL, encs]) <;> (try omega)) ?_ ?_
  · exact .inl rfl
  intro k hk
  have e : 1 + ((k + 1 : Nat) : Int) * Q = 1 + (k : Int) * Q + Q := by rw [Int.natCast_add, Int.add_mul]; omega
  have e2 : (k + 1) * Q = k * Q + Q := Nat.succ_mul k Q
  have e3 : ((k * Q : Nat) : Int) = (k : Int) * Q := by simp
  have hkq : k ≤ k * Q := Nat.le_mul_of_pos_right k (by omega)
  simp only [↓sxD, ↓sxP0, sxP1, sxF, sxA, sxS, sxK, encs, tys, sxN, sevalprocAttr, ne_eq, decide_true, decide_false]
  refine BrW.dec (fun hlt => ?_) (fun hlt => ?_)
  · simp only [↓sxD, ↓sxP0, sxP1, sxF, sxA, sxS, sxK, encs, tys, sxN, sevalprocAttr, ne_eq, decide_true, decide_false]
    repeat ((with_reducible refine Vc.go ?_ fun _ => ?_); (focus (first | omega | (simp only [InK]; omega) | (simp [sigL_length, InK]; done) | (simp [sigL_length, InK]; omega))); simp only [↓sxD, ↓sxP0, sxP1, sxF, sxA, sxS, sxK, encs, tys, sxN, sevalprocAttr, ne_eq, decide_true, decide_false])
    have e4 : [D.v (.int .i64 (1 + (k : Int) * Q)), D.v (.int .i64 (min (P : Int) (1 + (k : Int) * Q + Q - 1)))] = eR (sigE P Q k) := by simp [eR, sigE, Int.min_comm]
    rw [e4]
    refine ⟨k + 1, StLe.auto (by simp only [sxS, sxL, sxF, encs, sxN, sevalprocAttr, ne_eq, decide_true, decide_false] <;> (try simp [sigL_succ, e, Int.add_mul, encs]) <;> (try omega)), ?_, ?_⟩
    · exact .inr (by rw [e2]; omega)
    · rw [e2]; omega
  · simp only [↓sxD, ↓sxP0, sxP1, sxF, sxA, sxS, sxK, encs, tys, sxN, sevalprocAttr, ne_eq, decide_true, decide_false]
    have hN : k = sigN P Q := sigN_eq (by omega) (by omega) hk (by omega)
    have hb : k ≤ 4100 := by omega
    refine DrawW.plan Tok mixed (.q 0 <| .q 1 <| .q 2 <| .q 3 <| .q 4 <| .q 5 <| .q 6 <| .q 7 <| .q 8 <| .q 9 <| .q 10 <| .done) (by kernel_rfl) (by kernel_rfl) ?_
    simp only [↓sxD, ↓sxP0, sxP1, sxF, sxA, sxS, sxK, encs, tys, sxN, sevalprocAttr, ne_eq, decide_true, decide_false]
    have hk2 : k * Q < P + Q := by
      rcases hk with rfl | hk
      · simp; omega
      · exact hk
    repeat ((with_reducible refine Vc.go ?_ fun _ => ?_); (focus (first | omega | (simp only [InK]; omega) | (simp [sigL_length, InK]; done) | (simp [sigL_length, InK]; omega))); simp only [↓sxD, ↓sxP0, sxP1, sxF, sxA, sxS, sxK, encs, tys, sxN, sevalprocAttr, ne_eq, decide_true, decide_false])
    simp only [sigL_length]
    subst hN
    exact EndW.fn (by simp only [sxL, encs, kpLL_map, sxN, sevalprocAttr, ne_eq, decide_true, decide_false] <;> (try simp [kpL, kpD]) <;> (try omega)) (by simp only [sxL, encs, kpLL_map, sxN, sevalprocAttr, ne_eq, decide_true, decide_false] <;> (try simp) <;> (try omega))
def sigS (b : Book) : List Rng × Int × Int :=
  if (bookS b).2 ≠ 0 then ([], 0, (bookS b).2) else (sigL b.pages.toNat b.per.toNat (sigN b.pages.toNat b.per.toNat), (sigN b.pages.toNat b.per.toNat : Int) * b.per.toNat - b.pages.toNat, 0)
theorem sig_s (x x' : Bool) (b : Book) : Ctr Try.prog 34 [.agg [(.v (.int .i64 b.pages)), (.v (.int .i64 b.per)), .sl x 1 (b.plates.map eI), .sl x' 1 (b.cancels.map eI)]] (fun rr => rr = ⟨.tup [.sl true 2 ((sigS b).1.map eR), (.v (.int .i64 ((sigS b).2.1))), (.v (.int .i64 ((sigS b).2.2)))], []⟩) := by
  refine Ctr.of (rs := [.tmp 2, .tmp 3, .tmp 4]) Tok true Try.func34 rfl rfl rfl rfl (by simp [ofDL]) (fun w0 kp => ?_)
  simp only [↓sxD, ↓sxP0, sxP1, sxF, sxA, sxS, sxK, encs, tys, sxN, sevalprocAttr, ne_eq, decide_true, decide_false]
  refine CallI.fn (book_s x x' b) (by simp only [sxA, sxL, sxF, encs, sxN, sevalprocAttr, ne_eq, decide_true, decide_false] <;> (try simp)) ?_
  simp only [↓sxD, ↓sxP0, sxP1, sxF, sxA, sxS, sxK, encs, tys, sxN, sevalprocAttr, ne_eq, decide_true, decide_false]
  refine BrW.dec (fun he => ?_) (fun he => ?_)
  · simp only [↓sxD, ↓sxP0, sxP1, sxF, sxA, sxS, sxK, encs, tys, sxN, sevalprocAttr, ne_eq, decide_true, decide_false]
    exact EndW.fn (by simp only [sxL, encs, kpLL_map, sxN, sevalprocAttr, ne_eq, decide_true, decide_false] <;> (try simp [sigS, he]) <;> (try omega)) (by simp only [sxL, encs, kpLL_map, sxN, sevalprocAttr, ne_eq, decide_true, decide_false] <;> (try simp) <;> (try omega))
  · have he0 : (bookS b).2 = 0 := Decidable.not_not.1 he
    obtain ⟨a1, a2, a3, a4⟩ := book_ok he0
    obtain ⟨p, q, pl, ca⟩ := b
    simp only [] at a1 a2 a3 a4
    obtain ⟨P, rfl⟩ : ∃ P : Nat, p = P := ⟨p.toNat, by omega⟩
    obtain ⟨Q, rfl⟩ : ∃ Q : Nat, q = Q := ⟨q.toNat, by omega⟩
    simp only [↓sxD, ↓sxP0, sxP1, sxF, sxA, sxS, sxK, encs, tys, sxN, sevalprocAttr, ne_eq, decide_true, decide_false]
    refine LoopW.comp [1, 7, 8] (by simp only [sxS, sxL, sxF, encs, sxN, sevalprocAttr, ne_eq, decide_true, decide_false] <;> (try simp) <;> (try omega)) ?_
    simp only [sxS, sxF, sxN, sevalprocAttr, ne_eq, decide_true, decide_false]
    refine LoopW.up Tok (fun k : Nat => [(7, .row 0), (8, (.v (.int .i64 (1 + (k : Int) * Q))))]) (fun k => []) (fun k => []) (fun k => [.own 70 2 ((sigL P Q k).map eR)]) (fun k => k = 0 ∨ k * Q < P + Q) (fun k => P - k * Q) (0) (by simp only [sxS, sxL, sxF, encs, sxN, sevalprocAttr, ne_eq, decide_true, decide_false] <;> (try simp [sigL, encs]) <;> (try omega)) ?_ ?_
    · exact .inl rfl
    intro k hk
    have e : 1 + ((k + 1 : Nat) : Int) * Q = 1 + (k : Int) * Q + Q := by rw [Int.natCast_add, Int.add_mul]; omega
    have e2 : (k + 1) * Q = k * Q + Q := Nat.succ_mul k Q
    have e3 : ((k * Q : Nat) : Int) = (k : Int) * Q := by simp
    have hkq : k ≤ k * Q := Nat.le_mul_of_pos_right k (by omega)
    simp only [↓sxD, ↓sxP0, sxP1, sxF, sxA, sxS, sxK, encs, tys, sxN, sevalprocAttr, ne_eq, decide_true, decide_false]
    refine BrW.dec (fun hlt => ?_) (fun hlt => ?_)
    · simp only [↓sxD, ↓sxP0, sxP1, sxF, sxA, sxS, sxK, encs, tys, sxN, sevalprocAttr, ne_eq, decide_true, decide_false]
      repeat ((with_reducible refine Vc.go ?_ fun _ => ?_); (focus (first | omega | (simp only [InK]; omega) | (simp [sigL_length, InK]; done) | (simp [sigL_length, InK]; omega))); simp only [↓sxD, ↓sxP0, sxP1, sxF, sxA, sxS, sxK, encs, tys, sxN, sevalprocAttr, ne_eq, decide_true, decide_false])
      have e4 : [D.v (.int .i64 (1 + (k : Int) * Q)), D.v (.int .i64 (min (1 + (k : Int) * Q + Q - 1) (P : Int)))] = eR (sigE P Q k) := by simp [eR, sigE]
      rw [e4]
      refine ⟨k + 1, StLe.auto (by simp only [sxS, sxL, sxF, encs, sxN, sevalprocAttr, ne_eq, decide_true, decide_false] <;> (try simp [sigL_succ, e, Int.add_mul, encs]) <;> (try omega)), ?_, ?_⟩
      · exact .inr (by rw [e2]; omega)
      · rw [e2]; omega
    · simp only [↓sxD, ↓sxP0, sxP1, sxF, sxA, sxS, sxK, encs, tys, sxN, sevalprocAttr, ne_eq, decide_true, decide_false]
      have hN : k = sigN P Q := sigN_eq (by omega) (by omega) hk (by omega)
      have hk2 : k * Q < P + Q := by
        rcases hk with rfl | hk
        · simp; omega
        · exact hk
      refine DrawW.plan Tok mixed (.q 0 <| .q 1 <| .q 2 <| .q 3 <| .q 4 <| .q 5 <| .q 6 <| .q 7 <| .q 8 <| .done) (by kernel_rfl) (by kernel_rfl) ?_
      simp only [↓sxD, ↓sxP0, sxP1, sxF, sxA, sxS, sxK, encs, tys, sxN, sevalprocAttr, ne_eq, decide_true, decide_false]
      repeat ((with_reducible refine Vc.go ?_ fun _ => ?_); (focus (first | omega | (simp only [InK]; omega) | (simp [InK]; done) | (simp [InK]; omega))); simp only [↓sxD, ↓sxP0, sxP1, sxF, sxA, sxS, sxK, encs, tys, sxN, sevalprocAttr, ne_eq, decide_true, decide_false])
      have e5 : (sigS ⟨P, Q, pl, ca⟩) = (sigL P Q k, (k : Int) * Q - P, 0) := by
        unfold sigS
        rw [if_neg (by simp [he0])]
        simp [← hN]
      rw [e5]
      exact EndW.fn (by simp only [sxL, encs, kpLL_map, sxN, sevalprocAttr, ne_eq, decide_true, decide_false] <;> (try simp [kpL, kpD]) <;> (try omega)) (by simp only [sxL, encs, kpLL_map, sxN, sevalprocAttr, ne_eq, decide_true, decide_false] <;> (try simp) <;> (try omega))
end Go.Proofs.Ytfpkpokkgbobmaa
