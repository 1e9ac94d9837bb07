/-
  Chapter 6, walks: the law of books.
-/
import Derived.Test.YtfpkpokkgbobmaaVP6Books
import Derived.Test.YtfpkpokkgbobmaaVW14
namespace Go.Proofs.Ytfpkpokkgbobmaa
open Go Go.Vx
set_option linter.unusedSimpArgs false
set_option maxRecDepth 20000
theorem bookC_s (x x' : Bool) (p q : Int) (pl ca : List Int) (hp : pl.length ≤ 1000) (hc : ca.length ≤ 1000) : Ctr Try.prog 33 [.agg [(.v (.int .i64 p)), (.v (.int .i64 q)), .sl x 1 (pl.map eI), .sl x' 1 (ca.map eI)]] (fun rr => rr = ⟨.agg [(.v (.int .i64 p)), (.v (.int .i64 q)), .row 0, .row 1], [.own 3 1 (pl.map eI), .own 3 1 (ca.map eI)]⟩) := by
  refine Ctr.of (rs := [.cell 2 55]) Tok false Try.func33 rfl rfl rfl rfl (by simp [ofDL]) (fun w0 kp => ?_)
  simp only [↓sxD, ↓sxP0, sxP1, sxF, sxA, sxS, sxK, encs, tys, sxN, sevalprocAttr, ne_eq, decide_true, decide_false]
  refine DrawW.plan Tok mixed (.q 0 <| .q 1 <| .q 3 <| .q 4 <| .e 2 [4] <| .q 6 <| .e 5 [] <| .e 7 [] <| .q 8 <| .e 9 [] <| .done) (by kernel_rfl) (by kernel_rfl) ?_
  simp only [↓sxD, ↓sxP0, sxP1, sxF, sxA, sxS, sxK, encs, tys, sxN, sevalprocAttr, ne_eq, decide_true, decide_false]
  refine CallI.ctr (copyInts_s x pl (by omega)) (by simp only [sxA, sxL, sxF, encs, sxN, sevalprocAttr, ne_eq, decide_true, decide_false] <;> (try simp)) ?_
  rintro _ rfl
  simp only [↓sxD, ↓sxP0, sxP1, sxF, sxA, sxS, sxK, encs, tys, sxN, sevalprocAttr, ne_eq, decide_true, decide_false]
  refine CallI.ctr (copyInts_s x' ca (by omega)) (by simp only [sxA, sxL, sxF, encs, sxN, sevalprocAttr, ne_eq, decide_true, decide_false] <;> (try simp)) ?_
  rintro _ rfl
  simp only [↓sxD, ↓sxP0, sxP1, sxF, sxA, sxS, sxK, encs, tys, sxN, sevalprocAttr, ne_eq, decide_true, decide_false]
  exact EndW.r [some 0, some 1] (by simp) (by simp only [sxL, sxF, encs, kpLL_map, sxN, sevalprocAttr, ne_eq, decide_true, decide_false] <;> simp [kpL, kpD]) (by simp only [sxL, sxF, encs, kpLL_map, sxN, sevalprocAttr, ne_eq, decide_true, decide_false] <;> simp [kpL, kpD]) (by simp only [sxL, sxF, encs, kpLL_map, sxN, sevalprocAttr, ne_eq, decide_true, decide_false] <;> simp [kpL, kpD]) (by simp only [sxL, sxF, encs, kpLL_map, sxN, sevalprocAttr, ne_eq, decide_true, decide_false] <;> simp [kpL, kpD])
theorem pgs_b (l : List Int) : 0 ≤ pgs1 l ∧ pgs1 l ≤ (l.length : Nat) := by
  have := List.length_filter_le (fun y : Int => decide (y ≠ -1)) l
  unfold pgs1; omega
theorem pls_b (l : List Int) : 0 ≤ pls1 l ∧ pls1 l ≤ (l.length : Nat) := by
  have := List.length_filter_le (fun y : Int => decide (y = -1)) l
  unfold pls1; omega
set_option maxHeartbeats 2000000 in
theorem booksLaw_s (x x' : Bool) (b : Book) : Ctr Try.prog 6 [.agg [(.v (.int .i64 b.pages)), (.v (.int .i64 b.per)), .sl x 1 (b.plates.map eI), .sl x' 1 (b.cancels.map eI)]] (fun rr => rr = ⟨(.v (.bool (true))), []⟩) := by
  refine Ctr.of (rs := [.tmp 2]) Tok true Try.func6 rfl rfl rfl rfl (by simp [ofDL]) (fun w0 kp => ?_)
  simp only [↓sxD, ↓sxP0, sxP1, sxF, sxA, sxS, sxK, encs, tys, sxN, sevalprocAttr, ne_eq, decide_true, decide_false]
  refine CallI.fn (awake_s) (by simp only [sxA, sxL, sxF, encs, sxN, sevalprocAttr, ne_eq, decide_true, decide_false] <;> (try simp)) ?_
  simp only [↓sxD, ↓sxP0, sxP1, sxF, sxA, sxS, sxK, encs, tys, sxN, sevalprocAttr, ne_eq, decide_true, decide_false]
  refine CallI.fn (withinB_s b.pages 501 4000) (by simp only [sxA, sxL, sxF, encs, sxN, sevalprocAttr, ne_eq, decide_true, decide_false] <;> (try simp)) ?_
  simp only [↓sxD, ↓sxP0, sxP1, sxF, sxA, sxS, sxK, encs, tys, sxN, sevalprocAttr, ne_eq, decide_true, decide_false]
  refine BrW.dec (fun g1 => ?_) (fun g1 => ?_)
  · simp only [↓sxD, ↓sxP0, sxP1, sxF, sxA, sxS, sxK, encs, tys, sxN, sevalprocAttr, ne_eq, decide_true, decide_false]
    exact EndW.fn (by simp only [sxL, encs, kpLL_map, sxN, sevalprocAttr, ne_eq, decide_true, decide_false] <;> (try simp) <;> (try omega)) (by simp only [sxL, encs, kpLL_map, sxN, sevalprocAttr, ne_eq, decide_true, decide_false] <;> (try simp) <;> (try omega))
  · simp only [↓sxD, ↓sxP0, sxP1, sxF, sxA, sxS, sxK, encs, tys, sxN, sevalprocAttr, ne_eq, decide_true, decide_false]
    refine BrW.dec (fun g2 => ?_) (fun g2 => ?_)
    · simp only [↓sxD, ↓sxP0, sxP1, sxF, sxA, sxS, sxK, encs, tys, sxN, sevalprocAttr, ne_eq, decide_true, decide_false]
      exact EndW.fn (by simp only [sxL, encs, kpLL_map, sxN, sevalprocAttr, ne_eq, decide_true, decide_false] <;> (try simp) <;> (try omega)) (by simp only [sxL, encs, kpLL_map, sxN, sevalprocAttr, ne_eq, decide_true, decide_false] <;> (try simp) <;> (try omega))
    · simp only [↓sxD, ↓sxP0, sxP1, sxF, sxA, sxS, sxK, encs, tys, sxN, sevalprocAttr, ne_eq, decide_true, decide_false]
      refine BrW.dec (fun g3 => ?_) (fun g3 => ?_)
      · simp only [↓sxD, ↓sxP0, sxP1, sxF, sxA, sxS, sxK, encs, tys, sxN, sevalprocAttr, ne_eq, decide_true, decide_false]
        exact EndW.fn (by simp only [sxL, encs, kpLL_map, sxN, sevalprocAttr, ne_eq, decide_true, decide_false] <;> (try simp) <;> (try omega)) (by simp only [sxL, encs, kpLL_map, sxN, sevalprocAttr, ne_eq, decide_true, decide_false] <;> (try simp) <;> (try omega))
      · simp only [↓sxD, ↓sxP0, sxP1, sxF, sxA, sxS, sxK, encs, tys, sxN, sevalprocAttr, ne_eq, decide_true, decide_false]
        have hp : b.plates.length ≤ 45 := by omega
        have hc : b.cancels.length ≤ 45 := by omega
        refine CallI.ctr (bookC_s x x' b.pages b.per b.plates b.cancels (by omega) (by omega)) (by simp only [sxA, sxL, sxF, encs, sxN, sevalprocAttr, ne_eq, decide_true, decide_false] <;> (try simp)) ?_
        rintro _ rfl
        simp only [↓sxD, ↓sxP0, sxP1, sxF, sxA, sxS, sxK, encs, tys, sxN, sevalprocAttr, ne_eq, decide_true, decide_false]
        refine CallI.fn (book_s false false b) (by simp only [sxA, sxL, sxF, encs, sxN, sevalprocAttr, ne_eq, decide_true, decide_false] <;> (try simp)) ?_
        simp only [↓sxD, ↓sxP0, sxP1, sxF, sxA, sxS, sxK, encs, tys, sxN, sevalprocAttr, ne_eq, decide_true, decide_false]
        refine CallI.ctr (bookC_s x x' b.pages b.per b.plates b.cancels (by omega) (by omega)) (by simp only [sxA, sxL, sxF, encs, sxN, sevalprocAttr, ne_eq, decide_true, decide_false] <;> (try simp)) ?_
        rintro _ rfl
        simp only [↓sxD, ↓sxP0, sxP1, sxF, sxA, sxS, sxK, encs, tys, sxN, sevalprocAttr, ne_eq, decide_true, decide_false]
        refine CallI.fn (sig_s false false b) (by simp only [sxA, sxL, sxF, encs, sxN, sevalprocAttr, ne_eq, decide_true, decide_false] <;> (try simp)) ?_
        simp only [↓sxD, ↓sxP0, sxP1, sxF, sxA, sxS, sxK, encs, tys, sxN, sevalprocAttr, ne_eq, decide_true, decide_false]
        refine CallI.ctr (bookC_s x x' b.pages b.per b.plates b.cancels (by omega) (by omega)) (by simp only [sxA, sxL, sxF, encs, sxN, sevalprocAttr, ne_eq, decide_true, decide_false] <;> (try simp)) ?_
        rintro _ rfl
        simp only [↓sxD, ↓sxP0, sxP1, sxF, sxA, sxS, sxK, encs, tys, sxN, sevalprocAttr, ne_eq, decide_true, decide_false]
        refine CallI.fn (bound_s false false b (by omega) (by omega)) (by simp only [sxA, sxL, sxF, encs, sxN, sevalprocAttr, ne_eq, decide_true, decide_false] <;> (try simp)) ?_
        simp only [↓sxD, ↓sxP0, sxP1, sxF, sxA, sxS, sxK, encs, tys, sxN, sevalprocAttr, ne_eq, decide_true, decide_false]
        refine CallI.fn (bookR_s x x' b) (by simp only [sxA, sxL, sxF, encs, sxN, sevalprocAttr, ne_eq, decide_true, decide_false] <;> (try simp)) ?_
        simp only [↓sxD, ↓sxP0, sxP1, sxF, sxA, sxS, sxK, encs, tys, sxN, sevalprocAttr, ne_eq, decide_true, decide_false]
        refine BrW.ff (by simp) ?_
        simp only [↓sxD, ↓sxP0, sxP1, sxF, sxA, sxS, sxK, encs, tys, sxN, sevalprocAttr, ne_eq, decide_true, decide_false]
        refine BrW.ff (by simp) ?_
        simp only [↓sxD, ↓sxP0, sxP1, sxF, sxA, sxS, sxK, encs, tys, sxN, sevalprocAttr, ne_eq, decide_true, decide_false]
        refine BrW.dec (fun he => ?_) (fun he => ?_)
        · have h1 : sigS b = ([], 0, (bookS b).2) := by unfold sigS; rw [if_pos he]
          have h2 : bndS b = ([], (bookS b).2) := by unfold bndS; rw [if_pos he]
          rw [h1, h2]
          simp only [↓sxD, ↓sxP0, sxP1, sxF, sxA, sxS, sxK, encs, tys, sxN, sevalprocAttr, ne_eq, decide_true, decide_false]
          repeat ((with_reducible refine Vc.go ?_ fun _ => ?_); (focus (first | omega | (simp only [InK]; omega) | (simp [InK]; done) | (simp [InK]; omega))); simp only [↓sxD, ↓sxP0, sxP1, sxF, sxA, sxS, sxK, encs, tys, sxN, sevalprocAttr, ne_eq, decide_true, decide_false])
          exact EndW.fn (by simp only [sxL, encs, kpLL_map, sxN, sevalprocAttr, ne_eq, decide_true, decide_false] <;> (try simp) <;> (try omega)) (by simp only [sxL, encs, kpLL_map, sxN, sevalprocAttr, ne_eq, decide_true, decide_false] <;> (try simp) <;> (try omega))
        · have he0 : (bookS b).2 = 0 := Decidable.not_not.1 he
          obtain ⟨a1, a2, a3, a4⟩ := book_ok he0
          obtain ⟨c1, c2⟩ := book_all he0
          have h1 : sigS b = (sigL b.pages.toNat b.per.toNat (sigN b.pages.toNat b.per.toNat), (sigN b.pages.toNat b.per.toNat : Int) * b.per.toNat - b.pages.toNat, 0) := by unfold sigS; rw [if_neg he]
          have h2 : bndS b = (bndK b.plates b.cancels (b.pages.toNat + 1), 0) := by unfold bndS; rw [if_neg he]
          rw [h1, h2]
          clear h1 h2 he he0
          obtain ⟨p, q, pl, ca⟩ := b
          simp only [] at a1 a2 a3 a4 c1 c2 hp hc g1 ⊢
          obtain ⟨P, rfl⟩ : ∃ P : Nat, p = P := ⟨p.toNat, by omega⟩
          obtain ⟨Q, rfl⟩ : ∃ Q : Nat, q = Q := ⟨q.toNat, by omega⟩
          simp only [Int.toNat_natCast]
          have h0 : ¬ (0 : Int) ∈ ca := fun h => by have := c2 0 h; omega
          obtain ⟨n1, n2, n3⟩ := sigN_of (P := P) (Q := Q) (by omega) (by omega)
          have n4 : ((sigN P Q * Q : Nat) : Int) = (sigN P Q : Int) * Q := by push_cast; rfl
          have n5 : sigN P Q ≤ sigN P Q * Q := Nat.le_mul_of_pos_right _ (by omega)
          simp only [↓sxD, ↓sxP0, sxP1, sxF, sxA, sxS, sxK, encs, tys, sxN, sevalprocAttr, ne_eq, decide_true, decide_false]
          refine CallI.fn (sigR_s x x' P Q pl ca (by omega) (by omega) (by omega) (by omega)) (by simp only [sxA, sxL, sxF, encs, sxN, sevalprocAttr, ne_eq, decide_true, decide_false] <;> (try simp)) ?_
          simp only [↓sxD, ↓sxP0, sxP1, sxF, sxA, sxS, sxK, encs, tys, sxN, sevalprocAttr, ne_eq, decide_true, decide_false]
          refine BrW.ff (by simp) ?_
          simp only [↓sxD, ↓sxP0, sxP1, sxF, sxA, sxS, sxK, encs, tys, sxN, sevalprocAttr, ne_eq, decide_true, decide_false]
          refine CallI.fn (ranges_s true true (sigL P Q (sigN P Q)) (sigL P Q (sigN P Q)) (by rw [sigL_length]; omega)) (by simp only [sxA, sxL, sxF, encs, sxN, sevalprocAttr, ne_eq, decide_true, decide_false] <;> (try simp)) ?_
          simp only [↓sxD, ↓sxP0, sxP1, sxF, sxA, sxS, sxK, encs, tys, sxN, sevalprocAttr, ne_eq, decide_true, decide_false]
          refine BrW.ff (by simp) ?_
          simp only [↓sxD, ↓sxP0, sxP1, sxF, sxA, sxS, sxK, encs, tys, sxN, sevalprocAttr, ne_eq, decide_true, decide_false]
          refine BrW.ff (by simp) ?_
          simp only [↓sxD, ↓sxP0, sxP1, sxF, sxA, sxS, sxK, encs, tys, sxN, sevalprocAttr, ne_eq, decide_true, decide_false]
          refine CallI.fn (boundR_s x x' P Q pl ca (by omega) (by omega) h0 (by omega)) (by simp only [sxA, sxL, sxF, encs, sxN, sevalprocAttr, ne_eq, decide_true, decide_false] <;> (try simp)) ?_
          simp only [↓sxD, ↓sxP0, sxP1, sxF, sxA, sxS, sxK, encs, tys, sxN, sevalprocAttr, ne_eq, decide_true, decide_false]
          have hbl := bndK_len pl ca (P + 1)
          have hbl2 : (P + 1) * (1 + pl.length) ≤ 4001 * 1001 := Nat.mul_le_mul (by omega) (by omega)
          refine CallI.fn (ints_s true true (bndK pl ca (P + 1)) (bndK pl ca (P + 1)) (by omega)) (by simp only [sxA, sxL, sxF, encs, sxN, sevalprocAttr, ne_eq, decide_true, decide_false] <;> (try simp)) ?_
          simp only [↓sxD, ↓sxP0, sxP1, sxF, sxA, sxS, sxK, encs, tys, sxN, sevalprocAttr, ne_eq, decide_true, decide_false]
          obtain ⟨x1, x2⟩ := bnd_ok (pl := pl) h0 P
          have x3 := bnd_all (ca := ca) c1
          generalize hN : sigN P Q = N at *
          generalize bndK pl ca (P + 1) = xs at *
          have hLl := sigL_length P Q N
          refine LoopW.comp [1, 5, 6, 8, 14, 15] (by simp only [sxS, sxL, sxF, encs, sxN, sevalprocAttr, ne_eq, decide_true, decide_false] <;> (try simp) <;> (try omega)) ?_
          simp only [sxS, sxF, sxN, sevalprocAttr, ne_eq, decide_true, decide_false]
          refine LoopW.up Tok (fun k : Nat => [(14, (.v (.int .i64 (min (1 + (k : Int) * Q) (P + 1))))), (15, (.v (.int .i64 k)))]) (fun k => []) (fun k => []) (fun k => []) (fun k => k ≤ N) (fun k => N - k) (0) (by simp only [sxS, sxL, sxF, encs, sxN, sevalprocAttr, ne_eq, decide_true, decide_false] <;> (try simp [sigL_length, encs]) <;> (try omega)) ?_ ?_
          · omega
          rintro k hk
          have e3 : ((k * Q : Nat) : Int) = (k : Int) * Q := by push_cast; rfl
          simp only [↓sxD, ↓sxP0, sxP1, sxF, sxA, sxS, sxK, encs, tys, sxN, sevalprocAttr, ne_eq, decide_true, decide_false]
          refine BrW.dec (fun hlt => ?_) (fun hlt => ?_)
          · have hk2 : k < N := by omega
            have hk3 := n3 k hk2
            have hk4 : k < (sigL P Q N).length := by omega
            have hnx : min (1 + (k : Int) * Q) (P + 1) = 1 + (k : Int) * Q := by omega
            have hg := sigL_get hk4
            have hge : (sigL P Q N)[k] = ⟨1 + (k : Int) * Q, min (1 + (k : Int) * Q + Q - 1) P⟩ := hg
            rw [hnx]
            simp only [↓sxD, ↓sxP0, sxP1, sxF, sxA, sxS, sxK, encs, tys, sxN, sevalprocAttr, ne_eq, decide_true, decide_false]
            refine DrawW.plan Tok mixed (.q 0 <| .q 1 <| .q 2 <| .q 3 <| .q 4 <| .q 5 <| .q 6 <| .q 7 <| .q 8 <| .q 9 <| .q 10 <| .q 11 <| .q 12 <| .q 13 <| .q 14 <| .q 15 <| .q 16 <| .q 17 <| .q 18 <| .q 19 <| .q 20 <| .q 21 <| .q 22 <| .q 23 <| .q 24 <| .q 25 <| .q 26 <| .q 27 <| .q 28 <| .q 29 <| .q 30 <| .q 31 <| .done) (by kernel_rfl) (by kernel_rfl) ?_
            simp only [↓sxD, ↓sxP0, sxP1, sxF, sxA, sxS, sxK, encs, tys, sxN, sevalprocAttr, ne_eq, decide_true, decide_false]
            repeat ((with_reducible refine Vc.go ?_ fun _ => ?_); (focus (first | omega | (simp only [InK]; omega) | (simp [InK]; done) | (simp [InK]; omega))); simp only [↓sxD, ↓sxP0, sxP1, sxF, sxA, sxS, sxK, encs, tys, sxN, sevalprocAttr, ne_eq, decide_true, decide_false])
            refine IxW.nat hk4 ?_
            rw [hge]
            simp only [↓sxD, ↓sxP0, sxP1, sxF, sxA, sxS, sxK, encs, tys, sxN, sevalprocAttr, ne_eq, decide_true, decide_false]
            refine BrW.ff (by simp) ?_
            simp only [↓sxD, ↓sxP0, sxP1, sxF, sxA, sxS, sxK, encs, tys, sxN, sevalprocAttr, ne_eq, decide_true, decide_false]
            repeat ((with_reducible refine Vc.go ?_ fun _ => ?_); (focus (first | omega | (simp only [InK]; omega) | (simp [InK]; done) | (simp [InK]; omega))); simp only [↓sxD, ↓sxP0, sxP1, sxF, sxA, sxS, sxK, encs, tys, sxN, sevalprocAttr, ne_eq, decide_true, decide_false])
            refine IxW.nat hk4 ?_
            rw [hge]
            simp only [↓sxD, ↓sxP0, sxP1, sxF, sxA, sxS, sxK, encs, tys, sxN, sevalprocAttr, ne_eq, decide_true, decide_false]
            refine BrW.no (by omega) ?_
            simp only [↓sxD, ↓sxP0, sxP1, sxF, sxA, sxS, sxK, encs, tys, sxN, sevalprocAttr, ne_eq, decide_true, decide_false]
            repeat ((with_reducible refine Vc.go ?_ fun _ => ?_); (focus (first | omega | (simp only [InK]; omega) | (simp [InK]; done) | (simp [InK]; omega))); simp only [↓sxD, ↓sxP0, sxP1, sxF, sxA, sxS, sxK, encs, tys, sxN, sevalprocAttr, ne_eq, decide_true, decide_false])
            refine IxW.nat hk4 ?_
            rw [hge]
            simp only [↓sxD, ↓sxP0, sxP1, sxF, sxA, sxS, sxK, encs, tys, sxN, sevalprocAttr, ne_eq, decide_true, decide_false]
            repeat ((with_reducible refine Vc.go ?_ fun _ => ?_); (focus (first | omega | (simp only [InK]; omega) | (simp [InK]; done) | (simp [InK]; omega))); simp only [↓sxD, ↓sxP0, sxP1, sxF, sxA, sxS, sxK, encs, tys, sxN, sevalprocAttr, ne_eq, decide_true, decide_false])
            refine IxW.nat hk4 ?_
            rw [hge]
            simp only [↓sxD, ↓sxP0, sxP1, sxF, sxA, sxS, sxK, encs, tys, sxN, sevalprocAttr, ne_eq, decide_true, decide_false]
            repeat ((with_reducible refine Vc.go ?_ fun _ => ?_); (focus (first | omega | (simp only [InK]; omega) | (simp [InK]; done) | (simp [InK]; omega))); simp only [↓sxD, ↓sxP0, sxP1, sxF, sxA, sxS, sxK, encs, tys, sxN, sevalprocAttr, ne_eq, decide_true, decide_false])
            refine BrW.no (by omega) ?_
            simp only [↓sxD, ↓sxP0, sxP1, sxF, sxA, sxS, sxK, encs, tys, sxN, sevalprocAttr, ne_eq, decide_true, decide_false]
            repeat ((with_reducible refine Vc.go ?_ fun _ => ?_); (focus (first | omega | (simp only [InK]; omega) | (simp [InK]; done) | (simp [InK]; omega))); simp only [↓sxD, ↓sxP0, sxP1, sxF, sxA, sxS, sxK, encs, tys, sxN, sevalprocAttr, ne_eq, decide_true, decide_false])
            refine IxW.nat hk4 ?_
            rw [hge]
            simp only [↓sxD, ↓sxP0, sxP1, sxF, sxA, sxS, sxK, encs, tys, sxN, sevalprocAttr, ne_eq, decide_true, decide_false]
            repeat ((with_reducible refine Vc.go ?_ fun _ => ?_); (focus (first | omega | (simp only [InK]; omega) | (simp [InK]; done) | (simp [InK]; omega))); simp only [↓sxD, ↓sxP0, sxP1, sxF, sxA, sxS, sxK, encs, tys, sxN, sevalprocAttr, ne_eq, decide_true, decide_false])
            have hnx2 : min (1 + (k : Int) * Q + Q - 1) (P : Int) + 1 = min (1 + ((k + 1 : Nat) : Int) * Q) (P + 1) := by
              have : ((k + 1 : Nat) : Int) * Q = (k : Int) * Q + Q := by push_cast; rw [Int.add_mul, Int.one_mul]
              omega
            rw [hnx2]
            refine ⟨k + 1, StLe.auto (by simp only [sxS, sxL, sxF, encs, sxN, sevalprocAttr, ne_eq, decide_true, decide_false] <;> (try simp) <;> (try omega)), ?_, ?_⟩
            · omega
            · omega
          · have hkN : k = N := by omega
            subst hkN
            have hend : min (1 + (k : Int) * Q) ((P : Int) + 1) = P + 1 := by omega
            rw [hend]
            simp only [↓sxD, ↓sxP0, sxP1, sxF, sxA, sxS, sxK, encs, tys, sxN, sevalprocAttr, ne_eq, decide_true, decide_false]
            refine LoopW.comp [1, 6, 8, 14, 16, 17, 18] (by simp only [sxS, sxL, sxF, encs, sxN, sevalprocAttr, ne_eq, decide_true, decide_false] <;> (try simp) <;> (try omega)) ?_
            simp only [sxS, sxF, sxN, sevalprocAttr, ne_eq, decide_true, decide_false]
            refine LoopW.up Tok (fun i : Nat => [(16, (.v (.int .i64 (pgs1 (xs.take i))))), (17, (.v (.int .i64 (pls1 (xs.take i))))), (18, (.v (.int .i64 i)))]) (fun i => []) (fun i => []) (fun i => []) (fun i => i ≤ xs.length ∧ okX ca (pgs1 (xs.take i)) (xs.drop i)) (fun i => xs.length - i) (0) (by simp only [sxS, sxL, sxF, encs, sxN, sevalprocAttr, ne_eq, decide_true, decide_false] <;> (try simp [pgs1, pls1, encs]) <;> (try omega)) ?_ ?_
            · exact ⟨by omega, by simpa [pgs1] using x1⟩
            rintro i ⟨hi, hok⟩
            have pb := pgs_b (xs.take i)
            have qb := pls_b (xs.take i)
            have hti : (xs.take i).length ≤ xs.length := by simp; omega
            simp only [↓sxD, ↓sxP0, sxP1, sxF, sxA, sxS, sxK, encs, tys, sxN, sevalprocAttr, ne_eq, decide_true, decide_false]
            refine BrW.dec (fun hlt3 => ?_) (fun hlt3 => ?_)
            · have hi2 : i < xs.length := by omega
              rw [List.drop_eq_getElem_cons hi2] at hok
              simp only [okX] at hok
              simp only [↓sxD, ↓sxP0, sxP1, sxF, sxA, sxS, sxK, encs, tys, sxN, sevalprocAttr, ne_eq, decide_true, decide_false]
              refine IxW.nat hi2 ?_
              simp only [↓sxD, ↓sxP0, sxP1, sxF, sxA, sxS, sxK, encs, tys, sxN, sevalprocAttr, ne_eq, decide_true, decide_false]
              refine BrW.dec (fun hm => ?_) (fun hm => ?_)
              · have e1 : pgs1 (xs.take (i + 1)) = pgs1 (xs.take i) := by
                  rw [List.take_succ_eq_append_getElem hi2, pgs1_app, hm]; simp [pgs1]
                have e2 : pls1 (xs.take (i + 1)) = pls1 (xs.take i) + 1 := by
                  rw [List.take_succ_eq_append_getElem hi2, pls1_app, hm]; rfl
                rw [if_pos hm] at hok
                simp only [↓sxD, ↓sxP0, sxP1, sxF, sxA, sxS, sxK, encs, tys, sxN, sevalprocAttr, ne_eq, decide_true, decide_false]
                repeat ((with_reducible refine Vc.go ?_ fun _ => ?_); (focus (first | omega | (simp only [InK]; omega) | (simp [InK]; done) | (simp [InK]; omega))); simp only [↓sxD, ↓sxP0, sxP1, sxF, sxA, sxS, sxK, encs, tys, sxN, sevalprocAttr, ne_eq, decide_true, decide_false])
                rw [← e2]
                refine ⟨i + 1, StLe.auto (by simp only [sxS, sxL, sxF, encs, sxN, sevalprocAttr, ne_eq, decide_true, decide_false] <;> (try simp [e1, encs]) <;> (try omega)), ?_, ?_⟩
                · exact ⟨hi2, by rw [e1]; exact hok⟩
                · omega
              · rw [if_neg hm] at hok
                obtain ⟨ho1, ho2⟩ := hok
                have e1 : pgs1 (xs.take (i + 1)) = pgs1 (xs.take i) + 1 := by
                  rw [List.take_succ_eq_append_getElem hi2, pgs1_app]
                  have : pgs1 [xs[i]] = 1 := by unfold pgs1; rw [List.filter_cons_of_pos (by simpa using hm)]; rfl
                  rw [this]
                have e2 : pls1 (xs.take (i + 1)) = pls1 (xs.take i) := by
                  rw [List.take_succ_eq_append_getElem hi2, pls1_app]
                  have : pls1 [xs[i]] = 0 := by unfold pls1; rw [List.filter_cons_of_neg (by simpa using hm)]; rfl
                  rw [this, Int.add_zero]
                rw [← e1] at ho1 ho2
                simp only [↓sxD, ↓sxP0, sxP1, sxF, sxA, sxS, sxK, encs, tys, sxN, sevalprocAttr, ne_eq, decide_true, decide_false]
                repeat ((with_reducible refine Vc.go ?_ fun _ => ?_); (focus (first | omega | (simp only [InK]; omega) | (simp [InK]; done) | (simp [InK]; omega))); simp only [↓sxD, ↓sxP0, sxP1, sxF, sxA, sxS, sxK, encs, tys, sxN, sevalprocAttr, ne_eq, decide_true, decide_false])
                rw [← e1]
                refine IxW.nat hi2 ?_
                simp only [↓sxD, ↓sxP0, sxP1, sxF, sxA, sxS, sxK, encs, tys, sxN, sevalprocAttr, ne_eq, decide_true, decide_false]
                refine BrW.dec (fun hne => ?_) (fun hne => ?_)
                · have hz : xs[i] = 0 ∧ pgs1 (xs.take (i + 1)) ∈ ca := by
                    rcases ho1 with h | h
                    · exact absurd h hne
                    · exact h
                  simp only [↓sxD, ↓sxP0, sxP1, sxF, sxA, sxS, sxK, encs, tys, sxN, sevalprocAttr, ne_eq, decide_true, decide_false]
                  refine IxW.nat hi2 ?_
                  simp only [↓sxD, ↓sxP0, sxP1, sxF, sxA, sxS, sxK, encs, tys, sxN, sevalprocAttr, ne_eq, decide_true, decide_false]
                  refine BrW.no (fun h => h hz.1) ?_
                  simp only [↓sxD, ↓sxP0, sxP1, sxF, sxA, sxS, sxK, encs, tys, sxN, sevalprocAttr, ne_eq, decide_true, decide_false]
                  refine CallI.fn (has_s x' ca (pgs1 (xs.take (i + 1))) (by omega)) (by simp only [sxA, sxL, sxF, encs, sxN, sevalprocAttr, ne_eq, decide_true, decide_false] <;> (try simp)) ?_
                  simp only [↓sxD, ↓sxP0, sxP1, sxF, sxA, sxS, sxK, encs, tys, sxN, sevalprocAttr, ne_eq, decide_true, decide_false]
                  refine BrW.yes hz.2 ?_
                  simp only [↓sxD, ↓sxP0, sxP1, sxF, sxA, sxS, sxK, encs, tys, sxN, sevalprocAttr, ne_eq, decide_true, decide_false]
                  repeat ((with_reducible refine Vc.go ?_ fun _ => ?_); (focus (first | omega | (simp only [InK]; omega) | (simp [InK]; done) | (simp [InK]; omega))); simp only [↓sxD, ↓sxP0, sxP1, sxF, sxA, sxS, sxK, encs, tys, sxN, sevalprocAttr, ne_eq, decide_true, decide_false])
                  refine ⟨i + 1, StLe.auto (by simp only [sxS, sxL, sxF, encs, sxN, sevalprocAttr, ne_eq, decide_true, decide_false] <;> (try simp [e2, encs]) <;> (try omega)), ?_, ?_⟩
                  · exact ⟨hi2, ho2⟩
                  · omega
                · simp only [↓sxD, ↓sxP0, sxP1, sxF, sxA, sxS, sxK, encs, tys, sxN, sevalprocAttr, ne_eq, decide_true, decide_false]
                  repeat ((with_reducible refine Vc.go ?_ fun _ => ?_); (focus (first | omega | (simp only [InK]; omega) | (simp [InK]; done) | (simp [InK]; omega))); simp only [↓sxD, ↓sxP0, sxP1, sxF, sxA, sxS, sxK, encs, tys, sxN, sevalprocAttr, ne_eq, decide_true, decide_false])
                  refine ⟨i + 1, StLe.auto (by simp only [sxS, sxL, sxF, encs, sxN, sevalprocAttr, ne_eq, decide_true, decide_false] <;> (try simp [e2, encs]) <;> (try omega)), ?_, ?_⟩
                  · exact ⟨hi2, ho2⟩
                  · omega
            · have hie : i = xs.length := by omega
              subst hie
              rw [List.take_length]
              simp only [↓sxD, ↓sxP0, sxP1, sxF, sxA, sxS, sxK, encs, tys, sxN, sevalprocAttr, ne_eq, decide_true, decide_false]
              repeat ((with_reducible refine Vc.go ?_ fun _ => ?_); (focus (first | omega | (simp only [InK]; omega) | (simp [InK]; done) | (simp [InK]; omega))); simp only [↓sxD, ↓sxP0, sxP1, sxF, sxA, sxS, sxK, encs, tys, sxN, sevalprocAttr, ne_eq, decide_true, decide_false])
              refine BrW.yes x2 ?_
              simp only [↓sxD, ↓sxP0, sxP1, sxF, sxA, sxS, sxK, encs, tys, sxN, sevalprocAttr, ne_eq, decide_true, decide_false]
              refine BrW.yes x3 ?_
              simp only [↓sxD, ↓sxP0, sxP1, sxF, sxA, sxS, sxK, encs, tys, sxN, sevalprocAttr, ne_eq, decide_true, decide_false]
              repeat ((with_reducible refine Vc.go ?_ fun _ => ?_); (focus (first | omega | (simp only [InK]; omega) | (simp [InK]; done) | (simp [InK]; omega))); simp only [↓sxD, ↓sxP0, sxP1, sxF, sxA, sxS, sxK, encs, tys, sxN, sevalprocAttr, ne_eq, decide_true, decide_false])
              refine CallI.fn (withinB_s ((k : Int) * Q - P) 0 (Q - 1)) (by simp only [sxA, sxL, sxF, encs, sxN, sevalprocAttr, ne_eq, decide_true, decide_false] <;> (try simp)) ?_
              simp only [↓sxD, ↓sxP0, sxP1, sxF, sxA, sxS, sxK, encs, tys, sxN, sevalprocAttr, ne_eq, decide_true, decide_false]
              have hw : 0 ≤ (k : Int) * Q - P ∧ (k : Int) * Q - P ≤ Q - 1 := by omega
              exact EndW.fn (by simp only [sxL, encs, kpLL_map, sxN, sevalprocAttr, ne_eq, decide_true, decide_false] <;> (try simp [hw]) <;> (try omega)) (by simp only [sxL, encs, kpLL_map, sxN, sevalprocAttr, ne_eq, decide_true, decide_false] <;> (try simp) <;> (try omega))
end Go.Proofs.Ytfpkpokkgbobmaa
