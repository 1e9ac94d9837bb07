/-
  Chapter 9, walks: a tree is checked by the reference.
-/
import Derived.Test.YtaagelngbbkllaaVW34
import Derived.Test.YtaagelngbbkllaaVW35
namespace Go.Proofs.Ytaagelngbbkllaa
open Go Go.Vx
set_option linter.unusedSimpArgs false
set_option linter.unusedVariables false
set_option maxRecDepth 20000
def WalkR (c : Cols) (ms : Int) (tree : List Node) (own : Nat) (o : List Int) (r : Int × Int) : Prop :=
  ∀ b : Bool, Ctr Try.prog 117 [cV true true true c, (.v (.int .i64 ms)), .sl true 2 (tree.map eN), (.v (.int .i64 ((own : Int)))), .sl b 1 (o.map eI)] (fun rr => rr = ⟨.tup [(.v (.int .i64 r.1)), (.v (.int .i64 r.2))], []⟩)
theorem walkRStep (c : Cols) (ms : Int) (tree : List Node) (hc : ColOk c) (rec : Nat → List Int → Int × Int) (own : Nat) (o : List Int) (ho : BgOk c.minutes.length o) (hown : own < tree.length) (hT : tree.length ≤ 1000000) (hnl : ∀ x ∈ tree, x.next.length ≤ 1000000)
    (hr : ∀ a ∈ othK o c.minutes.length, ∀ b : Nat, b < tree.length → WalkR c ms tree b (o ++ [a]) (rec b (o ++ [a]))) : WalkR c ms tree own o (wF c ms tree rec own o) := by
  intro b
  have hn := hc.n
  have hlen := ho.len
  have hcount := othK_count ho
  have hnd := nodeE_at hown
  have hxl := hnl _ (List.getElem_mem hown)
  refine Ctr.of (rs := [.tmp 10, .tmp 11]) Tok true Try.func117 rfl rfl rfl rfl (by simp [ofDL]) (fun w0 kp => ?_)
  simp only [↓sxD, ↓sxP0, ↓sxGd, sxP1, sxF, sxA, sxS, sxK, sxG, sxH, sxU, encs, tys, sxN, sevalprocAttr, ne_eq, decide_true, decide_false]
  refine IxW.nat hown ?_
  simp only [↓sxD, ↓sxP0, ↓sxGd, sxP1, sxF, sxA, sxS, sxK, sxG, sxH, sxU, encs, tys, sxN, sevalprocAttr, ne_eq, decide_true, decide_false]
  generalize hx : tree[own] = x at *
  refine CallI.fn (withinB_s x.kind 0 2) (by simp only [sxA, sxL, sxF, sxG, sxH, sxU, encs, sxN, sevalprocAttr, ne_eq, decide_true, decide_false] <;> (try simp) <;> (try rfl)) ?_
  simp only [↓sxD, ↓sxP0, ↓sxGd, sxP1, sxF, sxA, sxS, sxK, sxG, sxH, sxU, encs, tys, sxN, sevalprocAttr, ne_eq, decide_true, decide_false]
  refine BrW.of (fun hk => ?_) (fun hk => ?_)
  · have hk : 0 ≤ x.kind ∧ x.kind ≤ 2 := by simpa using hk
    simp only [↓sxD, ↓sxP0, ↓sxGd, sxP1, sxF, sxA, sxS, sxK, sxG, sxH, sxU, encs, tys, sxN, sevalprocAttr, ne_eq, decide_true, decide_false]
    refine BrW.dec (fun k0 => ?_) (fun k0 => ?_)
    · have hF : wF c ms tree rec own o = if holdsE c ms x.kind o = true then (0, 0) else ((own : Int), 22) := by
        unfold wF; rw [hnd, if_pos hk, if_neg k0]
      rw [hF]
      simp only [↓sxD, ↓sxP0, ↓sxGd, sxP1, sxF, sxA, sxS, sxK, sxG, sxH, sxU, encs, tys, sxN, sevalprocAttr, ne_eq, decide_true, decide_false]
      refine CallI.fn (holds_s b c ms x.kind x.next o hc ho) (by simp only [sxA, sxL, sxF, sxG, sxH, sxU, encs, sxN, sevalprocAttr, ne_eq, decide_true, decide_false] <;> (try simp) <;> (try rfl)) ?_
      simp only [↓sxD, ↓sxP0, ↓sxGd, sxP1, sxF, sxA, sxS, sxK, sxG, sxH, sxU, encs, tys, sxN, sevalprocAttr, ne_eq, decide_true, decide_false]
      refine BrW.of (fun hh => ?_) (fun hh => ?_)
      · simp only [↓sxD, ↓sxP0, ↓sxGd, sxP1, sxF, sxA, sxS, sxK, sxG, sxH, sxU, encs, tys, sxN, sevalprocAttr, ne_eq, decide_true, decide_false]
        rw [if_pos hh]
        exact EndW.fn (by simp only [sxL, sxG, sxH, sxU, encs, kpLL_map, sxN, sevalprocAttr, ne_eq, decide_true, decide_false] <;> (try simp) <;> (try omega)) (by simp only [sxL, sxG, sxH, sxU, encs, kpLL_map, sxN, sevalprocAttr, ne_eq, decide_true, decide_false] <;> (try simp) <;> (try omega))
      · simp only [↓sxD, ↓sxP0, ↓sxGd, sxP1, sxF, sxA, sxS, sxK, sxG, sxH, sxU, encs, tys, sxN, sevalprocAttr, ne_eq, decide_true, decide_false]
        rw [if_neg (by rw [hh]; decide)]
        exact EndW.fn (by simp only [sxL, sxG, sxH, sxU, encs, kpLL_map, sxN, sevalprocAttr, ne_eq, decide_true, decide_false] <;> (try simp) <;> (try omega)) (by simp only [sxL, sxG, sxH, sxU, encs, kpLL_map, sxN, sevalprocAttr, ne_eq, decide_true, decide_false] <;> (try simp) <;> (try omega))
    · have k0 : x.kind = 0 := Decidable.not_not.1 k0
      have hF : wF c ms tree rec own o = if othK o c.minutes.length = [] ∨ x.next.length ≠ (othK o c.minutes.length).length then ((own : Int), 10)
        else if nxE own tree.length x.next = 0 then wL rec o (othK o c.minutes.length) x.next
        else ((own : Int), nxE own tree.length x.next) := by
        unfold wF; rw [hnd, if_pos hk, if_pos k0]
      rw [hF]
      simp only [↓sxD, ↓sxP0, ↓sxGd, sxP1, sxF, sxA, sxS, sxK, sxG, sxH, sxU, encs, tys, sxN, sevalprocAttr, ne_eq, decide_true, decide_false]
      refine CallI.fn (others_s b o c.minutes.length (by omega) (by omega)) (by simp only [sxA, sxL, sxF, sxG, sxH, sxU, encs, sxN, sevalprocAttr, ne_eq, decide_true, decide_false] <;> (try simp) <;> (try rfl)) ?_
      simp only [↓sxD, ↓sxP0, ↓sxGd, sxP1, sxF, sxA, sxS, sxK, sxG, sxH, sxU, encs, tys, sxN, sevalprocAttr, ne_eq, decide_true, decide_false]
      refine BrW.dec (fun q1 => ?_) (fun q1 => ?_)
      · simp only [↓sxD, ↓sxP0, ↓sxGd, sxP1, sxF, sxA, sxS, sxK, sxG, sxH, sxU, encs, tys, sxN, sevalprocAttr, ne_eq, decide_true, decide_false]
        rw [if_pos (.inl (List.eq_nil_of_length_eq_zero (by omega)))]
        exact EndW.fn (by simp only [sxL, sxG, sxH, sxU, encs, kpLL_map, sxN, sevalprocAttr, ne_eq, decide_true, decide_false] <;> (try simp) <;> (try omega)) (by simp only [sxL, sxG, sxH, sxU, encs, kpLL_map, sxN, sevalprocAttr, ne_eq, decide_true, decide_false] <;> (try simp) <;> (try omega))
      · simp only [↓sxD, ↓sxP0, ↓sxGd, sxP1, sxF, sxA, sxS, sxK, sxG, sxH, sxU, encs, tys, sxN, sevalprocAttr, ne_eq, decide_true, decide_false]
        refine BrW.dec (fun q2 => ?_) (fun q2 => ?_)
        · simp only [↓sxD, ↓sxP0, ↓sxGd, sxP1, sxF, sxA, sxS, sxK, sxG, sxH, sxU, encs, tys, sxN, sevalprocAttr, ne_eq, decide_true, decide_false]
          rw [if_pos (.inr (by omega))]
          exact EndW.fn (by simp only [sxL, sxG, sxH, sxU, encs, kpLL_map, sxN, sevalprocAttr, ne_eq, decide_true, decide_false] <;> (try simp) <;> (try omega)) (by simp only [sxL, sxG, sxH, sxU, encs, kpLL_map, sxN, sevalprocAttr, ne_eq, decide_true, decide_false] <;> (try simp) <;> (try omega))
        · have hnx : x.next.length = (othK o c.minutes.length).length := by omega
          rw [if_neg (fun h => h.elim (fun h => absurd (congrArg List.length h) (by rw [List.length_nil]; omega)) (fun h => h hnx))]
          simp only [↓sxD, ↓sxP0, ↓sxGd, sxP1, sxF, sxA, sxS, sxK, sxG, sxH, sxU, encs, tys, sxN, sevalprocAttr, ne_eq, decide_true, decide_false]
          refine LoopW.comp [1, 2, 3, 4, 5, 12, 13, 14] (by simp only [sxS, sxL, sxF, sxG, sxH, sxU, encs, sxN, sevalprocAttr, ne_eq, decide_true, decide_false] <;> (try simp) <;> (try omega)) ?_
          simp only [sxS, sxF, sxG, sxH, sxU, sxN, sevalprocAttr, ne_eq, decide_true, decide_false]
          refine LoopW.up Tok (fun j : Nat => [(14, (.v (.int .i64 j)))]) (fun j => []) (fun j => []) (fun j => []) (fun j => j ≤ x.next.length ∧ nxE own tree.length (x.next.drop j) = nxE own tree.length x.next) (fun j => x.next.length - j) (0) (by simp only [sxS, sxL, sxF, sxG, sxH, sxU, encs, sxN, sevalprocAttr, ne_eq, decide_true, decide_false] <;> (try simp) <;> (try omega)) ?_ ?_
          · exact ⟨by omega, rfl⟩
          rintro j ⟨hj, ht⟩
          simp only [↓sxD, ↓sxP0, ↓sxGd, sxP1, sxF, sxA, sxS, sxK, sxG, sxH, sxU, encs, tys, sxN, sevalprocAttr, ne_eq, decide_true, decide_false]
          refine BrW.dec (fun hlt => ?_) (fun hlt => ?_)
          · simp only [↓sxD, ↓sxP0, ↓sxGd, sxP1, sxF, sxA, sxS, sxK, sxG, sxH, sxU, encs, tys, sxN, sevalprocAttr, ne_eq, decide_true, decide_false]
            have hlt : j < x.next.length := by omega
            have hat := nxE_at hlt ht
            refine IxW.nat hlt ?_
            simp only [↓sxD, ↓sxP0, ↓sxGd, sxP1, sxF, sxA, sxS, sxK, sxG, sxH, sxU, encs, tys, sxN, sevalprocAttr, ne_eq, decide_true, decide_false]
            repeat ((with_reducible refine Vc.go ?_ fun _ => ?_); (focus (first | omega | (simp only [InK]; omega) | (simp [InK]; done) | (simp [InK]; omega))); simp only [↓sxD, ↓sxP0, ↓sxGd, sxP1, sxF, sxA, sxS, sxK, sxG, sxH, sxU, encs, tys, sxN, sevalprocAttr, ne_eq, decide_true, decide_false])
            refine CallI.fn (withinB_s x.next[j] 0 ((tree.length : Int) - 1)) (by simp only [sxA, sxL, sxF, sxG, sxH, sxU, encs, sxN, sevalprocAttr, ne_eq, decide_true, decide_false] <;> (try simp) <;> (try rfl)) ?_
            simp only [↓sxD, ↓sxP0, ↓sxGd, sxP1, sxF, sxA, sxS, sxK, sxG, sxH, sxU, encs, tys, sxN, sevalprocAttr, ne_eq, decide_true, decide_false]
            refine BrW.of (fun q3 => ?_) (fun q3 => ?_)
            · have q3 : 0 ≤ x.next[j] ∧ x.next[j] ≤ (tree.length : Int) - 1 := by simpa using q3
              simp only [↓sxD, ↓sxP0, ↓sxGd, sxP1, sxF, sxA, sxS, sxK, sxG, sxH, sxU, encs, tys, sxN, sevalprocAttr, ne_eq, decide_true, decide_false]
              rw [if_pos q3] at hat
              refine IxW.nat hlt ?_
              simp only [↓sxD, ↓sxP0, ↓sxGd, sxP1, sxF, sxA, sxS, sxK, sxG, sxH, sxU, encs, tys, sxN, sevalprocAttr, ne_eq, decide_true, decide_false]
              refine BrW.dec (fun q4 => ?_) (fun q4 => ?_)
              · simp only [↓sxD, ↓sxP0, ↓sxGd, sxP1, sxF, sxA, sxS, sxK, sxG, sxH, sxU, encs, tys, sxN, sevalprocAttr, ne_eq, decide_true, decide_false]
                rw [if_pos q4] at hat
                rw [hat, if_neg (by decide)]
                exact EndW.fn (by simp only [sxL, sxG, sxH, sxU, encs, kpLL_map, sxN, sevalprocAttr, ne_eq, decide_true, decide_false] <;> (try simp) <;> (try omega)) (by simp only [sxL, sxG, sxH, sxU, encs, kpLL_map, sxN, sevalprocAttr, ne_eq, decide_true, decide_false] <;> (try simp) <;> (try omega))
              · simp only [↓sxD, ↓sxP0, ↓sxGd, sxP1, sxF, sxA, sxS, sxK, sxG, sxH, sxU, encs, tys, sxN, sevalprocAttr, ne_eq, decide_true, decide_false]
                rw [if_neg q4] at hat
                repeat ((with_reducible refine Vc.go ?_ fun _ => ?_); (focus (first | omega | (simp only [InK]; omega) | (simp [InK]; done) | (simp [InK]; omega))); simp only [↓sxD, ↓sxP0, ↓sxGd, sxP1, sxF, sxA, sxS, sxK, sxG, sxH, sxU, encs, tys, sxN, sevalprocAttr, ne_eq, decide_true, decide_false])
                refine ⟨j + 1, StLe.auto (by simp only [sxS, sxL, sxF, sxG, sxH, sxU, encs, sxN, sevalprocAttr, ne_eq, decide_true, decide_false] <;> (try simp) <;> (try omega)), ?_, ?_⟩
                · exact ⟨hlt, hat.symm⟩
                · omega
            · have q3 : ¬ (0 ≤ x.next[j] ∧ x.next[j] ≤ (tree.length : Int) - 1) := by simpa using q3
              simp only [↓sxD, ↓sxP0, ↓sxGd, sxP1, sxF, sxA, sxS, sxK, sxG, sxH, sxU, encs, tys, sxN, sevalprocAttr, ne_eq, decide_true, decide_false]
              rw [if_neg q3] at hat
              rw [hat, if_neg (by decide)]
              exact EndW.fn (by simp only [sxL, sxG, sxH, sxU, encs, kpLL_map, sxN, sevalprocAttr, ne_eq, decide_true, decide_false] <;> (try simp) <;> (try omega)) (by simp only [sxL, sxG, sxH, sxU, encs, kpLL_map, sxN, sevalprocAttr, ne_eq, decide_true, decide_false] <;> (try simp) <;> (try omega))
          · simp only [↓sxD, ↓sxP0, ↓sxGd, sxP1, sxF, sxA, sxS, sxK, sxG, sxH, sxU, encs, tys, sxN, sevalprocAttr, ne_eq, decide_true, decide_false]
            have hje : j = x.next.length := by omega
            subst hje
            rw [List.drop_length] at ht
            have hz : nxE own tree.length x.next = 0 := by rw [← ht]; rfl
            rw [if_pos hz]
            have hzz := nxE_zero.1 hz
            refine LoopW.comp [1, 2, 4, 5, 12, 13, 15] (by simp only [sxS, sxL, sxF, sxG, sxH, sxU, encs, sxN, sevalprocAttr, ne_eq, decide_true, decide_false] <;> (try simp) <;> (try omega)) ?_
            simp only [sxS, sxF, sxG, sxH, sxU, sxN, sevalprocAttr, ne_eq, decide_true, decide_false]
            refine LoopW.up Tok (fun j : Nat => [(15, (.v (.int .i64 j)))]) (fun j => []) (fun j => []) (fun j => []) (fun j => j ≤ x.next.length ∧ wL rec o ((othK o c.minutes.length).drop j) (x.next.drop j) = wL rec o (othK o c.minutes.length) x.next) (fun j => x.next.length - j) (0) (by simp only [sxS, sxL, sxF, sxG, sxH, sxU, encs, sxN, sevalprocAttr, ne_eq, decide_true, decide_false] <;> (try simp) <;> (try omega)) ?_ ?_
            · exact ⟨by omega, rfl⟩
            rintro j ⟨hkn, hw⟩
            simp only [↓sxD, ↓sxP0, ↓sxGd, sxP1, sxF, sxA, sxS, sxK, sxG, sxH, sxU, encs, tys, sxN, sevalprocAttr, ne_eq, decide_true, decide_false]
            refine BrW.dec (fun hlt2 => ?_) (fun hlt2 => ?_)
            · simp only [↓sxD, ↓sxP0, ↓sxGd, sxP1, sxF, sxA, sxS, sxK, sxG, sxH, sxU, encs, tys, sxN, sevalprocAttr, ne_eq, decide_true, decide_false]
              have hjn : j < x.next.length := by omega
              have hjl : j < (othK o c.minutes.length).length := by omega
              have hmem := List.getElem_mem hjl
              have hzb := hzz _ (List.getElem_mem hjn)
              rw [List.drop_eq_getElem_cons hjn, List.drop_eq_getElem_cons hjl, wL] at hw
              have hrec := hr _ hmem (x.next[j]).toNat (by omega) false
              rw [show (((x.next[j]).toNat : Nat) : Int) = x.next[j] by omega] at hrec
              have hcp := copyIntsOwn_s b o (by omega)
              refine DrawW.plan Tok mixed (.q 0 <| .q 1 <| .q 2 <| .q 3 <| .q 4 <| .q 5 <| .q 6 <| .q 7 <| .q 8 <| .q 10 <| .q 11 <| .q 12 <| .q 13 <| .e2 9 [0, 4, 7, 13] (.e 14 [0, 4, 7] <| .e 15 [0, 4, 7] <| .e 16 [] <| .q 17 <| .q 18 <| .q 19 <| .q 20 <| .q 21 <| .done) 14 [0, 4, 7] (.e 9 [0, 4, 7, 13] <| .e 15 [0, 4, 7] <| .e 16 [] <| .q 17 <| .q 18 <| .q 19 <| .q 20 <| .q 21 <| .done)) (by kernel_rfl) (by kernel_rfl) ?_
              simp only [↓sxD, ↓sxP0, ↓sxGd, sxP1, sxF, sxA, sxS, sxK, sxG, sxH, sxU, encs, tys, sxN, sevalprocAttr, ne_eq, decide_true, decide_false]
              refine IxW.nat hjn ?_
              simp only [↓sxD, ↓sxP0, ↓sxGd, sxP1, sxF, sxA, sxS, sxK, sxG, sxH, sxU, encs, tys, sxN, sevalprocAttr, ne_eq, decide_true, decide_false]
              refine IxW.nat hjl ?_
              simp only [↓sxD, ↓sxP0, ↓sxGd, sxP1, sxF, sxA, sxS, sxK, sxG, sxH, sxU, encs, tys, sxN, sevalprocAttr, ne_eq, decide_true, decide_false]
              refine ⟨?_, ?_⟩
              all_goals (
                skip
                refine CallI.ctr (hcp) (by simp only [sxA, sxL, sxF, sxG, sxH, sxU, encs, sxN, sevalprocAttr, ne_eq, decide_true, decide_false] <;> (try simp) <;> (try rfl)) ?_
                rintro _ rfl
                simp only [↓sxD, ↓sxP0, ↓sxGd, sxP1, sxF, sxA, sxS, sxK, sxG, sxH, sxU, encs, tys, sxN, sevalprocAttr, ne_eq, decide_true, decide_false]
                repeat ((with_reducible refine Vc.go ?_ fun _ => ?_); (focus (first | omega | (simp only [InK]; omega) | (simp [InK]; done) | (simp [InK]; omega))); simp only [↓sxD, ↓sxP0, ↓sxGd, sxP1, sxF, sxA, sxS, sxK, sxG, sxH, sxU, encs, tys, sxN, sevalprocAttr, ne_eq, decide_true, decide_false])
                refine CallI.fn (hrec) (by simp only [sxA, sxL, sxF, sxG, sxH, sxU, encs, sxN, sevalprocAttr, ne_eq, decide_true, decide_false] <;> (try simp) <;> (try rfl)) ?_
                simp only [↓sxD, ↓sxP0, ↓sxGd, sxP1, sxF, sxA, sxS, sxK, sxG, sxH, sxU, encs, tys, sxN, sevalprocAttr, ne_eq, decide_true, decide_false]
                refine BrW.dec (fun hz2 => ?_) (fun hz2 => ?_)
                · rw [if_neg hz2] at hw
                  simp only [↓sxD, ↓sxP0, ↓sxGd, sxP1, sxF, sxA, sxS, sxK, sxG, sxH, sxU, encs, tys, sxN, sevalprocAttr, ne_eq, decide_true, decide_false]
                  rw [← hw]
                  exact EndW.fn (by simp only [sxL, sxG, sxH, sxU, encs, kpLL_map, sxN, sevalprocAttr, ne_eq, decide_true, decide_false] <;> (try simp) <;> (try omega)) (by simp only [sxL, sxG, sxH, sxU, encs, kpLL_map, sxN, sevalprocAttr, ne_eq, decide_true, decide_false] <;> (try simp) <;> (try omega))
                · have hz2 : (rec (x.next[j]).toNat (o ++ [(othK o c.minutes.length)[j]])).2 = 0 := Decidable.not_not.1 hz2
                  rw [if_pos hz2] at hw
                  simp only [↓sxD, ↓sxP0, ↓sxGd, sxP1, sxF, sxA, sxS, sxK, sxG, sxH, sxU, encs, tys, sxN, sevalprocAttr, ne_eq, decide_true, decide_false]
                  repeat ((with_reducible refine Vc.go ?_ fun _ => ?_); (focus (first | omega | (simp only [InK]; omega) | (simp [InK]; done) | (simp [InK]; omega))); simp only [↓sxD, ↓sxP0, ↓sxGd, sxP1, sxF, sxA, sxS, sxK, sxG, sxH, sxU, encs, tys, sxN, sevalprocAttr, ne_eq, decide_true, decide_false])
                  refine ⟨j + 1, StLe.auto (by simp only [sxS, sxL, sxF, sxG, sxH, sxU, encs, sxN, sevalprocAttr, ne_eq, decide_true, decide_false] <;> (try simp) <;> (try omega)), ?_, ?_⟩
                  · exact ⟨by omega, hw⟩
                  · omega)
            · simp only [↓sxD, ↓sxP0, ↓sxGd, sxP1, sxF, sxA, sxS, sxK, sxG, sxH, sxU, encs, tys, sxN, sevalprocAttr, ne_eq, decide_true, decide_false]
              have hke : j = x.next.length := by omega
              subst hke
              rw [hnx, List.drop_length, ← hnx, List.drop_length] at hw
              rw [← hw]
              exact EndW.fn (by simp only [sxL, sxG, sxH, sxU, encs, kpLL_map, sxN, sevalprocAttr, ne_eq, decide_true, decide_false] <;> (try simp [wL]) <;> (try omega)) (by simp only [sxL, sxG, sxH, sxU, encs, kpLL_map, sxN, sevalprocAttr, ne_eq, decide_true, decide_false] <;> (try simp) <;> (try omega))
  · have hk : ¬ (0 ≤ x.kind ∧ x.kind ≤ 2) := by simpa using hk
    have hF : wF c ms tree rec own o = ((own : Int), 15) := by
      unfold wF; rw [hnd, if_neg hk]
    rw [hF]
    simp only [↓sxD, ↓sxP0, ↓sxGd, sxP1, sxF, sxA, sxS, sxK, sxG, sxH, sxU, encs, tys, sxN, sevalprocAttr, ne_eq, decide_true, decide_false]
    exact EndW.fn (by simp only [sxL, sxG, sxH, sxU, encs, kpLL_map, sxN, sevalprocAttr, ne_eq, decide_true, decide_false] <;> (try simp) <;> (try omega)) (by simp only [sxL, sxG, sxH, sxU, encs, kpLL_map, sxN, sevalprocAttr, ne_eq, decide_true, decide_false] <;> (try simp) <;> (try omega))
theorem walkR_s (c : Cols) (ms : Int) (tree : List Node) (hc : ColOk c) (hT : tree.length ≤ 1000000) (hnl : ∀ x ∈ tree, x.next.length ≤ 1000000) : ∀ (f : Nat) (own : Nat) (o : List Int), BgOk c.minutes.length o → o.length + f = c.minutes.length → own < tree.length → WalkR c ms tree own o (walkE c ms tree f own o)
  | 0, own, o, ho, hl, hown => by
    refine walkRStep c ms tree hc _ own o ho hown hT hnl fun a ha b hb => ?_
    have h1 := othK_count ho
    rw [List.eq_nil_of_length_eq_zero (show (othK o c.minutes.length).length = 0 by omega)] at ha
    cases ha
  | f + 1, own, o, ho, hl, hown => by
    refine walkRStep c ms tree hc _ own o ho hown hT hnl fun a ha b hb => ?_
    exact walkR_s c ms tree hc hT hnl f b (o ++ [a]) (ho.push ha) (by simp; omega) hb
theorem checkTreeR_s (c : Cols) (ms : Int) (tree : List Node) (hc : ColOk c) (hT : tree.length ≤ 1000000) (hnl : ∀ x ∈ tree, x.next.length ≤ 1000000) : Ctr Try.prog 63 [cV true true true c, (.v (.int .i64 ms)), .sl true 2 (tree.map eN)] (fun rr => rr = ⟨.tup [(.v (.int .i64 ((treeE c ms tree).1))), (.v (.int .i64 ((treeE c ms tree).2)))], []⟩) := by
  refine Ctr.of (rs := [.tmp 6, .tmp 7]) Tok true Try.func63 rfl rfl rfl rfl (by simp [ofDL]) (fun w0 kp => ?_)
  simp only [↓sxD, ↓sxP0, ↓sxGd, sxP1, sxF, sxA, sxS, sxK, sxG, sxH, sxU, encs, tys, sxN, sevalprocAttr, ne_eq, decide_true, decide_false]
  refine CallI.fn (withinB_s ms 0 1000000) (by simp only [sxA, sxL, sxF, sxG, sxH, sxU, encs, sxN, sevalprocAttr, ne_eq, decide_true, decide_false] <;> (try simp) <;> (try rfl)) ?_
  simp only [↓sxD, ↓sxP0, ↓sxGd, sxP1, sxF, sxA, sxS, sxK, sxG, sxH, sxU, encs, tys, sxN, sevalprocAttr, ne_eq, decide_true, decide_false]
  refine BrW.of (fun h2 => ?_) (fun h2 => ?_)
  · have h2 : 0 ≤ ms ∧ ms ≤ 1000000 := by simpa using h2
    simp only [↓sxD, ↓sxP0, ↓sxGd, sxP1, sxF, sxA, sxS, sxK, sxG, sxH, sxU, encs, tys, sxN, sevalprocAttr, ne_eq, decide_true, decide_false]
    refine CallI.fn (withinB_s (tree.length : Int) 1 3000) (by simp only [sxA, sxL, sxF, sxG, sxH, sxU, encs, sxN, sevalprocAttr, ne_eq, decide_true, decide_false] <;> (try simp) <;> (try rfl)) ?_
    simp only [↓sxD, ↓sxP0, ↓sxGd, sxP1, sxF, sxA, sxS, sxK, sxG, sxH, sxU, encs, tys, sxN, sevalprocAttr, ne_eq, decide_true, decide_false]
    refine BrW.of (fun h3 => ?_) (fun h3 => ?_)
    · have h3 : 1 ≤ (tree.length : Int) ∧ (tree.length : Int) ≤ 3000 := by simpa using h3
      have hw := walkR_s c ms tree hc hT hnl c.minutes.length 0 [] (BgOk.nil _) (by simp) (by omega) true
      rw [show treeE c ms tree = walkE c ms tree c.minutes.length 0 [] by rw [treeE, if_pos h2, if_pos h3]]
      simp only [↓sxD, ↓sxP0, ↓sxGd, sxP1, sxF, sxA, sxS, sxK, sxG, sxH, sxU, encs, tys, sxN, sevalprocAttr, ne_eq, decide_true, decide_false]
      refine CallI.fn (hw) (by simp only [sxA, sxL, sxF, sxG, sxH, sxU, encs, sxN, sevalprocAttr, ne_eq, decide_true, decide_false] <;> (try simp) <;> (try rfl)) ?_
      simp only [↓sxD, ↓sxP0, ↓sxGd, sxP1, sxF, sxA, sxS, sxK, sxG, sxH, sxU, encs, tys, sxN, sevalprocAttr, ne_eq, decide_true, decide_false]
      exact EndW.fn (by simp only [sxL, sxG, sxH, sxU, encs, kpLL_map, sxN, sevalprocAttr, ne_eq, decide_true, decide_false] <;> (try simp) <;> (try omega)) (by simp only [sxL, sxG, sxH, sxU, encs, kpLL_map, sxN, sevalprocAttr, ne_eq, decide_true, decide_false] <;> (try simp) <;> (try omega))
    · have h3 : ¬ (1 ≤ (tree.length : Int) ∧ (tree.length : Int) ≤ 3000) := by simpa using h3
      rw [show treeE c ms tree = (0, 10) by rw [treeE, if_pos h2, if_neg h3]]
      simp only [↓sxD, ↓sxP0, ↓sxGd, sxP1, sxF, sxA, sxS, sxK, sxG, sxH, sxU, encs, tys, sxN, sevalprocAttr, ne_eq, decide_true, decide_false]
      exact EndW.fn (by simp only [sxL, sxG, sxH, sxU, encs, kpLL_map, sxN, sevalprocAttr, ne_eq, decide_true, decide_false] <;> (try simp) <;> (try omega)) (by simp only [sxL, sxG, sxH, sxU, encs, kpLL_map, sxN, sevalprocAttr, ne_eq, decide_true, decide_false] <;> (try simp) <;> (try omega))
  · have h2 : ¬ (0 ≤ ms ∧ ms ≤ 1000000) := by simpa using h2
    rw [show treeE c ms tree = (0, 2) by rw [treeE, if_neg h2]]
    simp only [↓sxD, ↓sxP0, ↓sxGd, sxP1, sxF, sxA, sxS, sxK, sxG, sxH, sxU, encs, tys, sxN, sevalprocAttr, ne_eq, decide_true, decide_false]
    exact EndW.fn (by simp only [sxL, sxG, sxH, sxU, encs, kpLL_map, sxN, sevalprocAttr, ne_eq, decide_true, decide_false] <;> (try simp) <;> (try omega)) (by simp only [sxL, sxG, sxH, sxU, encs, kpLL_map, sxN, sevalprocAttr, ne_eq, decide_true, decide_false] <;> (try simp) <;> (try omega))
end Go.Proofs.Ytaagelngbbkllaa
