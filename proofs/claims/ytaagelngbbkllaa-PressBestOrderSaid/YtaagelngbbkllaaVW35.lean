/-
  Chapter 9, walks: a tree is checked.
-/
import Derived.Test.YtaagelngbbkllaaVP9T
namespace Go.Proofs.Ytaagelngbbkllaa
open Go Go.Vx
set_option linter.unusedSimpArgs false
set_option linter.unusedVariables false
set_option maxRecDepth 20000
def wV (c : Cols) (ms : Int) (tree : List Node) : SV := .agg [.sl true 1 (c.minutes.map eI), .sl true 1 (c.dry.map (eIB true)), (.v (.int .i64 ms)), .sl true 2 (tree.map eN)]
theorem wV_eq (c : Cols) (ms : Int) (tree : List Node) : wV c ms tree = .agg [.sl true 1 (c.minutes.map eI), .sl true 1 (c.dry.map (eIB true)), (.v (.int .i64 ms)), .sl true 2 (tree.map eN)] := rfl
def WalkP (c : Cols) (ms : Int) (tree : List Node) (own : Nat) (o : List Int) (r : Int × Int) : Prop :=
  Ctr Try.prog 118 [wV c ms tree, (.v (.int .i64 ((own : Int)))), gV true true (allE c o)] (fun rr => rr = ⟨.tup [(.v (.int .i64 r.1)), (.v (.int .i64 r.2))], []⟩)
theorem nxE_at {own len : Nat} {l : List Int} {j : Nat} (h : j < l.length) (ht : nxE own len (l.drop j) = nxE own len l) : nxE own len l = if 0 ≤ l[j] ∧ l[j] ≤ (len : Int) - 1 then (if l[j] ≤ (own : Int) then 9 else nxE own len (l.drop (j + 1))) else 6 := by
  rw [← ht, List.drop_eq_getElem_cons h, nxE]
theorem nodeE_at {tree : List Node} {own : Nat} (h : own < tree.length) : nodeE tree own = tree[own] := by
  simp [nodeE, List.getD_eq_getElem?_getD, List.getElem?_eq_getElem h]
theorem walkStep (c : Cols) (ms : Int) (tree : List Node) (hc : ColOk c) (rec : Nat → List Int → Int × Int) (own : Nat) (o : List Int) (ho : BgOk c.minutes.length o) (hown : own < tree.length) (hT : tree.length ≤ 1000000) (hnl : ∀ x ∈ tree, x.next.length ≤ 1000000)
    (hr : ∀ a ∈ othK o c.minutes.length, ∀ b : Nat, b < tree.length → WalkP c ms tree b (o ++ [a]) (rec b (o ++ [a]))) : WalkP c ms tree own o (wF c ms tree rec own o) := by
  unfold WalkP
  have encs := And.intro (And.intro (And.intro encs gV_eq) wV_eq) (allE_order c)
  have hn := hc.n
  have hlen := ho.len
  have hcount := othK_count ho
  have hok := allE_ok hc ho.rg o.length (Nat.le_refl _)
  rw [List.take_length] at hok
  have hle := hok.le
  have hnd := nodeE_at hown
  have hxl := hnl _ (List.getElem_mem hown)
  refine Ctr.of (rs := [.tmp 6, .tmp 7]) Tok true Try.func118 rfl rfl rfl rfl (by simp [ofDL]) (fun w0 kp => ?_)
  simp only [↓sxD, ↓sxP0, ↓sxGd, sxP1, sxF, sxA, sxS, sxK, sxG, sxH, sxU, encs, tys, sxN, sevalprocAttr, ne_eq, decide_true, decide_false]
  refine IxW.nat hown ?_
  simp only [↓sxD, ↓sxP0, ↓sxGd, sxP1, sxF, sxA, sxS, sxK, sxG, sxH, sxU, encs, tys, sxN, sevalprocAttr, ne_eq, decide_true, decide_false]
  generalize hx : tree[own] = x at *
  refine BrW.dec (fun k0 => ?_) (fun k0 => ?_)
  · have hk : 0 ≤ x.kind ∧ x.kind ≤ 2 := by omega
    have hF : wF c ms tree rec own o = if othK o c.minutes.length = [] ∨ x.next.length ≠ (othK o c.minutes.length).length then ((own : Int), 10)
      else if nxE own tree.length x.next = 0 then wL rec o (othK o c.minutes.length) x.next
      else ((own : Int), nxE own tree.length x.next) := by
      unfold wF; rw [hnd, if_pos hk, if_pos k0]
    rw [hF]
    simp only [↓sxD, ↓sxP0, ↓sxGd, sxP1, sxF, sxA, sxS, sxK, sxG, sxH, sxU, encs, tys, sxN, sevalprocAttr, ne_eq, decide_true, decide_false]
    repeat ((with_reducible refine Vc.go ?_ fun _ => ?_); (focus (first | omega | (simp only [InK]; omega) | (simp [InK]; done) | (simp [InK]; omega))); simp only [↓sxD, ↓sxP0, ↓sxGd, sxP1, sxF, sxA, sxS, sxK, sxG, sxH, sxU, encs, tys, sxN, sevalprocAttr, ne_eq, decide_true, decide_false])
    refine BrW.dec (fun q1 => ?_) (fun q1 => ?_)
    · simp only [↓sxD, ↓sxP0, ↓sxGd, sxP1, sxF, sxA, sxS, sxK, sxG, sxH, sxU, encs, tys, sxN, sevalprocAttr, ne_eq, decide_true, decide_false]
      rw [if_pos (.inl (List.eq_nil_of_length_eq_zero (by omega)))]
      exact EndW.fn (by simp only [sxL, sxG, sxH, sxU, encs, kpLL_map, sxN, sevalprocAttr, ne_eq, decide_true, decide_false] <;> (try simp) <;> (try omega)) (by simp only [sxL, sxG, sxH, sxU, encs, kpLL_map, sxN, sevalprocAttr, ne_eq, decide_true, decide_false] <;> (try simp) <;> (try omega))
    · simp only [↓sxD, ↓sxP0, ↓sxGd, sxP1, sxF, sxA, sxS, sxK, sxG, sxH, sxU, encs, tys, sxN, sevalprocAttr, ne_eq, decide_true, decide_false]
      refine BrW.dec (fun q2 => ?_) (fun q2 => ?_)
      · simp only [↓sxD, ↓sxP0, ↓sxGd, sxP1, sxF, sxA, sxS, sxK, sxG, sxH, sxU, encs, tys, sxN, sevalprocAttr, ne_eq, decide_true, decide_false]
        rw [if_pos (.inr (by omega))]
        exact EndW.fn (by simp only [sxL, sxG, sxH, sxU, encs, kpLL_map, sxN, sevalprocAttr, ne_eq, decide_true, decide_false] <;> (try simp) <;> (try omega)) (by simp only [sxL, sxG, sxH, sxU, encs, kpLL_map, sxN, sevalprocAttr, ne_eq, decide_true, decide_false] <;> (try simp) <;> (try omega))
      · have hnx : x.next.length = (othK o c.minutes.length).length := by omega
        rw [if_neg (fun h => h.elim (fun h => absurd (congrArg List.length h) (by rw [List.length_nil]; omega)) (fun h => h hnx))]
        simp only [↓sxD, ↓sxP0, ↓sxGd, sxP1, sxF, sxA, sxS, sxK, sxG, sxH, sxU, encs, tys, sxN, sevalprocAttr, ne_eq, decide_true, decide_false]
        refine LoopW.comp [1, 3, 5, 8, 47, 48, 49] (by simp only [sxS, sxL, sxF, sxG, sxH, sxU, encs, sxN, sevalprocAttr, ne_eq, decide_true, decide_false] <;> (try simp) <;> (try omega)) ?_
        simp only [sxS, sxF, sxG, sxH, sxU, sxN, sevalprocAttr, ne_eq, decide_true, decide_false]
        refine LoopW.up Tok (fun j : Nat => [(49, (.v (.int .i64 j)))]) (fun j => []) (fun j => []) (fun j => []) (fun j => j ≤ x.next.length ∧ nxE own tree.length (x.next.drop j) = nxE own tree.length x.next) (fun j => x.next.length - j) (0) (by simp only [sxS, sxL, sxF, sxG, sxH, sxU, encs, sxN, sevalprocAttr, ne_eq, decide_true, decide_false] <;> (try simp) <;> (try omega)) ?_ ?_
        · exact ⟨by omega, rfl⟩
        rintro j ⟨hj, ht⟩
        simp only [↓sxD, ↓sxP0, ↓sxGd, sxP1, sxF, sxA, sxS, sxK, sxG, sxH, sxU, encs, tys, sxN, sevalprocAttr, ne_eq, decide_true, decide_false]
        refine BrW.dec (fun hlt => ?_) (fun hlt => ?_)
        · simp only [↓sxD, ↓sxP0, ↓sxGd, sxP1, sxF, sxA, sxS, sxK, sxG, sxH, sxU, encs, tys, sxN, sevalprocAttr, ne_eq, decide_true, decide_false]
          have hlt : j < x.next.length := by omega
          have hat := nxE_at hlt ht
          refine IxW.nat hlt ?_
          simp only [↓sxD, ↓sxP0, ↓sxGd, sxP1, sxF, sxA, sxS, sxK, sxG, sxH, sxU, encs, tys, sxN, sevalprocAttr, ne_eq, decide_true, decide_false]
          repeat ((with_reducible refine Vc.go ?_ fun _ => ?_); (focus (first | omega | (simp only [InK]; omega) | (simp [InK]; done) | (simp [InK]; omega))); simp only [↓sxD, ↓sxP0, ↓sxGd, sxP1, sxF, sxA, sxS, sxK, sxG, sxH, sxU, encs, tys, sxN, sevalprocAttr, ne_eq, decide_true, decide_false])
          refine CallI.fn (within_s x.next[j] 0 ((tree.length : Int) - 1)) (by simp only [sxA, sxL, sxF, sxG, sxH, sxU, encs, sxN, sevalprocAttr, ne_eq, decide_true, decide_false] <;> (try simp) <;> (try rfl)) ?_
          simp only [↓sxD, ↓sxP0, ↓sxGd, sxP1, sxF, sxA, sxS, sxK, sxG, sxH, sxU, encs, tys, sxN, sevalprocAttr, ne_eq, decide_true, decide_false]
          refine BrW.dec (fun q3 => ?_) (fun q3 => ?_)
          · simp only [↓sxD, ↓sxP0, ↓sxGd, sxP1, sxF, sxA, sxS, sxK, sxG, sxH, sxU, encs, tys, sxN, sevalprocAttr, ne_eq, decide_true, decide_false]
            rw [if_pos q3] at hat
            refine BrW.dec (fun q4 => ?_) (fun q4 => ?_)
            · simp only [↓sxD, ↓sxP0, ↓sxGd, sxP1, sxF, sxA, sxS, sxK, sxG, sxH, sxU, encs, tys, sxN, sevalprocAttr, ne_eq, decide_true, decide_false]
              rw [if_pos q4] at hat
              rw [hat, if_neg (by decide)]
              exact EndW.fn (by simp only [sxL, sxG, sxH, sxU, encs, kpLL_map, sxN, sevalprocAttr, ne_eq, decide_true, decide_false] <;> (try simp) <;> (try omega)) (by simp only [sxL, sxG, sxH, sxU, encs, kpLL_map, sxN, sevalprocAttr, ne_eq, decide_true, decide_false] <;> (try simp) <;> (try omega))
            · simp only [↓sxD, ↓sxP0, ↓sxGd, sxP1, sxF, sxA, sxS, sxK, sxG, sxH, sxU, encs, tys, sxN, sevalprocAttr, ne_eq, decide_true, decide_false]
              rw [if_neg q4] at hat
              repeat ((with_reducible refine Vc.go ?_ fun _ => ?_); (focus (first | omega | (simp only [InK]; omega) | (simp [InK]; done) | (simp [InK]; omega))); simp only [↓sxD, ↓sxP0, ↓sxGd, sxP1, sxF, sxA, sxS, sxK, sxG, sxH, sxU, encs, tys, sxN, sevalprocAttr, ne_eq, decide_true, decide_false])
              refine ⟨j + 1, StLe.auto (by simp only [sxS, sxL, sxF, sxG, sxH, sxU, encs, sxN, sevalprocAttr, ne_eq, decide_true, decide_false] <;> (try simp) <;> (try omega)), ?_, ?_⟩
              · exact ⟨hlt, hat.symm⟩
              · omega
          · simp only [↓sxD, ↓sxP0, ↓sxGd, sxP1, sxF, sxA, sxS, sxK, sxG, sxH, sxU, encs, tys, sxN, sevalprocAttr, ne_eq, decide_true, decide_false]
            rw [if_neg q3] at hat
            rw [hat, if_neg (by decide)]
            exact EndW.fn (by simp only [sxL, sxG, sxH, sxU, encs, kpLL_map, sxN, sevalprocAttr, ne_eq, decide_true, decide_false] <;> (try simp) <;> (try omega)) (by simp only [sxL, sxG, sxH, sxU, encs, kpLL_map, sxN, sevalprocAttr, ne_eq, decide_true, decide_false] <;> (try simp) <;> (try omega))
        · simp only [↓sxD, ↓sxP0, ↓sxGd, sxP1, sxF, sxA, sxS, sxK, sxG, sxH, sxU, encs, tys, sxN, sevalprocAttr, ne_eq, decide_true, decide_false]
          have hje : j = x.next.length := by omega
          subst hje
          rw [List.drop_length] at ht
          have hz : nxE own tree.length x.next = 0 := by rw [← ht]; rfl
          rw [if_pos hz]
          have hzz := nxE_zero.1 hz
          refine LoopW.comp [3, 5, 13, 74, 75] (by simp only [sxS, sxL, sxF, sxG, sxH, sxU, encs, sxN, sevalprocAttr, ne_eq, decide_true, decide_false] <;> (try simp) <;> (try omega)) ?_
          simp only [sxS, sxF, sxG, sxH, sxU, sxN, sevalprocAttr, ne_eq, decide_true, decide_false]
          refine LoopW.up Tok (fun k : Nat => [(13, .sl true 1 ((x.next.drop (othK o k).length).map eI)), (75, (.v (.int .i64 k)))]) (fun k => []) (fun k => []) (fun k => []) (fun k => k ≤ c.minutes.length ∧ wL rec o ((othK o c.minutes.length).drop (othK o k).length) (x.next.drop (othK o k).length) = wL rec o (othK o c.minutes.length) x.next) (fun k => c.minutes.length - k) (0) (by simp only [sxS, sxL, sxF, sxG, sxH, sxU, encs, sxN, sevalprocAttr, ne_eq, decide_true, decide_false] <;> (try simp [othK, encs]) <;> (try omega)) ?_ ?_
          · exact ⟨by omega, rfl⟩
          rintro k ⟨hkn, hw⟩
          simp only [↓sxD, ↓sxP0, ↓sxGd, sxP1, sxF, sxA, sxS, sxK, sxG, sxH, sxU, encs, tys, sxN, sevalprocAttr, ne_eq, decide_true, decide_false]
          refine BrW.dec (fun hlt2 => ?_) (fun hlt2 => ?_)
          · simp only [↓sxD, ↓sxP0, ↓sxGd, sxP1, sxF, sxA, sxS, sxK, sxG, sxH, sxU, encs, tys, sxN, sevalprocAttr, ne_eq, decide_true, decide_false]
            have hlt2 : k < c.minutes.length := by omega
            refine CallI.fn (containsI_s true o k (by omega)) (by simp only [sxA, sxL, sxF, sxG, sxH, sxU, encs, sxN, sevalprocAttr, ne_eq, decide_true, decide_false] <;> (try simp) <;> (try rfl)) ?_
            simp only [↓sxD, ↓sxP0, ↓sxGd, sxP1, sxF, sxA, sxS, sxK, sxG, sxH, sxU, encs, tys, sxN, sevalprocAttr, ne_eq, decide_true, decide_false]
            refine BrW.of (fun hin => ?_) (fun hin => ?_)
            · simp only [↓sxD, ↓sxP0, ↓sxGd, sxP1, sxF, sxA, sxS, sxK, sxG, sxH, sxU, encs, tys, sxN, sevalprocAttr, ne_eq, decide_true, decide_false]
              have he : othK o (k + 1) = othK o k := by simp only [othK, hin]; simp
              repeat ((with_reducible refine Vc.go ?_ fun _ => ?_); (focus (first | omega | (simp only [InK]; omega) | (simp [InK]; done) | (simp [InK]; omega))); simp only [↓sxD, ↓sxP0, ↓sxGd, sxP1, sxF, sxA, sxS, sxK, sxG, sxH, sxU, encs, tys, sxN, sevalprocAttr, ne_eq, decide_true, decide_false])
              refine ⟨k + 1, StLe.auto (by simp only [sxS, sxL, sxF, sxG, sxH, sxU, encs, sxN, sevalprocAttr, ne_eq, decide_true, decide_false] <;> (try simp [he, encs]) <;> (try omega)), ?_, ?_⟩
              · exact ⟨by omega, by rw [he]; exact hw⟩
              · omega
            · have hat := othK_at hlt2 hin
              obtain ⟨hjl, hjv⟩ := List.getElem?_eq_some_iff.1 hat
              have he : (othK o (k + 1)).length = (othK o k).length + 1 := by simp [othK, hin]
              have hjn : (othK o k).length < x.next.length := by omega
              have hmem : (k : Int) ∈ othK o c.minutes.length := List.mem_of_getElem? hat
              generalize hJ : (othK o k).length = J at *
              have hzb := hzz _ (List.getElem_mem hjn)
              have hd1 : x.next.drop J = x.next[J] :: x.next.drop (J + 1) := List.drop_eq_getElem_cons hjn
              have hd2 : (othK o c.minutes.length).drop J = (k : Int) :: (othK o c.minutes.length).drop (J + 1) := by rw [List.drop_eq_getElem_cons hjl, hjv]
              rw [hd1, hd2, wL] at hw
              rw [hd1]
              have hrec := hr (k : Int) hmem (x.next[J]).toNat (by omega)
              unfold WalkP at hrec
              rw [show (((x.next[J]).toNat : Nat) : Int) = x.next[J] by omega, allE_push] at hrec
              simp only [↓sxD, ↓sxP0, ↓sxGd, sxP1, sxF, sxA, sxS, sxK, sxG, sxH, sxU, encs, tys, sxN, sevalprocAttr, ne_eq, decide_true, decide_false]
              refine DrawW.plan Tok mixed (.q 0 <| .q 1 <| .q 2 <| .q 3 <| .q 4 <| .q 5 <| .q 6 <| .q 7 <| .e 8 [0, 3] <| .e 9 [] <| .q 10 <| .q 11 <| .q 12 <| .q 13 <| .q 14 <| .done) (by kernel_rfl) (by kernel_rfl) ?_
              simp only [↓sxD, ↓sxP0, ↓sxGd, sxP1, sxF, sxA, sxS, sxK, sxG, sxH, sxU, encs, tys, sxN, sevalprocAttr, ne_eq, decide_true, decide_false]
              refine IxW.of _ (by decide) rfl ?_
              simp only [↓sxD, ↓sxP0, ↓sxGd, sxP1, sxF, sxA, sxS, sxK, sxG, sxH, sxU, encs, tys, sxN, sevalprocAttr, ne_eq, decide_true, decide_false]
              refine CallI.fn (with_s true true true true true c (allE c o) o.length k hc hok (by omega) (by omega)) (by simp only [sxA, sxL, sxF, sxG, sxH, sxU, encs, sxN, sevalprocAttr, ne_eq, decide_true, decide_false] <;> (try simp) <;> (try rfl)) ?_
              simp only [↓sxD, ↓sxP0, ↓sxGd, sxP1, sxF, sxA, sxS, sxK, sxG, sxH, sxU, encs, tys, sxN, sevalprocAttr, ne_eq, decide_true, decide_false]
              refine CallI.fn (hrec) (by simp only [sxA, sxL, sxF, sxG, sxH, sxU, encs, sxN, sevalprocAttr, ne_eq, decide_true, decide_false] <;> (try simp) <;> (try rfl)) ?_
              simp only [↓sxD, ↓sxP0, ↓sxGd, sxP1, sxF, sxA, sxS, sxK, sxG, sxH, sxU, encs, tys, sxN, sevalprocAttr, ne_eq, decide_true, decide_false]
              refine BrW.dec (fun hz2 => ?_) (fun hz2 => ?_)
              · rw [if_neg hz2] at hw
                simp only [↓sxD, ↓sxP0, ↓sxGd, sxP1, sxF, sxA, sxS, sxK, sxG, sxH, sxU, encs, tys, sxN, sevalprocAttr, ne_eq, decide_true, decide_false]
                rw [← hw]
                exact EndW.fn (by simp only [sxL, sxG, sxH, sxU, encs, kpLL_map, sxN, sevalprocAttr, ne_eq, decide_true, decide_false] <;> (try simp) <;> (try omega)) (by simp only [sxL, sxG, sxH, sxU, encs, kpLL_map, sxN, sevalprocAttr, ne_eq, decide_true, decide_false] <;> (try simp) <;> (try omega))
              · have hz2 : (rec (x.next[J]).toNat (o ++ [(k : Int)])).2 = 0 := Decidable.not_not.1 hz2
                rw [if_pos hz2] at hw
                simp only [↓sxD, ↓sxP0, ↓sxGd, sxP1, sxF, sxA, sxS, sxK, sxG, sxH, sxU, encs, tys, sxN, sevalprocAttr, ne_eq, decide_true, decide_false]
                repeat ((with_reducible refine Vc.go ?_ fun _ => ?_); (focus (first | omega | (simp only [InK]; omega) | (simp [InK]; done) | (simp [InK]; omega))); simp only [↓sxD, ↓sxP0, ↓sxGd, sxP1, sxF, sxA, sxS, sxK, sxG, sxH, sxU, encs, tys, sxN, sevalprocAttr, ne_eq, decide_true, decide_false])
                refine ⟨k + 1, StLe.auto (by simp only [sxS, sxL, sxF, sxG, sxH, sxU, encs, sxN, sevalprocAttr, ne_eq, decide_true, decide_false] <;> (try simp [he, encs]) <;> (try omega)), ?_, ?_⟩
                · exact ⟨by omega, by rw [he]; exact hw⟩
                · omega
          · simp only [↓sxD, ↓sxP0, ↓sxGd, sxP1, sxF, sxA, sxS, sxK, sxG, sxH, sxU, encs, tys, sxN, sevalprocAttr, ne_eq, decide_true, decide_false]
            have hke : k = c.minutes.length := by omega
            subst hke
            rw [List.drop_length, hnx.symm, List.drop_length] at hw
            rw [← hw]
            exact EndW.fn (by simp only [sxL, sxG, sxH, sxU, encs, kpLL_map, sxN, sevalprocAttr, ne_eq, decide_true, decide_false] <;> (try simp [wL]) <;> (try omega)) (by simp only [sxL, sxG, sxH, sxU, encs, kpLL_map, sxN, sevalprocAttr, ne_eq, decide_true, decide_false] <;> (try simp) <;> (try omega))
  · simp only [↓sxD, ↓sxP0, ↓sxGd, sxP1, sxF, sxA, sxS, sxK, sxG, sxH, sxU, encs, tys, sxN, sevalprocAttr, ne_eq, decide_true, decide_false]
    refine BrW.dec (fun k1 => ?_) (fun k1 => ?_)
    · have hF : wF c ms tree rec own o = if (allE c o).barred = true then (0, 0) else ((own : Int), 22) := by
        unfold wF holdsE; rw [hnd, if_pos (by omega), if_neg k0, if_pos k1]
      rw [hF]
      simp only [↓sxD, ↓sxP0, ↓sxGd, sxP1, sxF, sxA, sxS, sxK, sxG, sxH, sxU, encs, tys, sxN, sevalprocAttr, ne_eq, decide_true, decide_false]
      refine BrW.of (fun hb => ?_) (fun hb => ?_)
      · simp only [↓sxD, ↓sxP0, ↓sxGd, sxP1, sxF, sxA, sxS, sxK, sxG, sxH, sxU, encs, tys, sxN, sevalprocAttr, ne_eq, decide_true, decide_false]
        rw [if_pos hb]
        exact EndW.fn (by simp only [sxL, sxG, sxH, sxU, encs, kpLL_map, sxN, sevalprocAttr, ne_eq, decide_true, decide_false] <;> (try simp) <;> (try omega)) (by simp only [sxL, sxG, sxH, sxU, encs, kpLL_map, sxN, sevalprocAttr, ne_eq, decide_true, decide_false] <;> (try simp) <;> (try omega))
      · simp only [↓sxD, ↓sxP0, ↓sxGd, sxP1, sxF, sxA, sxS, sxK, sxG, sxH, sxU, encs, tys, sxN, sevalprocAttr, ne_eq, decide_true, decide_false]
        rw [if_neg (by rw [hb]; decide)]
        exact EndW.fn (by simp only [sxL, sxG, sxH, sxU, encs, kpLL_map, sxN, sevalprocAttr, ne_eq, decide_true, decide_false] <;> (try simp) <;> (try omega)) (by simp only [sxL, sxG, sxH, sxU, encs, kpLL_map, sxN, sevalprocAttr, ne_eq, decide_true, decide_false] <;> (try simp) <;> (try omega))
    · simp only [↓sxD, ↓sxP0, ↓sxGd, sxP1, sxF, sxA, sxS, sxK, sxG, sxH, sxU, encs, tys, sxN, sevalprocAttr, ne_eq, decide_true, decide_false]
      refine BrW.dec (fun k2 => ?_) (fun k2 => ?_)
      · have hF : wF c ms tree rec own o = if (!(allE c o).barred && decide (ms ≤ leastE c (allE c o))) = true then (0, 0) else ((own : Int), 22) := by
          unfold wF holdsE; rw [hnd, if_pos (by omega), if_neg k0, if_neg k1]
        rw [hF]
        simp only [↓sxD, ↓sxP0, ↓sxGd, sxP1, sxF, sxA, sxS, sxK, sxG, sxH, sxU, encs, tys, sxN, sevalprocAttr, ne_eq, decide_true, decide_false]
        refine DrawW.plan Tok mixed (.q 0 <| .q 1 <| .q 2 <| .q 3 <| .q 4 <| .q 5 <| .q 6 <| .q 8 <| .q 9 <| .e 7 [9] <| .q 10 <| .q 11 <| .q 12 <| .done) (by kernel_rfl) (by kernel_rfl) ?_
        simp only [↓sxD, ↓sxP0, ↓sxGd, sxP1, sxF, sxA, sxS, sxK, sxG, sxH, sxU, encs, tys, sxN, sevalprocAttr, ne_eq, decide_true, decide_false]
        cases hb : (allE c o).barred with
        | true =>
          simp only [↓sxD, ↓sxP0, ↓sxGd, sxP1, sxF, sxA, sxS, sxK, sxG, sxH, sxU, encs, tys, sxN, sevalprocAttr, ne_eq, decide_true, decide_false]
          exact EndW.fn (by simp only [sxL, sxG, sxH, sxU, encs, kpLL_map, sxN, sevalprocAttr, ne_eq, decide_true, decide_false] <;> (try simp) <;> (try omega)) (by simp only [sxL, sxG, sxH, sxU, encs, kpLL_map, sxN, sevalprocAttr, ne_eq, decide_true, decide_false] <;> (try simp) <;> (try omega))
        | false =>
          simp only [↓sxD, ↓sxP0, ↓sxGd, sxP1, sxF, sxA, sxS, sxK, sxG, sxH, sxU, encs, tys, sxN, sevalprocAttr, ne_eq, decide_true, decide_false]
          have encs := And.intro encs hb
          refine CallI.fn (least_s true true true true true c (allE c o) o.length hc hok (by omega)) (by simp only [sxA, sxL, sxF, sxG, sxH, sxU, encs, sxN, sevalprocAttr, ne_eq, decide_true, decide_false] <;> (try simp) <;> (try rfl)) ?_
          simp only [↓sxD, ↓sxP0, ↓sxGd, sxP1, sxF, sxA, sxS, sxK, sxG, sxH, sxU, encs, tys, sxN, sevalprocAttr, ne_eq, decide_true, decide_false]
          refine BrW.dec (fun h2 => ?_) (fun h2 => ?_)
          · simp only [↓sxD, ↓sxP0, ↓sxGd, sxP1, sxF, sxA, sxS, sxK, sxG, sxH, sxU, encs, tys, sxN, sevalprocAttr, ne_eq, decide_true, decide_false]
            rw [if_pos (by simpa using h2)]
            exact EndW.fn (by simp only [sxL, sxG, sxH, sxU, encs, kpLL_map, sxN, sevalprocAttr, ne_eq, decide_true, decide_false] <;> (try simp) <;> (try omega)) (by simp only [sxL, sxG, sxH, sxU, encs, kpLL_map, sxN, sevalprocAttr, ne_eq, decide_true, decide_false] <;> (try simp) <;> (try omega))
          · simp only [↓sxD, ↓sxP0, ↓sxGd, sxP1, sxF, sxA, sxS, sxK, sxG, sxH, sxU, encs, tys, sxN, sevalprocAttr, ne_eq, decide_true, decide_false]
            rw [if_neg (by simpa using h2)]
            exact EndW.fn (by simp only [sxL, sxG, sxH, sxU, encs, kpLL_map, sxN, sevalprocAttr, ne_eq, decide_true, decide_false] <;> (try simp) <;> (try omega)) (by simp only [sxL, sxG, sxH, sxU, encs, kpLL_map, sxN, sevalprocAttr, ne_eq, decide_true, decide_false] <;> (try simp) <;> (try omega))
      · have hF : wF c ms tree rec own o = ((own : Int), 15) := by
          unfold wF; rw [hnd, if_neg (by omega)]
        rw [hF]
        simp only [↓sxD, ↓sxP0, ↓sxGd, sxP1, sxF, sxA, sxS, sxK, sxG, sxH, sxU, encs, tys, sxN, sevalprocAttr, ne_eq, decide_true, decide_false]
        exact EndW.fn (by simp only [sxL, sxG, sxH, sxU, encs, kpLL_map, sxN, sevalprocAttr, ne_eq, decide_true, decide_false] <;> (try simp) <;> (try omega)) (by simp only [sxL, sxG, sxH, sxU, encs, kpLL_map, sxN, sevalprocAttr, ne_eq, decide_true, decide_false] <;> (try simp) <;> (try omega))
theorem walk_s (c : Cols) (ms : Int) (tree : List Node) (hc : ColOk c) (hT : tree.length ≤ 1000000) (hnl : ∀ x ∈ tree, x.next.length ≤ 1000000) : ∀ (f : Nat) (own : Nat) (o : List Int), BgOk c.minutes.length o → o.length + f = c.minutes.length → own < tree.length → WalkP c ms tree own o (walkE c ms tree f own o)
  | 0, own, o, ho, hl, hown => by
    refine walkStep c ms tree hc _ own o ho hown hT hnl fun a ha b hb => ?_
    have h1 := othK_count ho
    rw [List.eq_nil_of_length_eq_zero (show (othK o c.minutes.length).length = 0 by omega)] at ha
    cases ha
  | f + 1, own, o, ho, hl, hown => by
    refine walkStep c ms tree hc _ own o ho hown hT hnl fun a ha b hb => ?_
    exact walk_s c ms tree hc hT hnl f b (o ++ [a]) (ho.push ha) (by simp; omega) hb
def treeP (c : Cols) (ms : Int) (tree : List Node) : Int × Int := if colErr c = 0 then treeE c ms tree else (0, colErr c)
theorem checkTree_s (c : Cols) (ms : Int) (tree : List Node) (hd : ∀ r ∈ c.dry, r.length ≤ 1000000000) (hT : tree.length ≤ 1000000) (hnl : ∀ x ∈ tree, x.next.length ≤ 1000000) : Ctr Try.prog 64 [cV true true true c, (.v (.int .i64 ms)), .sl true 2 (tree.map eN)] (fun rr => rr = ⟨.tup [(.v (.int .i64 ((treeP c ms tree).1))), (.v (.int .i64 ((treeP c ms tree).2)))], []⟩) := by
  have encs := And.intro (And.intro encs gV_eq) wV_eq
  refine Ctr.of (rs := [.tmp 6, .tmp 7]) Tok true Try.func64 rfl rfl rfl rfl (by simp [ofDL]) (fun w0 kp => ?_)
  simp only [↓sxD, ↓sxP0, ↓sxGd, sxP1, sxF, sxA, sxS, sxK, sxG, sxH, sxU, encs, tys, sxN, sevalprocAttr, ne_eq, decide_true, decide_false]
  refine CallI.fn (checkColours_s true true true c hd) (by simp only [sxA, sxL, sxF, sxG, sxH, sxU, encs, sxN, sevalprocAttr, ne_eq, decide_true, decide_false] <;> (try simp) <;> (try rfl)) ?_
  simp only [↓sxD, ↓sxP0, ↓sxGd, sxP1, sxF, sxA, sxS, sxK, sxG, sxH, sxU, encs, tys, sxN, sevalprocAttr, ne_eq, decide_true, decide_false]
  refine BrW.dec (fun h1 => ?_) (fun h1 => ?_)
  · have h1 : ¬ colErr c = 0 := h1
    rw [show treeP c ms tree = (0, colErr c) by rw [treeP, if_neg h1]]
    simp only [↓sxD, ↓sxP0, ↓sxGd, sxP1, sxF, sxA, sxS, sxK, sxG, sxH, sxU, encs, tys, sxN, sevalprocAttr, ne_eq, decide_true, decide_false]
    exact EndW.fn (by simp only [sxL, sxG, sxH, sxU, encs, kpLL_map, sxN, sevalprocAttr, ne_eq, decide_true, decide_false] <;> (try simp) <;> (try omega)) (by simp only [sxL, sxG, sxH, sxU, encs, kpLL_map, sxN, sevalprocAttr, ne_eq, decide_true, decide_false] <;> (try simp) <;> (try omega))
  · have h1 : colErr c = 0 := Decidable.not_not.1 h1
    have hc := colErr_ok h1
    have hn := hc.n
    rw [show treeP c ms tree = treeE c ms tree by rw [treeP, if_pos h1]]
    simp only [↓sxD, ↓sxP0, ↓sxGd, sxP1, sxF, sxA, sxS, sxK, sxG, sxH, sxU, encs, tys, sxN, sevalprocAttr, ne_eq, decide_true, decide_false]
    refine CallI.fn (within_s ms 0 1000000) (by simp only [sxA, sxL, sxF, sxG, sxH, sxU, encs, sxN, sevalprocAttr, ne_eq, decide_true, decide_false] <;> (try simp) <;> (try rfl)) ?_
    simp only [↓sxD, ↓sxP0, ↓sxGd, sxP1, sxF, sxA, sxS, sxK, sxG, sxH, sxU, encs, tys, sxN, sevalprocAttr, ne_eq, decide_true, decide_false]
    refine BrW.dec (fun h2 => ?_) (fun h2 => ?_)
    · simp only [↓sxD, ↓sxP0, ↓sxGd, sxP1, sxF, sxA, sxS, sxK, sxG, sxH, sxU, encs, tys, sxN, sevalprocAttr, ne_eq, decide_true, decide_false]
      refine CallI.fn (within_s (tree.length : Int) 1 3000) (by simp only [sxA, sxL, sxF, sxG, sxH, sxU, encs, sxN, sevalprocAttr, ne_eq, decide_true, decide_false] <;> (try simp) <;> (try rfl)) ?_
      simp only [↓sxD, ↓sxP0, ↓sxGd, sxP1, sxF, sxA, sxS, sxK, sxG, sxH, sxU, encs, tys, sxN, sevalprocAttr, ne_eq, decide_true, decide_false]
      refine BrW.dec (fun h3 => ?_) (fun h3 => ?_)
      · have hw := walk_s c ms tree hc hT hnl c.minutes.length 0 [] (BgOk.nil _) (by simp) (by omega)
        unfold WalkP at hw
        rw [show allE c [] = ⟨[], [], false⟩ from rfl] at hw
        rw [show treeE c ms tree = walkE c ms tree c.minutes.length 0 [] by rw [treeE, if_pos h2, if_pos h3]]
        simp only [↓sxD, ↓sxP0, ↓sxGd, sxP1, sxF, sxA, sxS, sxK, sxG, sxH, sxU, encs, tys, sxN, sevalprocAttr, ne_eq, decide_true, decide_false]
        refine CallI.fn (hw) (by simp only [sxA, sxL, sxF, sxG, sxH, sxU, encs, sxN, sevalprocAttr, ne_eq, decide_true, decide_false] <;> (try simp) <;> (try rfl)) ?_
        simp only [↓sxD, ↓sxP0, ↓sxGd, sxP1, sxF, sxA, sxS, sxK, sxG, sxH, sxU, encs, tys, sxN, sevalprocAttr, ne_eq, decide_true, decide_false]
        exact EndW.fn (by simp only [sxL, sxG, sxH, sxU, encs, kpLL_map, sxN, sevalprocAttr, ne_eq, decide_true, decide_false] <;> (try simp) <;> (try omega)) (by simp only [sxL, sxG, sxH, sxU, encs, kpLL_map, sxN, sevalprocAttr, ne_eq, decide_true, decide_false] <;> (try simp) <;> (try omega))
      · rw [show treeE c ms tree = (0, 10) by rw [treeE, if_pos h2, if_neg h3]]
        simp only [↓sxD, ↓sxP0, ↓sxGd, sxP1, sxF, sxA, sxS, sxK, sxG, sxH, sxU, encs, tys, sxN, sevalprocAttr, ne_eq, decide_true, decide_false]
        exact EndW.fn (by simp only [sxL, sxG, sxH, sxU, encs, kpLL_map, sxN, sevalprocAttr, ne_eq, decide_true, decide_false] <;> (try simp) <;> (try omega)) (by simp only [sxL, sxG, sxH, sxU, encs, kpLL_map, sxN, sevalprocAttr, ne_eq, decide_true, decide_false] <;> (try simp) <;> (try omega))
    · rw [show treeE c ms tree = (0, 2) by rw [treeE, if_neg h2]]
      simp only [↓sxD, ↓sxP0, ↓sxGd, sxP1, sxF, sxA, sxS, sxK, sxG, sxH, sxU, encs, tys, sxN, sevalprocAttr, ne_eq, decide_true, decide_false]
      exact EndW.fn (by simp only [sxL, sxG, sxH, sxU, encs, kpLL_map, sxN, sevalprocAttr, ne_eq, decide_true, decide_false] <;> (try simp) <;> (try omega)) (by simp only [sxL, sxG, sxH, sxU, encs, kpLL_map, sxN, sevalprocAttr, ne_eq, decide_true, decide_false] <;> (try simp) <;> (try omega))
end Go.Proofs.Ytaagelngbbkllaa
