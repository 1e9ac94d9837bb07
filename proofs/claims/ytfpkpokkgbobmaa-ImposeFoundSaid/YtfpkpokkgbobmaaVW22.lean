/-
  Chapter 6, walks: right schemes (the program).
-/
import Derived.Test.YtfpkpokkgbobmaaVW21
namespace Go.Proofs.Ytfpkpokkgbobmaa
open Go Go.Vx
set_option linter.unusedSimpArgs false
set_option maxRecDepth 20000
def eB (b : Bool) : List D := [.v (.bool b)]
def bl (n : Nat) (seen : List Int) : List Bool := (List.range (2 * n + 1)).map fun (j : Nat) => decide ((j : Int) ∈ seen)
theorem bl_len (n : Nat) (seen : List Int) : (bl n seen).length = 2 * n + 1 := by simp [bl]
theorem bl_get (n : Nat) (seen : List Int) {j : Int} (h0 : 0 ≤ j) (h1 : j ≤ 2 * n) : (bl n seen)[j.toNat]? = some (decide (j ∈ seen)) := by
  obtain ⟨i, rfl⟩ : ∃ i : Nat, j = i := ⟨j.toNat, by omega⟩
  simp [bl, List.getElem?_range (show i < 2 * n + 1 by omega)]
theorem bl_set (n : Nat) (seen : List Int) {a : Int} (h0 : 0 ≤ a) (_h1 : a ≤ 2 * n) : (bl n seen).set a.toNat true = bl n (seen ++ [a]) := by
  refine List.ext_getElem (by simp [bl]) fun i h2 h3 => ?_
  rw [List.getElem_set]
  simp only [bl, List.getElem_map, List.getElem_range, List.mem_append, List.mem_singleton]
  by_cases h : a.toNat = i
  · rw [if_pos h, eq_comm, decide_eq_true_iff]; exact .inr (by omega)
  · rw [if_neg h]; congr 1; simp only [eq_iff_iff]; constructor
    · exact .inl
    · rintro (h | h)
      · exact h
      · omega
theorem bl_mark (n : Nat) (seen : List Int) {a b : Int} (h0 : 0 ≤ a) (h1 : a ≤ 2 * n) (h2 : 0 ≤ b) (h3 : b ≤ 2 * n) :
    (((bl n seen).map eB).modify a.toNat (modE · 0 [.v (.bool true)])).modify b.toNat (modE · 0 [.v (.bool true)]) = (bl n (seen ++ [a, b])).map eB := by
  have e1 : ((bl n seen).map eB).modify a.toNat (modE · 0 [.v (.bool true)]) = (bl n (seen ++ [a])).map eB := by
    rw [← bl_set n seen h0 h1]; exact modify_map (bl_get n seen h0 h1) true rfl
  have e2 : ((bl n (seen ++ [a])).map eB).modify b.toNat (modE · 0 [.v (.bool true)]) = (bl n (seen ++ [a] ++ [b])).map eB := by
    rw [← bl_set n (seen ++ [a]) h2 h3]; exact modify_map (bl_get n (seen ++ [a]) h2 h3) true rfl
  rw [e1, e2, List.append_assoc]; rfl
theorem checkScheme_s (b : Bool) (c r : Int) (l : List Cell) : Ctr Try.prog 50 [.agg [(.v (.int .i64 c)), (.v (.int .i64 r)), .sl b 4 (l.map eC)]] (fun rr => rr = ⟨.tup [(.v (.int .i64 ((schS c r l).1))), (.v (.int .i64 ((schS c r l).2)))], []⟩) := by
  have encs := And.intro encs (fun b => show eB b = [.v (.bool b)] from rfl)
  refine Ctr.of (rs := [.tmp 2, .tmp 3]) Tok true Try.func50 rfl rfl rfl rfl (by simp [ofDL]) (fun w0 kp => ?_)
  simp only [↓sxD, ↓sxP0, sxP1, sxF, sxA, sxS, sxK, encs, tys, sxN, sevalprocAttr, ne_eq, decide_true, decide_false]
  refine CallI.fn (checkSheet_s c r) (by simp only [sxA, sxL, sxF, encs, sxN, sevalprocAttr, ne_eq, decide_true, decide_false] <;> (try simp)) ?_
  simp only [↓sxD, ↓sxP0, sxP1, sxF, sxA, sxS, sxK, encs, tys, sxN, sevalprocAttr, ne_eq, decide_true, decide_false]
  refine BrW.dec (fun he => ?_) (fun he => ?_)
  · simp only [↓sxD, ↓sxP0, sxP1, sxF, sxA, sxS, sxK, encs, tys, sxN, sevalprocAttr, ne_eq, decide_true, decide_false]
    exact EndW.fn (by simp only [sxL, encs, kpLL_map, sxN, sevalprocAttr, ne_eq, decide_true, decide_false] <;> (try simp [schS, he]) <;> (try omega)) (by simp only [sxL, encs, kpLL_map, sxN, sevalprocAttr, ne_eq, decide_true, decide_false] <;> (try simp) <;> (try omega))
  · simp only [↓sxD, ↓sxP0, sxP1, sxF, sxA, sxS, sxK, encs, tys, sxN, sevalprocAttr, ne_eq, decide_true, decide_false]
    have he0 : sheetErr c r = 0 := Decidable.not_not.1 he
    have hsh := sheet_ok he0
    have b1 : c * r ≤ 8 * 8 := Int.mul_le_mul hsh.2.1 hsh.2.2.2 (by omega) (by omega)
    have b2 : 0 ≤ c * r := Int.mul_nonneg (by omega) (by omega)
    (with_reducible refine Vc.go ?_ fun _ => ?_); focus (first | omega | (simp only [InK]; omega) | (simp [InK]; done) | (simp [InK]; omega))
    simp only [↓sxD, ↓sxP0, sxP1, sxF, sxA, sxS, sxK, encs, tys, sxN, sevalprocAttr, ne_eq, decide_true, decide_false]
    refine BrW.dec (fun hln => ?_) (fun hln => ?_)
    · simp only [↓sxD, ↓sxP0, sxP1, sxF, sxA, sxS, sxK, encs, tys, sxN, sevalprocAttr, ne_eq, decide_true, decide_false]
      exact EndW.fn (by simp only [sxL, encs, kpLL_map, sxN, sevalprocAttr, ne_eq, decide_true, decide_false] <;> (try simp [schS, he0, hln]) <;> (try omega)) (by simp only [sxL, encs, kpLL_map, sxN, sevalprocAttr, ne_eq, decide_true, decide_false] <;> (try simp) <;> (try omega))
    · simp only [↓sxD, ↓sxP0, sxP1, sxF, sxA, sxS, sxK, encs, tys, sxN, sevalprocAttr, ne_eq, decide_true, decide_false]
      have hln0 := Decidable.not_not.1 hln
      repeat ((with_reducible refine Vc.go ?_ fun _ => ?_); (focus (first | omega | (simp only [InK]; omega) | (simp [InK]; done) | (simp [InK]; omega))); simp only [↓sxD, ↓sxP0, sxP1, sxF, sxA, sxS, sxK, encs, tys, sxN, sevalprocAttr, ne_eq, decide_true, decide_false])
      rw [← hln0]
      have hrep : List.replicate (2 * (l.length : Int) + 1).toNat [D.v (.bool false)] = (bl l.length (seenK l 0)).map eB := by
        rw [show (2 * (l.length : Int) + 1).toNat = 2 * l.length + 1 by omega]
        refine List.ext_getElem (by simp [bl]) fun i h1 h2 => ?_
        simp [bl, seenK_zero, eB]
      rw [hrep]
      refine LoopW.comp [5, 6, 32, 33, 34] (by simp only [sxS, sxL, sxF, encs, sxN, sevalprocAttr, ne_eq, decide_true, decide_false] <;> (try simp) <;> (try omega)) ?_
      simp only [sxS, sxF, sxN, sevalprocAttr, ne_eq, decide_true, decide_false]
      refine LoopW.up Tok (fun k : Nat => [(34, (.v (.int .i64 k)))]) (fun k => []) (fun k => [(0, (bl l.length (seenK l k)).map eB)]) (fun k => []) (fun k => k ≤ l.length ∧ schK l.length [] 0 l = schK l.length (seenK l k) k (l.drop k)) (fun k => l.length - k) (0) (by simp only [sxS, sxL, sxF, encs, sxN, sevalprocAttr, ne_eq, decide_true, decide_false] <;> (try simp) <;> (try omega)) ?_ ?_
      · exact ⟨by omega, by simp [seenK_zero]⟩
      rintro k ⟨hk, hs⟩
      simp only [↓sxD, ↓sxP0, sxP1, sxF, sxA, sxS, sxK, encs, tys, sxN, sevalprocAttr, ne_eq, decide_true, decide_false]
      refine BrW.dec (fun hlt => ?_) (fun hlt => ?_)
      · have hk2 : k < l.length := by omega
        rw [List.drop_eq_getElem_cons hk2, schK] at hs
        simp only [↓sxD, ↓sxP0, sxP1, sxF, sxA, sxS, sxK, encs, tys, sxN, sevalprocAttr, ne_eq, decide_true, decide_false]
        refine IxW.nat hk2 ?_
        simp only [↓sxD, ↓sxP0, sxP1, sxF, sxA, sxS, sxK, encs, tys, sxN, sevalprocAttr, ne_eq, decide_true, decide_false]
        repeat ((with_reducible refine Vc.go ?_ fun _ => ?_); (focus (first | omega | (simp only [InK]; omega) | (simp [InK]; done) | (simp [InK]; omega))); simp only [↓sxD, ↓sxP0, sxP1, sxF, sxA, sxS, sxK, encs, tys, sxN, sevalprocAttr, ne_eq, decide_true, decide_false])
        refine CallI.fn (within_s l[k].front 1 (2 * l.length)) (by simp only [sxA, sxL, sxF, encs, sxN, sevalprocAttr, ne_eq, decide_true, decide_false] <;> (try simp)) ?_
        simp only [↓sxD, ↓sxP0, sxP1, sxF, sxA, sxS, sxK, encs, tys, sxN, sevalprocAttr, ne_eq, decide_true, decide_false]
        refine BrW.dec (fun g1 => ?_) (fun g1 => ?_)
        · simp only [↓sxD, ↓sxP0, sxP1, sxF, sxA, sxS, sxK, encs, tys, sxN, sevalprocAttr, ne_eq, decide_true, decide_false]
          repeat ((with_reducible refine Vc.go ?_ fun _ => ?_); (focus (first | omega | (simp only [InK]; omega) | (simp [InK]; done) | (simp [InK]; omega))); simp only [↓sxD, ↓sxP0, sxP1, sxF, sxA, sxS, sxK, encs, tys, sxN, sevalprocAttr, ne_eq, decide_true, decide_false])
          refine CallI.fn (within_s l[k].back 1 (2 * l.length)) (by simp only [sxA, sxL, sxF, encs, sxN, sevalprocAttr, ne_eq, decide_true, decide_false] <;> (try simp)) ?_
          simp only [↓sxD, ↓sxP0, sxP1, sxF, sxA, sxS, sxK, encs, tys, sxN, sevalprocAttr, ne_eq, decide_true, decide_false]
          refine BrW.dec (fun g2 => ?_) (fun g2 => ?_)
          · simp only [↓sxD, ↓sxP0, sxP1, sxF, sxA, sxS, sxK, encs, tys, sxN, sevalprocAttr, ne_eq, decide_true, decide_false]
            refine CallI.fn (within_s l[k].fturn 0 1) (by simp only [sxA, sxL, sxF, encs, sxN, sevalprocAttr, ne_eq, decide_true, decide_false] <;> (try simp)) ?_
            simp only [↓sxD, ↓sxP0, sxP1, sxF, sxA, sxS, sxK, encs, tys, sxN, sevalprocAttr, ne_eq, decide_true, decide_false]
            refine BrW.dec (fun g3 => ?_) (fun g3 => ?_)
            · simp only [↓sxD, ↓sxP0, sxP1, sxF, sxA, sxS, sxK, encs, tys, sxN, sevalprocAttr, ne_eq, decide_true, decide_false]
              refine CallI.fn (within_s l[k].bturn 0 1) (by simp only [sxA, sxL, sxF, encs, sxN, sevalprocAttr, ne_eq, decide_true, decide_false] <;> (try simp)) ?_
              simp only [↓sxD, ↓sxP0, sxP1, sxF, sxA, sxS, sxK, encs, tys, sxN, sevalprocAttr, ne_eq, decide_true, decide_false]
              refine BrW.dec (fun g4 => ?_) (fun g4 => ?_)
              · simp only [↓sxD, ↓sxP0, sxP1, sxF, sxA, sxS, sxK, encs, tys, sxN, sevalprocAttr, ne_eq, decide_true, decide_false]
                have hb : ¬ clOk l.length l[k] = false := by rw [Bool.not_eq_false, clOk_iff]; omega
                rw [if_neg hb] at hs
                have q1 := bl_get l.length (seenK l k) (j := l[k].front) (by omega) (by omega)
                have q2 := bl_get l.length (seenK l k) (j := l[k].back) (by omega) (by omega)
                (with_reducible refine Vc.go ?_ fun _ => ?_); focus (first | omega | (simp only [InK]; omega) | (simp [bl_len, InK]; done) | (simp [bl_len, InK]; omega))
                simp only [↓sxD, ↓sxP0, sxP1, sxF, sxA, sxS, sxK, encs, tys, sxN, sevalprocAttr, ne_eq, decide_true, decide_false]
                refine IxW.map _ (by omega) q1 ?_
                simp only [↓sxD, ↓sxP0, sxP1, sxF, sxA, sxS, sxK, encs, tys, sxN, sevalprocAttr, ne_eq, decide_true, decide_false]
                refine BrW.dec (fun g5 => ?_) (fun g5 => ?_)
                · simp only [↓sxD, ↓sxP0, sxP1, sxF, sxA, sxS, sxK, encs, tys, sxN, sevalprocAttr, ne_eq, decide_true, decide_false]
                  rw [if_pos (.inl g5)] at hs
                  exact EndW.fn (by simp only [sxL, encs, kpLL_map, sxN, sevalprocAttr, ne_eq, decide_true, decide_false] <;> (try simp [schS, he0, hln0, hs]) <;> (try omega)) (by simp only [sxL, encs, kpLL_map, sxN, sevalprocAttr, ne_eq, decide_true, decide_false] <;> (try simp) <;> (try omega))
                · simp only [↓sxD, ↓sxP0, sxP1, sxF, sxA, sxS, sxK, encs, tys, sxN, sevalprocAttr, ne_eq, decide_true, decide_false]
                  (with_reducible refine Vc.go ?_ fun _ => ?_); focus (first | omega | (simp only [InK]; omega) | (simp [bl_len, InK]; done) | (simp [bl_len, InK]; omega))
                  simp only [↓sxD, ↓sxP0, sxP1, sxF, sxA, sxS, sxK, encs, tys, sxN, sevalprocAttr, ne_eq, decide_true, decide_false]
                  refine IxW.map _ (by omega) q2 ?_
                  simp only [↓sxD, ↓sxP0, sxP1, sxF, sxA, sxS, sxK, encs, tys, sxN, sevalprocAttr, ne_eq, decide_true, decide_false]
                  refine BrW.dec (fun g6 => ?_) (fun g6 => ?_)
                  · simp only [↓sxD, ↓sxP0, sxP1, sxF, sxA, sxS, sxK, encs, tys, sxN, sevalprocAttr, ne_eq, decide_true, decide_false]
                    rw [if_pos (.inr (.inl g6))] at hs
                    exact EndW.fn (by simp only [sxL, encs, kpLL_map, sxN, sevalprocAttr, ne_eq, decide_true, decide_false] <;> (try simp [schS, he0, hln0, hs]) <;> (try omega)) (by simp only [sxL, encs, kpLL_map, sxN, sevalprocAttr, ne_eq, decide_true, decide_false] <;> (try simp) <;> (try omega))
                  · simp only [↓sxD, ↓sxP0, sxP1, sxF, sxA, sxS, sxK, encs, tys, sxN, sevalprocAttr, ne_eq, decide_true, decide_false]
                    refine BrW.dec (fun g7 => ?_) (fun g7 => ?_)
                    · simp only [↓sxD, ↓sxP0, sxP1, sxF, sxA, sxS, sxK, encs, tys, sxN, sevalprocAttr, ne_eq, decide_true, decide_false]
                      rw [if_pos (.inr (.inr g7))] at hs
                      exact EndW.fn (by simp only [sxL, encs, kpLL_map, sxN, sevalprocAttr, ne_eq, decide_true, decide_false] <;> (try simp [schS, he0, hln0, hs]) <;> (try omega)) (by simp only [sxL, encs, kpLL_map, sxN, sevalprocAttr, ne_eq, decide_true, decide_false] <;> (try simp) <;> (try omega))
                    · simp only [↓sxD, ↓sxP0, sxP1, sxF, sxA, sxS, sxK, encs, tys, sxN, sevalprocAttr, ne_eq, decide_true, decide_false]
                      rw [if_neg (by simp only [g5, g6, g7, or_self, not_false_eq_true])] at hs
                      refine DrawW.plan Tok mixed (.q 0 <| .q 1 <| .q 2 <| .q 3 <| .q 4 <| .q 5 <| .q 6 <| .e 7 [5] <| .q 8 <| .e 9 [] <| .done) (by kernel_rfl) (by kernel_rfl) ?_
                      simp only [↓sxD, ↓sxP0, sxP1, sxF, sxA, sxS, sxK, encs, tys, sxN, sevalprocAttr, ne_eq, decide_true, decide_false]
                      repeat ((with_reducible refine Vc.go ?_ fun _ => ?_); (focus (first | omega | (simp only [InK]; omega) | (simp [bl_len, InK]; done) | (simp [bl_len, InK]; omega))); simp only [↓sxD, ↓sxP0, sxP1, sxF, sxA, sxS, sxK, encs, tys, sxN, sevalprocAttr, ne_eq, decide_true, decide_false])
                      have hm : (((bl l.length (seenK l k)).map eB).modify (l[k].front).toNat (modE · 0 [D.v (.bool true)])).modify (l[k].back).toNat (modE · 0 [D.v (.bool true)]) = (bl l.length (seenK l (k + 1))).map eB := by
                        rw [seenK_succ hk2]; exact bl_mark _ _ (by omega) (by omega) (by omega) (by omega)
                      rw [hm]
                      refine ⟨k + 1, StLe.auto (by simp only [sxS, sxL, sxF, encs, sxN, sevalprocAttr, ne_eq, decide_true, decide_false] <;> (try simp) <;> (try omega)), ?_, ?_⟩
                      · exact ⟨hk2, by rw [seenK_succ hk2]; exact hs⟩
                      · omega
              · simp only [↓sxD, ↓sxP0, sxP1, sxF, sxA, sxS, sxK, encs, tys, sxN, sevalprocAttr, ne_eq, decide_true, decide_false]
                have hb : clOk l.length l[k] = false := by rw [← Bool.not_eq_true, clOk_iff]; omega
                rw [if_pos hb] at hs
                exact EndW.fn (by simp only [sxL, encs, kpLL_map, sxN, sevalprocAttr, ne_eq, decide_true, decide_false] <;> (try simp [schS, he0, hln0, hs]) <;> (try omega)) (by simp only [sxL, encs, kpLL_map, sxN, sevalprocAttr, ne_eq, decide_true, decide_false] <;> (try simp) <;> (try omega))
            · simp only [↓sxD, ↓sxP0, sxP1, sxF, sxA, sxS, sxK, encs, tys, sxN, sevalprocAttr, ne_eq, decide_true, decide_false]
              have hb : clOk l.length l[k] = false := by rw [← Bool.not_eq_true, clOk_iff]; omega
              rw [if_pos hb] at hs
              exact EndW.fn (by simp only [sxL, encs, kpLL_map, sxN, sevalprocAttr, ne_eq, decide_true, decide_false] <;> (try simp [schS, he0, hln0, hs]) <;> (try omega)) (by simp only [sxL, encs, kpLL_map, sxN, sevalprocAttr, ne_eq, decide_true, decide_false] <;> (try simp) <;> (try omega))
          · simp only [↓sxD, ↓sxP0, sxP1, sxF, sxA, sxS, sxK, encs, tys, sxN, sevalprocAttr, ne_eq, decide_true, decide_false]
            have hb : clOk l.length l[k] = false := by rw [← Bool.not_eq_true, clOk_iff]; omega
            rw [if_pos hb] at hs
            exact EndW.fn (by simp only [sxL, encs, kpLL_map, sxN, sevalprocAttr, ne_eq, decide_true, decide_false] <;> (try simp [schS, he0, hln0, hs]) <;> (try omega)) (by simp only [sxL, encs, kpLL_map, sxN, sevalprocAttr, ne_eq, decide_true, decide_false] <;> (try simp) <;> (try omega))
        · simp only [↓sxD, ↓sxP0, sxP1, sxF, sxA, sxS, sxK, encs, tys, sxN, sevalprocAttr, ne_eq, decide_true, decide_false]
          have hb : clOk l.length l[k] = false := by rw [← Bool.not_eq_true, clOk_iff]; omega
          rw [if_pos hb] at hs
          exact EndW.fn (by simp only [sxL, encs, kpLL_map, sxN, sevalprocAttr, ne_eq, decide_true, decide_false] <;> (try simp [schS, he0, hln0, hs]) <;> (try omega)) (by simp only [sxL, encs, kpLL_map, sxN, sevalprocAttr, ne_eq, decide_true, decide_false] <;> (try simp) <;> (try omega))
      · simp only [↓sxD, ↓sxP0, sxP1, sxF, sxA, sxS, sxK, encs, tys, sxN, sevalprocAttr, ne_eq, decide_true, decide_false]
        have hke : k = l.length := by omega
        subst hke
        rw [List.drop_length, schK] at hs
        exact EndW.fn (by simp only [sxL, encs, kpLL_map, sxN, sevalprocAttr, ne_eq, decide_true, decide_false] <;> (try simp [schS, he0, hln0, hs]) <;> (try omega)) (by simp only [sxL, encs, kpLL_map, sxN, sevalprocAttr, ne_eq, decide_true, decide_false] <;> (try simp) <;> (try omega))
end Go.Proofs.Ytfpkpokkgbobmaa
