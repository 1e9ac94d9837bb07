/-
  Chapter 6, walks: piles laid over.
-/
import Derived.Test.YtfpkpokkgbobmaaVW4
namespace Go.Proofs.Ytfpkpokkgbobmaa
open Go Go.Vx
set_option linter.unusedSimpArgs false
set_option maxRecDepth 20000
/-- all stacks are fine, and not too high. -/
def FineP (ls : List (List Leaf)) : Prop := ∀ l ∈ ls, Fine l ∧ l.length ≤ 400000
def stkAt (ls : List (List Leaf)) (i : Nat) : List Leaf := ls.getD i []
theorem stkAt_get {ls : List (List Leaf)} {i : Nat} (h : i < ls.length) : ls[i]? = some (stkAt ls i) := by simp [stkAt, List.getD_eq_getElem?_getD, h]
theorem stkAt_fine {ls : List (List Leaf)} (hf : FineP ls) (i : Nat) : Fine (stkAt ls i) ∧ (stkAt ls i).length ≤ 400000 := by
  by_cases h : i < ls.length
  · exact hf _ (List.mem_of_getElem? (stkAt_get h))
  · have : stkAt ls i = [] := by simp [stkAt, List.getD_eq_getElem?_getD, List.getElem?_eq_none (Nat.le_of_not_lt h)]
    rw [this]; exact ⟨fun x hx => by simp at hx, by simp⟩
theorem cell_lt {rows cols r c : Nat} (hr : r < rows) (hc : c < cols) : r * cols + c < rows * cols := by
  have : (r + 1) * cols ≤ rows * cols := Nat.mul_le_mul_right _ hr
  rw [Nat.succ_mul] at this; omega
def overG (cols rows : Nat) (ls : List (List Leaf)) : List (List Leaf) := grid cols rows fun c r => (stkAt ls (r * cols + (cols - 1 - c))).reverse.map (flip false)
def roundG (cols rows : Nat) (ls : List (List Leaf)) : List (List Leaf) := grid cols rows fun c r => (stkAt ls ((rows - 1 - r) * cols + (cols - 1 - c))).map rnd1
theorem over_s (b : Bool) (ls : List (List Leaf)) (hf : FineP ls) (cols rows : Nat) (hc : cols ≤ 1000) (hr : rows ≤ 1000) (hn : ls.length = rows * cols) :
    Ctr Try.prog 100 [.agg [(.v (.int .i64 cols)), (.v (.int .i64 rows)), .sl b 1 (ls.map eK)]] (fun rr => rr = ⟨.agg [(.v (.int .i64 cols)), (.v (.int .i64 rows)), .sl true 1 ((overG cols rows ls).map eK)], []⟩) := by
  refine Ctr.of (rs := [.cell 2 146]) Tok true Try.func100 rfl rfl rfl rfl (by simp [ofDL]) (fun w0 kp => ?_)
  simp only [↓sxD, ↓sxP0, sxP1, sxF, sxA, sxS, sxK, encs, tys, sxN, sevalprocAttr, ne_eq, decide_true, decide_false]
  refine CallI.fn (moved_s 109 [.pt false [.v (.int .i64 cols), .v (.int .i64 rows), .sl b 1 (ls.map eK)]] (by intro; rfl) (by intro β γ; simp [leL, leV]) (by intro rw bx; simp [argOk, lendA, lendO, argO, ofD, leV]) cols rows (fun c r => (stkAt ls (r * cols + (cols - 1 - c))).reverse.map (flip false)) (fun c r h1 h2 => over1_s b false cols rows c r ls _ (stkAt_get (by rw [hn]; exact cell_lt h2 (by omega))) (by omega) hc h1 (stkAt_fine hf _).1 (by have := (stkAt_fine hf (r * cols + (cols - 1 - c))).2; omega)) hc hr) (by simp only [sxA, sxL, sxF, encs, sxN, sevalprocAttr, ne_eq, decide_true, decide_false] <;> (try simp)) ?_
  simp only [↓sxD, ↓sxP0, sxP1, sxF, sxA, sxS, sxK, encs, tys, sxN, sevalprocAttr, ne_eq, decide_true, decide_false]
  exact EndW.fn (by simp only [sxL, encs, kpLL_map, sxN, sevalprocAttr, ne_eq, decide_true, decide_false] <;> (try simp [overG]) <;> (try omega)) (by simp only [sxL, encs, kpLL_map, sxN, sevalprocAttr, ne_eq, decide_true, decide_false] <;> (try simp) <;> (try omega))
theorem round_s (b : Bool) (ls : List (List Leaf)) (hf : FineP ls) (cols rows : Nat) (hc : cols ≤ 1000) (hr : rows ≤ 1000) (hn : ls.length = rows * cols) :
    Ctr Try.prog 101 [.agg [(.v (.int .i64 cols)), (.v (.int .i64 rows)), .sl b 1 (ls.map eK)]] (fun rr => rr = ⟨.agg [(.v (.int .i64 cols)), (.v (.int .i64 rows)), .sl true 1 ((roundG cols rows ls).map eK)], []⟩) := by
  refine Ctr.of (rs := [.cell 2 146]) Tok true Try.func101 rfl rfl rfl rfl (by simp [ofDL]) (fun w0 kp => ?_)
  simp only [↓sxD, ↓sxP0, sxP1, sxF, sxA, sxS, sxK, encs, tys, sxN, sevalprocAttr, ne_eq, decide_true, decide_false]
  refine CallI.fn (moved_s 112 [.pt false [.v (.int .i64 cols), .v (.int .i64 rows), .sl b 1 (ls.map eK)]] (by intro; rfl) (by intro β γ; simp [leL, leV]) (by intro rw bx; simp [argOk, lendA, lendO, argO, ofD, leV]) cols rows (fun c r => (stkAt ls ((rows - 1 - r) * cols + (cols - 1 - c))).map rnd1) (fun c r h1 h2 => round1_s b false cols rows c r ls _ (stkAt_get (by rw [hn]; exact cell_lt (by omega) (by omega))) (by omega) hc h1 h2 (stkAt_fine hf _).1 (by have := (stkAt_fine hf ((rows - 1 - r) * cols + (cols - 1 - c))).2; omega)) hc hr) (by simp only [sxA, sxL, sxF, encs, sxN, sevalprocAttr, ne_eq, decide_true, decide_false] <;> (try simp)) ?_
  simp only [↓sxD, ↓sxP0, sxP1, sxF, sxA, sxS, sxK, encs, tys, sxN, sevalprocAttr, ne_eq, decide_true, decide_false]
  exact EndW.fn (by simp only [sxL, encs, kpLL_map, sxN, sevalprocAttr, ne_eq, decide_true, decide_false] <;> (try simp [roundG]) <;> (try omega)) (by simp only [sxL, encs, kpLL_map, sxN, sevalprocAttr, ne_eq, decide_true, decide_false] <;> (try simp) <;> (try omega))
def getI (back rows : Bool) (side cols along across : Int) : Int :=
  if rows then (if back then side - 1 - along else along) * cols + across else across * cols + (if back then side - 1 - along else along)
/-- what the closures of laid know. -/
def capG (b back rows : Bool) (side cols rws : Int) (ls : List (List Leaf)) : List D :=
  [.pt false [.v (.bool back)], .pt false [.v (.int .i64 side)], .pt false [.v (.bool rows)], .pt false [.v (.int .i64 cols), .v (.int .i64 rws), .sl b 1 (ls.map eK)]]
theorem get_s (b back rows : Bool) (side cols rws along across : Int) (ls : List (List Leaf)) (n : Nat) (l : List Leaf) (h : ls[n]? = some l) (hn : getI back rows side cols along across = n) (h1 : 0 ≤ cols) (hc : cols ≤ 1000) (hsd : side ≤ 1000) (h2 : 0 ≤ along) (hal : along < side) (h3 : 0 ≤ across) (hac : across ≤ 1000) :
    Ctr Try.prog 114 ([(.v (.int .i64 along)), (.v (.int .i64 across))] ++ ofDL (capG b back rows side cols rws ls)) (fun rr => rr = ⟨.sl true 4 (l.map eL), []⟩) := by
  unfold capG
  unfold getI at hn
  cases back <;> cases rows <;> simp only [Bool.false_eq_true, if_false, if_true] at hn
  · refine Ctr.of (rs := [.tmp 8]) Tok true Try.func114 rfl rfl rfl rfl (by simp [ofDL]) (fun w0 kp => ?_)
    simp only [↓sxD, ↓sxP0, sxP1, sxF, sxA, sxS, sxK, encs, tys, sxN, sevalprocAttr, ne_eq, decide_true, decide_false]
    refine CallI.fn (stack_s b cols rws along across ls n l h (by omega) (by omega) (by omega) (by omega) (by omega) (by omega) (by omega)) (by simp only [sxA, sxL, sxF, encs, sxN, sevalprocAttr, ne_eq, decide_true, decide_false] <;> (try simp)) ?_
    simp only [↓sxD, ↓sxP0, sxP1, sxF, sxA, sxS, sxK, encs, tys, sxN, sevalprocAttr, ne_eq, decide_true, decide_false]
    exact EndW.fn (by simp only [sxL, encs, kpLL_map, sxN, sevalprocAttr, ne_eq, decide_true, decide_false] <;> (try simp [kpL, kpD]) <;> (try omega)) (by simp only [sxL, encs, kpLL_map, sxN, sevalprocAttr, ne_eq, decide_true, decide_false] <;> (try simp) <;> (try omega))
  · refine Ctr.of (rs := [.tmp 8]) Tok true Try.func114 rfl rfl rfl rfl (by simp [ofDL]) (fun w0 kp => ?_)
    simp only [↓sxD, ↓sxP0, sxP1, sxF, sxA, sxS, sxK, encs, tys, sxN, sevalprocAttr, ne_eq, decide_true, decide_false]
    refine CallI.fn (stack_s b cols rws across along ls n l h (by omega) (by omega) (by omega) (by omega) (by omega) (by omega) (by omega)) (by simp only [sxA, sxL, sxF, encs, sxN, sevalprocAttr, ne_eq, decide_true, decide_false] <;> (try simp)) ?_
    simp only [↓sxD, ↓sxP0, sxP1, sxF, sxA, sxS, sxK, encs, tys, sxN, sevalprocAttr, ne_eq, decide_true, decide_false]
    exact EndW.fn (by simp only [sxL, encs, kpLL_map, sxN, sevalprocAttr, ne_eq, decide_true, decide_false] <;> (try simp [kpL, kpD]) <;> (try omega)) (by simp only [sxL, encs, kpLL_map, sxN, sevalprocAttr, ne_eq, decide_true, decide_false] <;> (try simp) <;> (try omega))
  · refine Ctr.of (rs := [.tmp 8]) Tok true Try.func114 rfl rfl rfl rfl (by simp [ofDL]) (fun w0 kp => ?_)
    simp only [↓sxD, ↓sxP0, sxP1, sxF, sxA, sxS, sxK, encs, tys, sxN, sevalprocAttr, ne_eq, decide_true, decide_false]
    repeat ((with_reducible refine Vc.go ?_ fun _ => ?_); (focus (first | omega | (simp only [InK]; omega) | (simp [InK]; done) | (simp [InK]; omega))); simp only [↓sxD, ↓sxP0, sxP1, sxF, sxA, sxS, sxK, encs, tys, sxN, sevalprocAttr, ne_eq, decide_true, decide_false])
    refine CallI.fn (stack_s b cols rws (side - 1 - along) across ls n l h (by omega) (by omega) (by omega) (by omega) (by omega) (by omega) (by omega)) (by simp only [sxA, sxL, sxF, encs, sxN, sevalprocAttr, ne_eq, decide_true, decide_false] <;> (try simp)) ?_
    simp only [↓sxD, ↓sxP0, sxP1, sxF, sxA, sxS, sxK, encs, tys, sxN, sevalprocAttr, ne_eq, decide_true, decide_false]
    exact EndW.fn (by simp only [sxL, encs, kpLL_map, sxN, sevalprocAttr, ne_eq, decide_true, decide_false] <;> (try simp [kpL, kpD]) <;> (try omega)) (by simp only [sxL, encs, kpLL_map, sxN, sevalprocAttr, ne_eq, decide_true, decide_false] <;> (try simp) <;> (try omega))
  · refine Ctr.of (rs := [.tmp 8]) Tok true Try.func114 rfl rfl rfl rfl (by simp [ofDL]) (fun w0 kp => ?_)
    simp only [↓sxD, ↓sxP0, sxP1, sxF, sxA, sxS, sxK, encs, tys, sxN, sevalprocAttr, ne_eq, decide_true, decide_false]
    repeat ((with_reducible refine Vc.go ?_ fun _ => ?_); (focus (first | omega | (simp only [InK]; omega) | (simp [InK]; done) | (simp [InK]; omega))); simp only [↓sxD, ↓sxP0, sxP1, sxF, sxA, sxS, sxK, encs, tys, sxN, sevalprocAttr, ne_eq, decide_true, decide_false])
    refine CallI.fn (stack_s b cols rws across (side - 1 - along) ls n l h (by omega) (by omega) (by omega) (by omega) (by omega) (by omega) (by omega)) (by simp only [sxA, sxL, sxF, encs, sxN, sevalprocAttr, ne_eq, decide_true, decide_false] <;> (try simp)) ?_
    simp only [↓sxD, ↓sxP0, sxP1, sxF, sxA, sxS, sxK, encs, tys, sxN, sevalprocAttr, ne_eq, decide_true, decide_false]
    exact EndW.fn (by simp only [sxL, encs, kpLL_map, sxN, sevalprocAttr, ne_eq, decide_true, decide_false] <;> (try simp [kpL, kpD]) <;> (try omega)) (by simp only [sxL, encs, kpLL_map, sxN, sevalprocAttr, ne_eq, decide_true, decide_false] <;> (try simp) <;> (try omega))
end Go.Proofs.Ytfpkpokkgbobmaa
