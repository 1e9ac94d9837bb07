/-
  Chapter 6, walks: piles turned over and round.
-/
import Derived.Test.YtfpkpokkgbobmaaVW3
namespace Go.Proofs.Ytfpkpokkgbobmaa
open Go Go.Vx
set_option linter.unusedSimpArgs false
set_option maxRecDepth 20000
theorem stack_s (b : Bool) (cols rows c r : Int) (ls : List (List Leaf)) (n : Nat) (l : List Leaf) (h : ls[n]? = some l) (hn : r * cols + c = n) (h1 : 0 ≤ r) (h2 : r ≤ 1000) (h3 : 0 ≤ cols) (h4 : cols ≤ 1000) (h5 : 0 ≤ c) (h6 : c ≤ 1000) :
    Ctr Try.prog 111 [.agg [(.v (.int .i64 cols)), (.v (.int .i64 rows)), .sl b 1 (ls.map eK)], (.v (.int .i64 c)), (.v (.int .i64 r))] (fun rr => rr = ⟨.sl true 4 (l.map eL), []⟩) := by
  have m1 : r * cols ≤ 1000 * 1000 := Int.mul_le_mul h2 h4 h3 (by omega)
  have m2 : 0 ≤ r * cols := Int.mul_nonneg h1 h3
  refine Ctr.of (rs := [.tmp 6]) Tok true Try.func111 rfl rfl rfl rfl (by simp [ofDL]) (fun w0 kp => ?_)
  simp only [↓sxD, ↓sxP0, sxP1, sxF, sxA, sxS, sxK, encs, tys, sxN, sevalprocAttr, ne_eq, decide_true, decide_false]
  (with_reducible refine Vc.go ?_ fun _ => ?_); focus (first | omega | (simp only [InK]; omega) | (simp [InK]; done) | (simp [InK]; omega))
  simp only [↓sxD, ↓sxP0, sxP1, sxF, sxA, sxS, sxK, encs, tys, sxN, sevalprocAttr, ne_eq, decide_true, decide_false]
  (with_reducible refine Vc.go ?_ fun _ => ?_); focus (first | omega | (simp only [InK]; omega) | (simp [InK]; done) | (simp [InK]; omega))
  simp only [↓sxD, ↓sxP0, sxP1, sxF, sxA, sxS, sxK, encs, tys, sxN, sevalprocAttr, ne_eq, decide_true, decide_false]
  refine IxW.map l (by omega) (by rw [hn]; simpa using h) ?_
  simp only [↓sxD, ↓sxP0, sxP1, sxF, sxA, sxS, sxK, encs, tys, sxN, sevalprocAttr, ne_eq, decide_true, decide_false]
  exact EndW.fn (by simp only [sxL, encs, kpLL_map, sxN, sevalprocAttr, ne_eq, decide_true, decide_false] <;> (try simp [kpL, kpD]) <;> (try omega)) (by simp only [sxL, encs, kpLL_map, sxN, sevalprocAttr, ne_eq, decide_true, decide_false] <;> (try simp) <;> (try omega))
theorem over1_s (b b2 : Bool) (cols rows c r : Nat) (ls : List (List Leaf)) (l : List Leaf) (h : ls[r * cols + (cols - 1 - c)]? = some l) (h2 : r ≤ 1000) (h4 : cols ≤ 1000) (h5 : c < cols) (hf : Fine l) (hl : l.length ≤ 1000000) :
    Ctr Try.prog 109 [(.v (.int .i64 c)), (.v (.int .i64 r)), .pt b2 [.v (.int .i64 cols), .v (.int .i64 rows), .sl b 1 (ls.map eK)]] (fun rr => rr = ⟨.row 0, [.own 42 4 ((l.reverse.map (flip false)).map eL)]⟩) := by
  refine Ctr.of (rs := [.tmp 5]) Tok false Try.func109 rfl rfl rfl rfl (by simp [ofDL]) (fun w0 kp => ?_)
  simp only [↓sxD, ↓sxP0, sxP1, sxF, sxA, sxS, sxK, encs, tys, sxN, sevalprocAttr, ne_eq, decide_true, decide_false]
  (with_reducible refine Vc.go ?_ fun _ => ?_); focus (first | omega | (simp only [InK]; omega) | (simp [InK]; done) | (simp [InK]; omega))
  simp only [↓sxD, ↓sxP0, sxP1, sxF, sxA, sxS, sxK, encs, tys, sxN, sevalprocAttr, ne_eq, decide_true, decide_false]
  (with_reducible refine Vc.go ?_ fun _ => ?_); focus (first | omega | (simp only [InK]; omega) | (simp [InK]; done) | (simp [InK]; omega))
  simp only [↓sxD, ↓sxP0, sxP1, sxF, sxA, sxS, sxK, encs, tys, sxN, sevalprocAttr, ne_eq, decide_true, decide_false]
  refine CallI.fn (stack_s b cols rows ((cols : Int) - 1 - c) r ls _ l h (by push_cast; omega) (by omega) (by omega) (by omega) (by omega) (by omega) (by omega)) (by simp only [sxA, sxL, sxF, encs, sxN, sevalprocAttr, ne_eq, decide_true, decide_false] <;> (try simp)) ?_
  simp only [↓sxD, ↓sxP0, sxP1, sxF, sxA, sxS, sxK, encs, tys, sxN, sevalprocAttr, ne_eq, decide_true, decide_false]
  refine CallI.ctr (turned_s true l false hf hl) (by simp only [sxA, sxL, sxF, encs, sxN, sevalprocAttr, ne_eq, decide_true, decide_false] <;> (try simp)) ?_
  rintro _ rfl
  simp only [↓sxD, ↓sxP0, sxP1, sxF, sxA, sxS, sxK, encs, tys, sxN, sevalprocAttr, ne_eq, decide_true, decide_false]
  exact EndW.r [some 0] (by simp) (by simp only [sxL, sxF, encs, kpLL_map, sxN, sevalprocAttr, ne_eq, decide_true, decide_false] <;> simp [kpL, kpD]) (by simp only [sxL, sxF, encs, kpLL_map, sxN, sevalprocAttr, ne_eq, decide_true, decide_false] <;> simp [kpL, kpD]) (by simp only [sxL, sxF, encs, kpLL_map, sxN, sevalprocAttr, ne_eq, decide_true, decide_false] <;> simp [kpL, kpD]) (by simp only [sxL, sxF, encs, kpLL_map, sxN, sevalprocAttr, ne_eq, decide_true, decide_false] <;> simp [kpL, kpD])
theorem round1_s (b b2 : Bool) (cols rows c r : Nat) (ls : List (List Leaf)) (l : List Leaf) (h : ls[(rows - 1 - r) * cols + (cols - 1 - c)]? = some l) (h2 : rows ≤ 1000) (h4 : cols ≤ 1000) (h5 : c < cols) (h6 : r < rows) (hf : Fine l) (hl : l.length ≤ 1000000) :
    Ctr Try.prog 112 [(.v (.int .i64 c)), (.v (.int .i64 r)), .pt b2 [.v (.int .i64 cols), .v (.int .i64 rows), .sl b 1 (ls.map eK)]] (fun rr => rr = ⟨.row 0, [.own 42 4 ((l.map rnd1).map eL)]⟩) := by
  refine Ctr.of (rs := [.tmp 5]) Tok false Try.func112 rfl rfl rfl rfl (by simp [ofDL]) (fun w0 kp => ?_)
  simp only [↓sxD, ↓sxP0, sxP1, sxF, sxA, sxS, sxK, encs, tys, sxN, sevalprocAttr, ne_eq, decide_true, decide_false]
  (with_reducible refine Vc.go ?_ fun _ => ?_); focus (first | omega | (simp only [InK]; omega) | (simp [InK]; done) | (simp [InK]; omega))
  simp only [↓sxD, ↓sxP0, sxP1, sxF, sxA, sxS, sxK, encs, tys, sxN, sevalprocAttr, ne_eq, decide_true, decide_false]
  (with_reducible refine Vc.go ?_ fun _ => ?_); focus (first | omega | (simp only [InK]; omega) | (simp [InK]; done) | (simp [InK]; omega))
  simp only [↓sxD, ↓sxP0, sxP1, sxF, sxA, sxS, sxK, encs, tys, sxN, sevalprocAttr, ne_eq, decide_true, decide_false]
  (with_reducible refine Vc.go ?_ fun _ => ?_); focus (first | omega | (simp only [InK]; omega) | (simp [InK]; done) | (simp [InK]; omega))
  simp only [↓sxD, ↓sxP0, sxP1, sxF, sxA, sxS, sxK, encs, tys, sxN, sevalprocAttr, ne_eq, decide_true, decide_false]
  (with_reducible refine Vc.go ?_ fun _ => ?_); focus (first | omega | (simp only [InK]; omega) | (simp [InK]; done) | (simp [InK]; omega))
  simp only [↓sxD, ↓sxP0, sxP1, sxF, sxA, sxS, sxK, encs, tys, sxN, sevalprocAttr, ne_eq, decide_true, decide_false]
  refine CallI.fn (stack_s b cols rows ((cols : Int) - 1 - c) ((rows : Int) - 1 - r) ls _ l h (by rw [Int.natCast_add, Int.natCast_mul, show ((rows - 1 - r : Nat) : Int) = (rows : Int) - 1 - r by omega, show ((cols - 1 - c : Nat) : Int) = (cols : Int) - 1 - c by omega]) (by omega) (by omega) (by omega) (by omega) (by omega) (by omega)) (by simp only [sxA, sxL, sxF, encs, sxN, sevalprocAttr, ne_eq, decide_true, decide_false] <;> (try simp)) ?_
  simp only [↓sxD, ↓sxP0, sxP1, sxF, sxA, sxS, sxK, encs, tys, sxN, sevalprocAttr, ne_eq, decide_true, decide_false]
  refine CallI.ctr (clone_s true (l.map eL) (by simp [kpLL_map, encs, kpL, kpD]) (by simpa using hl)) (by simp only [sxA, sxL, sxF, encs, sxN, sevalprocAttr, ne_eq, decide_true, decide_false] <;> (try simp)) ?_
  rintro _ rfl
  simp only [↓sxD, ↓sxP0, sxP1, sxF, sxA, sxS, sxK, encs, tys, sxN, sevalprocAttr, ne_eq, decide_true, decide_false]
  refine LoopW.comp [6, 22, 23] (by simp only [sxS, sxL, sxF, encs, sxN, sevalprocAttr, ne_eq, decide_true, decide_false] <;> (try simp) <;> (try omega)) ?_
  simp only [sxS, sxF, sxN, sevalprocAttr, ne_eq, decide_true, decide_false]
  refine LoopW.up Tok (fun k : Nat => [(23, (.v (.int .i64 k)))]) (fun k => []) (fun k => [(0, (chg rnd1 l k).map eL)]) (fun k => []) (fun k => k ≤ l.length) (fun k => l.length - k) (0) (by simp only [sxS, sxL, sxF, encs, sxN, sevalprocAttr, ne_eq, decide_true, decide_false] <;> (try simp [chg_zero, encs]) <;> (try omega)) ?_ ?_
  · omega
  intro k hk
  simp only [↓sxD, ↓sxP0, sxP1, sxF, sxA, sxS, sxK, encs, tys, sxN, sevalprocAttr, ne_eq, decide_true, decide_false]
  refine BrW.dec (fun hlt => ?_) (fun hlt => ?_)
  · simp only [↓sxD, ↓sxP0, sxP1, sxF, sxA, sxS, sxK, encs, tys, sxN, sevalprocAttr, ne_eq, decide_true, decide_false]
    have hk' : k < l.length := by omega
    have hg := chg_at rnd1 l k hk'
    obtain ⟨⟨f1, f2⟩, f3, f4⟩ := hf l[k] (List.getElem_mem hk')
    have h1 : ((chg rnd1 l k).map eL).modify ((k : Int)).toNat (modE · 3 [.v (.int .i64 (1 - l[k].round))]) = (chg rnd1 l (k + 1)).map eL := by rw [Int.toNat_natCast, ← chg_step rnd1 l k hk']; exact modify_map hg _ rfl
    (with_reducible refine Vc.go ?_ fun _ => ?_); focus (first | omega | (simp only [InK]; omega) | (simp [chg_length, InK]; done) | (simp [chg_length, InK]; omega))
    simp only [↓sxD, ↓sxP0, sxP1, sxF, sxA, sxS, sxK, encs, tys, sxN, sevalprocAttr, ne_eq, decide_true, decide_false]
    refine IxW.map l[k] (by omega) (by simpa using hg) ?_
    simp only [↓sxD, ↓sxP0, sxP1, sxF, sxA, sxS, sxK, encs, tys, sxN, sevalprocAttr, ne_eq, decide_true, decide_false]
    (with_reducible refine Vc.go ?_ fun _ => ?_); focus (first | omega | (simp only [InK]; omega) | (simp [InK]; done) | (simp [InK]; omega))
    simp only [↓sxD, ↓sxP0, sxP1, sxF, sxA, sxS, sxK, encs, tys, sxN, sevalprocAttr, ne_eq, decide_true, decide_false]
    (with_reducible refine Vc.go ?_ fun _ => ?_); focus (first | omega | (simp only [InK]; omega) | (simp [chg_length, InK]; done) | (simp [chg_length, InK]; omega))
    simp only [↓sxD, ↓sxP0, sxP1, sxF, sxA, sxS, sxK, encs, tys, sxN, sevalprocAttr, ne_eq, decide_true, decide_false]
    (with_reducible refine Vc.go ?_ fun _ => ?_); focus (first | omega | (simp only [InK]; omega) | (simp [chg_length, InK]; done) | (simp [chg_length, InK]; omega))
    simp only [↓sxD, ↓sxP0, sxP1, sxF, sxA, sxS, sxK, encs, tys, sxN, sevalprocAttr, ne_eq, decide_true, decide_false]
    (with_reducible refine Vc.go ?_ fun _ => ?_); focus (first | omega | (simp only [InK]; omega) | (simp [InK]; done) | (simp [InK]; omega))
    simp only [↓sxD, ↓sxP0, sxP1, sxF, sxA, sxS, sxK, encs, tys, sxN, sevalprocAttr, ne_eq, decide_true, decide_false]
    rw [h1]
    refine ⟨k + 1, StLe.auto (by simp only [sxS, sxL, sxF, encs, sxN, sevalprocAttr, ne_eq, decide_true, decide_false] <;> (try simp) <;> (try omega)), ?_, ?_⟩
    · omega
    · omega
  · simp only [↓sxD, ↓sxP0, sxP1, sxF, sxA, sxS, sxK, encs, tys, sxN, sevalprocAttr, ne_eq, decide_true, decide_false]
    have hke : k = l.length := by omega
    subst hke
    rw [chg_end]
    exact EndW.r [some 0] (by simp) (by simp only [sxL, sxF, encs, kpLL_map, sxN, sevalprocAttr, ne_eq, decide_true, decide_false] <;> simp [kpL, kpD]) (by simp only [sxL, sxF, encs, kpLL_map, sxN, sevalprocAttr, ne_eq, decide_true, decide_false] <;> simp [kpL, kpD]) (by simp only [sxL, sxF, encs, kpLL_map, sxN, sevalprocAttr, ne_eq, decide_true, decide_false] <;> simp [kpL, kpD]) (by simp only [sxL, sxF, encs, kpLL_map, sxN, sevalprocAttr, ne_eq, decide_true, decide_false] <;> simp [kpL, kpD])
/-- moved: a pile made place by place. -/
theorem moved_s (f : Nat) (caps : List SV) (hren : ∀ γ, renL γ caps = caps) (hle : ∀ β γ, leL β γ caps caps = True) (hlend : ∀ rw bx, argOk rw bx caps caps = True) (cols rows : Nat) (g : Nat → Nat → List Leaf) (hof : ∀ c r, c < cols → r < rows → Ctr Try.prog f ([(.v (.int .i64 c)), (.v (.int .i64 r))] ++ caps) (fun rr => rr = ⟨.row 0, [.own 42 4 ((g c r).map eL)]⟩)) (hc : cols ≤ 1000) (hr : rows ≤ 1000) :
    Ctr Try.prog 108 [(.v (.int .i64 cols)), (.v (.int .i64 rows)), .clo f caps] (fun rr => rr = ⟨.agg [(.v (.int .i64 cols)), (.v (.int .i64 rows)), .sl true 1 ((grid cols rows g).map eK)], []⟩) := by
  have hsz : rows * cols ≤ 1000 * 1000 := Nat.mul_le_mul hr hc
  have encs := And.intro encs (And.intro hren (And.intro hle hlend))
  refine Ctr.of (rs := [.cell 6 146]) Tok true Try.func108 rfl rfl rfl rfl (by simp [ofDL]) (fun w0 kp => ?_)
  simp only [↓sxD, ↓sxP0, sxP1, sxF, sxA, sxS, sxK, encs, tys, sxN, sevalprocAttr, ne_eq, decide_true, decide_false]
  refine LoopW.comp [0, 2, 6, 7, 13, 14] (by simp only [sxS, sxL, sxF, encs, sxN, sevalprocAttr, ne_eq, decide_true, decide_false] <;> (try simp) <;> (try omega)) ?_
  simp only [sxS, sxF, sxN, sevalprocAttr, ne_eq, decide_true, decide_false]
  refine LoopW.up Tok (fun r : Nat => [(14, (.v (.int .i64 r)))]) (fun r => [(1, [(.v (.int .i64 cols)), (.v (.int .i64 rows)), .row 0])]) (fun r => []) (fun r => [.own 25 1 ((grid cols r g).map eK)]) (fun r => r ≤ rows) (fun r => rows - r) (0) (by simp only [sxS, sxL, sxF, encs, sxN, sevalprocAttr, ne_eq, decide_true, decide_false] <;> (try simp) <;> (try omega)) ?_ ?_
  · omega
  rintro r hr1
  simp only [↓sxD, ↓sxP0, sxP1, sxF, sxA, sxS, sxK, encs, tys, sxN, sevalprocAttr, ne_eq, decide_true, decide_false]
  refine BrW.dec (fun hlt => ?_) (fun hlt => ?_)
  · simp only [↓sxD, ↓sxP0, sxP1, sxF, sxA, sxS, sxK, encs, tys, sxN, sevalprocAttr, ne_eq, decide_true, decide_false]
    have hr2 : r < rows := by omega
    refine LoopW.comp [0, 2, 6, 7, 8, 13, 14, 17, 18] (by simp only [sxS, sxL, sxF, encs, sxN, sevalprocAttr, ne_eq, decide_true, decide_false] <;> (try simp) <;> (try omega)) ?_
    simp only [sxS, sxF, sxN, sevalprocAttr, ne_eq, decide_true, decide_false]
    refine LoopW.up Tok (fun k : Nat => [(18, (.v (.int .i64 k)))]) (fun k => []) (fun k => [(0, ((grid cols r g) ++ gridRow k g r).map eK)]) (fun k => []) (fun k => k ≤ cols) (fun k => cols - k) (0) (by simp only [sxS, sxL, sxF, encs, sxN, sevalprocAttr, ne_eq, decide_true, decide_false] <;> (try simp) <;> (try omega)) ?_ ?_
    · omega
    rintro k hk1
    have hlen : r * cols + k ≤ 1000000 := by
      have h1 : (r + 1) * cols ≤ rows * cols := Nat.mul_le_mul_right _ hr2
      rw [Nat.succ_mul] at h1
      omega
    simp only [↓sxD, ↓sxP0, sxP1, sxF, sxA, sxS, sxK, encs, tys, sxN, sevalprocAttr, ne_eq, decide_true, decide_false]
    refine BrW.dec (fun hlt2 => ?_) (fun hlt2 => ?_)
    · simp only [↓sxD, ↓sxP0, sxP1, sxF, sxA, sxS, sxK, encs, tys, sxN, sevalprocAttr, ne_eq, decide_true, decide_false]
      refine DrawW.plan Tok mixed (.q 0 <| .q 1 <| .q 2 <| .q 3 <| .q 4 <| .e 5 [1] <| .e 6 [1] <| .e 7 [] <| .q 8 <| .e 9 [] <| .done) (by kernel_rfl) (by kernel_rfl) ?_
      simp only [↓sxD, ↓sxP0, sxP1, sxF, sxA, sxS, sxK, encs, tys, sxN, sevalprocAttr, ne_eq, decide_true, decide_false]
      refine CallI.ctr (hof k r (by omega) hr2) (by simp only [sxA, sxL, sxF, encs, sxN, sevalprocAttr, ne_eq, decide_true, decide_false] <;> (try simp)) ?_
      rintro _ rfl
      simp only [↓sxD, ↓sxP0, sxP1, sxF, sxA, sxS, sxK, encs, tys, sxN, sevalprocAttr, ne_eq, decide_true, decide_false]
      (with_reducible refine Vc.go ?_ fun _ => ?_); focus (first | omega | (simp only [InK]; omega) | (simp [grid_length, gridRow_length, InK]; done) | (simp [grid_length, gridRow_length, InK]; omega))
      simp only [↓sxD, ↓sxP0, sxP1, sxF, sxA, sxS, sxK, encs, tys, sxN, sevalprocAttr, ne_eq, decide_true, decide_false]
      (with_reducible refine Vc.go ?_ fun _ => ?_); focus (first | omega | (simp only [InK]; omega) | (simp [InK]; done) | (simp [InK]; omega))
      simp only [↓sxD, ↓sxP0, sxP1, sxF, sxA, sxS, sxK, encs, tys, sxN, sevalprocAttr, ne_eq, decide_true, decide_false]
      refine ⟨k + 1, StLe.auto (by simp only [sxS, sxL, sxF, encs, sxN, sevalprocAttr, ne_eq, decide_true, decide_false] <;> (try simp [gridRow_succ, encs]) <;> (try omega)), ?_, ?_⟩
      · omega
      · omega
    · simp only [↓sxD, ↓sxP0, sxP1, sxF, sxA, sxS, sxK, encs, tys, sxN, sevalprocAttr, ne_eq, decide_true, decide_false]
      have : k = cols := by omega
      subst this
      (with_reducible refine Vc.go ?_ fun _ => ?_); focus (first | omega | (simp only [InK]; omega) | (simp [InK]; done) | (simp [InK]; omega))
      simp only [↓sxD, ↓sxP0, sxP1, sxF, sxA, sxS, sxK, encs, tys, sxN, sevalprocAttr, ne_eq, decide_true, decide_false]
      refine ⟨r + 1, StLe.auto (by simp only [sxS, sxL, sxF, encs, sxN, sevalprocAttr, ne_eq, decide_true, decide_false] <;> (try simp [grid_succ, encs]) <;> (try omega)), ?_, ?_⟩
      · omega
      · omega
  · simp only [↓sxD, ↓sxP0, sxP1, sxF, sxA, sxS, sxK, encs, tys, sxN, sevalprocAttr, ne_eq, decide_true, decide_false]
    have : r = rows := by omega
    subst this
    exact EndW.fn (by simp only [sxL, encs, kpLL_map, sxN, sevalprocAttr, ne_eq, decide_true, decide_false] <;> (try simp) <;> (try omega)) (by simp only [sxL, encs, kpLL_map, sxN, sevalprocAttr, ne_eq, decide_true, decide_false] <;> (try simp) <;> (try omega))
end Go.Proofs.Ytfpkpokkgbobmaa
