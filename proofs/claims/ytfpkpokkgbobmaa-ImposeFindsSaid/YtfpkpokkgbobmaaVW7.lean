/-
  Chapter 6, walks: folds.
-/
import Derived.Test.YtfpkpokkgbobmaaVW6
import Derived.Test.YtfpkpokkgbobmaaVW1
namespace Go.Proofs.Ytfpkpokkgbobmaa
open Go Go.Vx
set_option linter.unusedSimpArgs false
set_option maxRecDepth 20000
theorem laid3_s (caps : List D) (b : Bool) (c r : Nat) (res : List Leaf) (hput : Ctr Try.prog 115 ([(.v (.int .i64 r)), (.v (.int .i64 c))] ++ ofDL caps) (fun rr => rr = ⟨.row 0, [.own 42 4 (res.map eL)]⟩)) (hlend : ∀ rw bx, argOk rw bx (ofDL caps) (ofDL caps) = True) :
    Ctr Try.prog 117 ([(.v (.int .i64 c)), (.v (.int .i64 r))] ++ [.pt b [.clo 115 caps]]) (fun rr => rr = ⟨.row 0, [.own 42 4 (res.map eL)]⟩) := by
  have encs := And.intro encs hlend
  refine Ctr.of (rs := [.tmp 5]) Tok false Try.func117 rfl rfl rfl rfl (by simp [ofDL]) (fun w0 kp => ?_)
  simp only [↓sxD, ↓sxP0, sxP1, sxF, sxA, sxS, sxK, encs, tys, sxN, sevalprocAttr, ne_eq, decide_true, decide_false]
  refine CallI.ctr (hput) (by simp only [sxA, sxL, sxF, encs, sxN, sevalprocAttr, ne_eq, decide_true, decide_false] <;> (try simp)) ?_
  rintro _ rfl
  simp only [↓sxD, ↓sxP0, sxP1, sxF, sxA, sxS, sxK, encs, tys, sxN, sevalprocAttr, ne_eq, decide_true, decide_false]
  exact EndW.r [some 0] (by simp) (by simp only [sxL, sxF, encs, kpLL_map, sxN, sevalprocAttr, ne_eq, decide_true, decide_false] <;> simp [kpL, kpD]) (by simp only [sxL, sxF, encs, kpLL_map, sxN, sevalprocAttr, ne_eq, decide_true, decide_false] <;> simp [kpL, kpD]) (by simp only [sxL, sxF, encs, kpLL_map, sxN, sevalprocAttr, ne_eq, decide_true, decide_false] <;> simp [kpL, kpD]) (by simp only [sxL, sxF, encs, kpLL_map, sxN, sevalprocAttr, ne_eq, decide_true, decide_false] <;> simp [kpL, kpD])
theorem laid_s (b rows back : Bool) (ls : List (List Leaf)) (hf : FineP ls) (cols rws first : Nat) (hc : cols ≤ 1000) (hr : rws ≤ 1000) (hn : ls.length = rws * cols) (h1 : first ≤ if rows then rws else cols) :
    Ctr Try.prog 102 [.agg [(.v (.int .i64 cols)), (.v (.int .i64 rws)), .sl b 1 (ls.map eK)], (.v (.int .i64 first)), (.v (.bool (rows))), (.v (.bool (back)))] (fun rr => rr = ⟨.agg [(.v (.int .i64 (if rows then (cols : Int) else first))), (.v (.int .i64 (if rows then (first : Int) else rws))), .sl true 1 ((laidG cols rws first rows back ls).map eK)], []⟩) := by
  have put := fun along across => put_at b back rows cols rws first ls hf hc hr hn h1 along across
  unfold capP capG at put
  cases rows <;> simp only [Bool.false_eq_true, if_false, if_true] at h1 put ⊢
  · refine Ctr.of (rs := [.cell 8 146]) Tok true Try.func102 rfl rfl rfl rfl (by simp [ofDL]) (fun w0 kp => ?_)
    simp only [↓sxD, ↓sxP0, sxP1, sxF, sxA, sxS, sxK, encs, tys, sxN, sevalprocAttr, ne_eq, decide_true, decide_false]
    refine DrawW.plan Tok mixed (.q 0 <| .q 1 <| .q 2 <| .q 3 <| .e 4 [1, 3] <| .e 5 [3] <| .q 6 <| .done) (by kernel_rfl) (by kernel_rfl) ?_
    simp only [↓sxD, ↓sxP0, sxP1, sxF, sxA, sxS, sxK, encs, tys, sxN, sevalprocAttr, ne_eq, decide_true, decide_false]
    refine CallI.fn (moved_s 115 _ (by intro; rfl) (by intro β γ; simp [leL, leV, ofDL, ofD]) (by intro rw bx; simp [argOk, lendA, lendO, argO, ofD, ofDL, leV]) first rws (fun c r => laidAt cols rws first false back ls c r) put (by omega) hr) (by simp only [sxA, sxL, sxF, encs, sxN, sevalprocAttr, ne_eq, decide_true, decide_false] <;> (try simp)) ?_
    simp only [↓sxD, ↓sxP0, sxP1, sxF, sxA, sxS, sxK, encs, tys, sxN, sevalprocAttr, ne_eq, decide_true, decide_false]
    exact EndW.fn (by simp only [sxL, encs, kpLL_map, sxN, sevalprocAttr, ne_eq, decide_true, decide_false] <;> (try simp [laidG]) <;> (try omega)) (by simp only [sxL, encs, kpLL_map, sxN, sevalprocAttr, ne_eq, decide_true, decide_false] <;> (try simp) <;> (try omega))
  · refine Ctr.of (rs := [.cell 8 146]) Tok true Try.func102 rfl rfl rfl rfl (by simp [ofDL]) (fun w0 kp => ?_)
    simp only [↓sxD, ↓sxP0, sxP1, sxF, sxA, sxS, sxK, encs, tys, sxN, sevalprocAttr, ne_eq, decide_true, decide_false]
    refine DrawW.plan Tok mixed (.q 0 <| .q 1 <| .q 2 <| .q 3 <| .e 4 [1, 3] <| .e 5 [3] <| .q 6 <| .done) (by kernel_rfl) (by kernel_rfl) ?_
    simp only [↓sxD, ↓sxP0, sxP1, sxF, sxA, sxS, sxK, encs, tys, sxN, sevalprocAttr, ne_eq, decide_true, decide_false]
    refine CallI.fn (moved_s 117 [.pt false [.clo 115 [.pt false [.v (.bool back)], .pt false [.v (.int .i64 first)], .pt false [.clo 114 [.pt false [.v (.bool back)], .pt false [.v (.int .i64 rws)], .pt false [.v (.bool true)], .pt false [.v (.int .i64 cols), .v (.int .i64 rws), .sl b 1 (ls.map eK)]]], .pt false [.v (.int .i64 rws)], .pt false [.v (.bool true)]]]] (by intro; rfl) (by intro β γ; simp [leL, leV, ofDL, ofD]) (by intro rw bx; simp [argOk, lendA, lendO, argO, ofD, ofDL, leV]) cols first (fun c r => laidAt cols rws first true back ls r c) (fun c r h2 h3 => laid3_s _ false c r _ (put r c h3 h2) (by intro rw bx; simp [argOk, lendA, lendO, argO, ofD, ofDL, leV])) hc (by omega)) (by simp only [sxA, sxL, sxF, encs, sxN, sevalprocAttr, ne_eq, decide_true, decide_false] <;> (try simp)) ?_
    simp only [↓sxD, ↓sxP0, sxP1, sxF, sxA, sxS, sxK, encs, tys, sxN, sevalprocAttr, ne_eq, decide_true, decide_false]
    exact EndW.fn (by simp only [sxL, encs, kpLL_map, sxN, sevalprocAttr, ne_eq, decide_true, decide_false] <;> (try simp [laidG]) <;> (try omega)) (by simp only [sxL, encs, kpLL_map, sxN, sevalprocAttr, ne_eq, decide_true, decide_false] <;> (try simp) <;> (try omega))
/-- A pile that is folded. -/
structure PileS where
  cols : Nat
  rows : Nat
  ls : List (List Leaf)
def PileS.Ok (p : PileS) : Prop := p.cols ≤ 1000 ∧ p.rows ≤ 1000 ∧ p.ls.length = p.rows * p.cols ∧ FineP p.ls
def foldSide (p : PileS) (x : Fold) : Nat := if x.kind = 3 ∨ x.kind = 4 then p.rows else p.cols
def foldErrS (p : PileS) (x : Fold) : Int :=
  if ¬ (1 ≤ x.kind ∧ x.kind ≤ 6) then 15
  else if (if x.kind = 5 ∨ x.kind = 6 then x.count ≠ 0 else x.count < 1) then 2
  else if ¬ (x.kind = 5 ∨ x.kind = 6) ∧ (foldSide p x : Int) - x.count < x.count then 26 else 0
def foldP (p : PileS) (x : Fold) : PileS :=
  if foldErrS p x ≠ 0 then p
  else if x.kind = 5 then ⟨p.cols, p.rows, overG p.cols p.rows p.ls⟩
  else if x.kind = 6 then ⟨p.cols, p.rows, roundG p.cols p.rows p.ls⟩
  else
    let first := ((foldSide p x : Int) - x.count).toNat
    let rows := decide (x.kind = 3 ∨ x.kind = 4)
    ⟨if rows then p.cols else first, if rows then first else p.rows, laidG p.cols p.rows first rows (decide (x.kind = 2 ∨ x.kind = 4)) p.ls⟩
def svP (p : PileS) : SV := .agg [(.v (.int .i64 p.cols)), (.v (.int .i64 p.rows)), .sl true 1 (p.ls.map eK)]
theorem fold_s (p : PileS) (hp : p.Ok) (x : Fold) (hx : -9223372036854775808 ≤ x.count ∧ x.count ≤ 9223372036854775807) : Ctr Try.prog 92 [.agg [(.v (.int .i64 p.cols)), (.v (.int .i64 p.rows)), .sl true 1 (p.ls.map eK)], .agg [(.v (.int .i64 x.kind)), (.v (.int .i64 x.count))]] (fun rr => rr = ⟨.tup [.agg [(.v (.int .i64 ((foldP p x).cols))), (.v (.int .i64 ((foldP p x).rows))), .sl true 1 ((foldP p x).ls.map eK)], (.v (.int .i64 (foldErrS p x)))], []⟩) := by
  obtain ⟨hc, hr, hn, hf⟩ := hp
  have hkind : x.kind = 1 ∨ x.kind = 2 ∨ x.kind = 3 ∨ x.kind = 4 ∨ x.kind = 5 ∨ x.kind = 6 ∨ ¬ (1 ≤ x.kind ∧ x.kind ≤ 6) := by omega
  obtain ⟨kind, count⟩ := x
  simp only [] at hkind hx
  rcases hkind with rfl | rfl | rfl | rfl | rfl | rfl | hk
  · refine Ctr.of (rs := [.cell 4 146, .tmp 5]) Tok true Try.func92 rfl rfl rfl rfl (by simp [ofDL]) (fun w0 kp => ?_)
    simp only [↓sxD, ↓sxP0, sxP1, sxF, sxA, sxS, sxK, encs, tys, sxN, sevalprocAttr, ne_eq, decide_true, decide_false]
    refine CallI.fn (within_s 1 1 6) (by simp only [sxA, sxL, sxF, encs, sxN, sevalprocAttr, ne_eq, decide_true, decide_false] <;> (try simp)) ?_
    simp only [↓sxD, ↓sxP0, sxP1, sxF, sxA, sxS, sxK, encs, tys, sxN, sevalprocAttr, ne_eq, decide_true, decide_false]
    refine BrW.dec (fun h1 => ?_) (fun h1 => ?_)
    · simp only [↓sxD, ↓sxP0, sxP1, sxF, sxA, sxS, sxK, encs, tys, sxN, sevalprocAttr, ne_eq, decide_true, decide_false]
      exact EndW.fn (by simp only [sxL, encs, kpLL_map, sxN, sevalprocAttr, ne_eq, decide_true, decide_false] <;> (try simp [foldP, foldErrS, h1]) <;> (try omega)) (by simp only [sxL, encs, kpLL_map, sxN, sevalprocAttr, ne_eq, decide_true, decide_false] <;> (try simp) <;> (try omega))
    · simp only [↓sxD, ↓sxP0, sxP1, sxF, sxA, sxS, sxK, encs, tys, sxN, sevalprocAttr, ne_eq, decide_true, decide_false]
      repeat ((with_reducible refine Vc.go ?_ fun _ => ?_); (focus (first | omega | (simp only [InK]; omega) | (simp [InK]; done) | (simp [InK]; omega))); simp only [↓sxD, ↓sxP0, sxP1, sxF, sxA, sxS, sxK, encs, tys, sxN, sevalprocAttr, ne_eq, decide_true, decide_false])
      refine BrW.dec (fun h2 => ?_) (fun h2 => ?_)
      · simp only [↓sxD, ↓sxP0, sxP1, sxF, sxA, sxS, sxK, encs, tys, sxN, sevalprocAttr, ne_eq, decide_true, decide_false]
        exact EndW.fn (by simp only [sxL, encs, kpLL_map, sxN, sevalprocAttr, ne_eq, decide_true, decide_false] <;> (try simp [foldP, foldErrS, foldSide, h1, h2]) <;> (try omega)) (by simp only [sxL, encs, kpLL_map, sxN, sevalprocAttr, ne_eq, decide_true, decide_false] <;> (try simp) <;> (try omega))
      · simp only [↓sxD, ↓sxP0, sxP1, sxF, sxA, sxS, sxK, encs, tys, sxN, sevalprocAttr, ne_eq, decide_true, decide_false]
        repeat ((with_reducible refine Vc.go ?_ fun _ => ?_); (focus (first | omega | (simp only [InK]; omega) | (simp [InK]; done) | (simp [InK]; omega))); simp only [↓sxD, ↓sxP0, sxP1, sxF, sxA, sxS, sxK, encs, tys, sxN, sevalprocAttr, ne_eq, decide_true, decide_false])
        have hfi : ((((p.cols : Int) - count).toNat : Nat) : Int) = (p.cols : Int) - count := by omega
        have hl := laid_s true false false p.ls hf p.cols p.rows ((p.cols : Int) - count).toNat hc hr hn (by simp; omega)
        rw [hfi] at hl
        simp only [Bool.false_eq_true, if_false, if_true] at hl
        refine CallI.fn (hl) (by simp only [sxA, sxL, sxF, encs, sxN, sevalprocAttr, ne_eq, decide_true, decide_false] <;> (try simp)) ?_
        simp only [↓sxD, ↓sxP0, sxP1, sxF, sxA, sxS, sxK, encs, tys, sxN, sevalprocAttr, ne_eq, decide_true, decide_false]
        exact EndW.fn (by simp only [sxL, encs, kpLL_map, sxN, sevalprocAttr, ne_eq, decide_true, decide_false] <;> (try simp [foldP, foldErrS, foldSide, h1, h2, hfi]) <;> (try omega)) (by simp only [sxL, encs, kpLL_map, sxN, sevalprocAttr, ne_eq, decide_true, decide_false] <;> (try simp) <;> (try omega))
  · refine Ctr.of (rs := [.cell 4 146, .tmp 5]) Tok true Try.func92 rfl rfl rfl rfl (by simp [ofDL]) (fun w0 kp => ?_)
    simp only [↓sxD, ↓sxP0, sxP1, sxF, sxA, sxS, sxK, encs, tys, sxN, sevalprocAttr, ne_eq, decide_true, decide_false]
    refine CallI.fn (within_s 2 1 6) (by simp only [sxA, sxL, sxF, encs, sxN, sevalprocAttr, ne_eq, decide_true, decide_false] <;> (try simp)) ?_
    simp only [↓sxD, ↓sxP0, sxP1, sxF, sxA, sxS, sxK, encs, tys, sxN, sevalprocAttr, ne_eq, decide_true, decide_false]
    refine BrW.dec (fun h1 => ?_) (fun h1 => ?_)
    · simp only [↓sxD, ↓sxP0, sxP1, sxF, sxA, sxS, sxK, encs, tys, sxN, sevalprocAttr, ne_eq, decide_true, decide_false]
      exact EndW.fn (by simp only [sxL, encs, kpLL_map, sxN, sevalprocAttr, ne_eq, decide_true, decide_false] <;> (try simp [foldP, foldErrS, h1]) <;> (try omega)) (by simp only [sxL, encs, kpLL_map, sxN, sevalprocAttr, ne_eq, decide_true, decide_false] <;> (try simp) <;> (try omega))
    · simp only [↓sxD, ↓sxP0, sxP1, sxF, sxA, sxS, sxK, encs, tys, sxN, sevalprocAttr, ne_eq, decide_true, decide_false]
      repeat ((with_reducible refine Vc.go ?_ fun _ => ?_); (focus (first | omega | (simp only [InK]; omega) | (simp [InK]; done) | (simp [InK]; omega))); simp only [↓sxD, ↓sxP0, sxP1, sxF, sxA, sxS, sxK, encs, tys, sxN, sevalprocAttr, ne_eq, decide_true, decide_false])
      refine BrW.dec (fun h2 => ?_) (fun h2 => ?_)
      · simp only [↓sxD, ↓sxP0, sxP1, sxF, sxA, sxS, sxK, encs, tys, sxN, sevalprocAttr, ne_eq, decide_true, decide_false]
        exact EndW.fn (by simp only [sxL, encs, kpLL_map, sxN, sevalprocAttr, ne_eq, decide_true, decide_false] <;> (try simp [foldP, foldErrS, foldSide, h1, h2]) <;> (try omega)) (by simp only [sxL, encs, kpLL_map, sxN, sevalprocAttr, ne_eq, decide_true, decide_false] <;> (try simp) <;> (try omega))
      · simp only [↓sxD, ↓sxP0, sxP1, sxF, sxA, sxS, sxK, encs, tys, sxN, sevalprocAttr, ne_eq, decide_true, decide_false]
        repeat ((with_reducible refine Vc.go ?_ fun _ => ?_); (focus (first | omega | (simp only [InK]; omega) | (simp [InK]; done) | (simp [InK]; omega))); simp only [↓sxD, ↓sxP0, sxP1, sxF, sxA, sxS, sxK, encs, tys, sxN, sevalprocAttr, ne_eq, decide_true, decide_false])
        have hfi : ((((p.cols : Int) - count).toNat : Nat) : Int) = (p.cols : Int) - count := by omega
        have hl := laid_s true false true p.ls hf p.cols p.rows ((p.cols : Int) - count).toNat hc hr hn (by simp; omega)
        rw [hfi] at hl
        simp only [Bool.false_eq_true, if_false, if_true] at hl
        refine CallI.fn (hl) (by simp only [sxA, sxL, sxF, encs, sxN, sevalprocAttr, ne_eq, decide_true, decide_false] <;> (try simp)) ?_
        simp only [↓sxD, ↓sxP0, sxP1, sxF, sxA, sxS, sxK, encs, tys, sxN, sevalprocAttr, ne_eq, decide_true, decide_false]
        exact EndW.fn (by simp only [sxL, encs, kpLL_map, sxN, sevalprocAttr, ne_eq, decide_true, decide_false] <;> (try simp [foldP, foldErrS, foldSide, h1, h2, hfi]) <;> (try omega)) (by simp only [sxL, encs, kpLL_map, sxN, sevalprocAttr, ne_eq, decide_true, decide_false] <;> (try simp) <;> (try omega))
  · refine Ctr.of (rs := [.cell 4 146, .tmp 5]) Tok true Try.func92 rfl rfl rfl rfl (by simp [ofDL]) (fun w0 kp => ?_)
    simp only [↓sxD, ↓sxP0, sxP1, sxF, sxA, sxS, sxK, encs, tys, sxN, sevalprocAttr, ne_eq, decide_true, decide_false]
    refine CallI.fn (within_s 3 1 6) (by simp only [sxA, sxL, sxF, encs, sxN, sevalprocAttr, ne_eq, decide_true, decide_false] <;> (try simp)) ?_
    simp only [↓sxD, ↓sxP0, sxP1, sxF, sxA, sxS, sxK, encs, tys, sxN, sevalprocAttr, ne_eq, decide_true, decide_false]
    refine BrW.dec (fun h1 => ?_) (fun h1 => ?_)
    · simp only [↓sxD, ↓sxP0, sxP1, sxF, sxA, sxS, sxK, encs, tys, sxN, sevalprocAttr, ne_eq, decide_true, decide_false]
      exact EndW.fn (by simp only [sxL, encs, kpLL_map, sxN, sevalprocAttr, ne_eq, decide_true, decide_false] <;> (try simp [foldP, foldErrS, h1]) <;> (try omega)) (by simp only [sxL, encs, kpLL_map, sxN, sevalprocAttr, ne_eq, decide_true, decide_false] <;> (try simp) <;> (try omega))
    · simp only [↓sxD, ↓sxP0, sxP1, sxF, sxA, sxS, sxK, encs, tys, sxN, sevalprocAttr, ne_eq, decide_true, decide_false]
      repeat ((with_reducible refine Vc.go ?_ fun _ => ?_); (focus (first | omega | (simp only [InK]; omega) | (simp [InK]; done) | (simp [InK]; omega))); simp only [↓sxD, ↓sxP0, sxP1, sxF, sxA, sxS, sxK, encs, tys, sxN, sevalprocAttr, ne_eq, decide_true, decide_false])
      refine BrW.dec (fun h2 => ?_) (fun h2 => ?_)
      · simp only [↓sxD, ↓sxP0, sxP1, sxF, sxA, sxS, sxK, encs, tys, sxN, sevalprocAttr, ne_eq, decide_true, decide_false]
        exact EndW.fn (by simp only [sxL, encs, kpLL_map, sxN, sevalprocAttr, ne_eq, decide_true, decide_false] <;> (try simp [foldP, foldErrS, foldSide, h1, h2]) <;> (try omega)) (by simp only [sxL, encs, kpLL_map, sxN, sevalprocAttr, ne_eq, decide_true, decide_false] <;> (try simp) <;> (try omega))
      · simp only [↓sxD, ↓sxP0, sxP1, sxF, sxA, sxS, sxK, encs, tys, sxN, sevalprocAttr, ne_eq, decide_true, decide_false]
        repeat ((with_reducible refine Vc.go ?_ fun _ => ?_); (focus (first | omega | (simp only [InK]; omega) | (simp [InK]; done) | (simp [InK]; omega))); simp only [↓sxD, ↓sxP0, sxP1, sxF, sxA, sxS, sxK, encs, tys, sxN, sevalprocAttr, ne_eq, decide_true, decide_false])
        have hfi : ((((p.rows : Int) - count).toNat : Nat) : Int) = (p.rows : Int) - count := by omega
        have hl := laid_s true true false p.ls hf p.cols p.rows ((p.rows : Int) - count).toNat hc hr hn (by simp; omega)
        rw [hfi] at hl
        simp only [Bool.false_eq_true, if_false, if_true] at hl
        refine CallI.fn (hl) (by simp only [sxA, sxL, sxF, encs, sxN, sevalprocAttr, ne_eq, decide_true, decide_false] <;> (try simp)) ?_
        simp only [↓sxD, ↓sxP0, sxP1, sxF, sxA, sxS, sxK, encs, tys, sxN, sevalprocAttr, ne_eq, decide_true, decide_false]
        exact EndW.fn (by simp only [sxL, encs, kpLL_map, sxN, sevalprocAttr, ne_eq, decide_true, decide_false] <;> (try simp [foldP, foldErrS, foldSide, h1, h2, hfi]) <;> (try omega)) (by simp only [sxL, encs, kpLL_map, sxN, sevalprocAttr, ne_eq, decide_true, decide_false] <;> (try simp) <;> (try omega))
  · refine Ctr.of (rs := [.cell 4 146, .tmp 5]) Tok true Try.func92 rfl rfl rfl rfl (by simp [ofDL]) (fun w0 kp => ?_)
    simp only [↓sxD, ↓sxP0, sxP1, sxF, sxA, sxS, sxK, encs, tys, sxN, sevalprocAttr, ne_eq, decide_true, decide_false]
    refine CallI.fn (within_s 4 1 6) (by simp only [sxA, sxL, sxF, encs, sxN, sevalprocAttr, ne_eq, decide_true, decide_false] <;> (try simp)) ?_
    simp only [↓sxD, ↓sxP0, sxP1, sxF, sxA, sxS, sxK, encs, tys, sxN, sevalprocAttr, ne_eq, decide_true, decide_false]
    refine BrW.dec (fun h1 => ?_) (fun h1 => ?_)
    · simp only [↓sxD, ↓sxP0, sxP1, sxF, sxA, sxS, sxK, encs, tys, sxN, sevalprocAttr, ne_eq, decide_true, decide_false]
      exact EndW.fn (by simp only [sxL, encs, kpLL_map, sxN, sevalprocAttr, ne_eq, decide_true, decide_false] <;> (try simp [foldP, foldErrS, h1]) <;> (try omega)) (by simp only [sxL, encs, kpLL_map, sxN, sevalprocAttr, ne_eq, decide_true, decide_false] <;> (try simp) <;> (try omega))
    · simp only [↓sxD, ↓sxP0, sxP1, sxF, sxA, sxS, sxK, encs, tys, sxN, sevalprocAttr, ne_eq, decide_true, decide_false]
      repeat ((with_reducible refine Vc.go ?_ fun _ => ?_); (focus (first | omega | (simp only [InK]; omega) | (simp [InK]; done) | (simp [InK]; omega))); simp only [↓sxD, ↓sxP0, sxP1, sxF, sxA, sxS, sxK, encs, tys, sxN, sevalprocAttr, ne_eq, decide_true, decide_false])
      refine BrW.dec (fun h2 => ?_) (fun h2 => ?_)
      · simp only [↓sxD, ↓sxP0, sxP1, sxF, sxA, sxS, sxK, encs, tys, sxN, sevalprocAttr, ne_eq, decide_true, decide_false]
        exact EndW.fn (by simp only [sxL, encs, kpLL_map, sxN, sevalprocAttr, ne_eq, decide_true, decide_false] <;> (try simp [foldP, foldErrS, foldSide, h1, h2]) <;> (try omega)) (by simp only [sxL, encs, kpLL_map, sxN, sevalprocAttr, ne_eq, decide_true, decide_false] <;> (try simp) <;> (try omega))
      · simp only [↓sxD, ↓sxP0, sxP1, sxF, sxA, sxS, sxK, encs, tys, sxN, sevalprocAttr, ne_eq, decide_true, decide_false]
        repeat ((with_reducible refine Vc.go ?_ fun _ => ?_); (focus (first | omega | (simp only [InK]; omega) | (simp [InK]; done) | (simp [InK]; omega))); simp only [↓sxD, ↓sxP0, sxP1, sxF, sxA, sxS, sxK, encs, tys, sxN, sevalprocAttr, ne_eq, decide_true, decide_false])
        have hfi : ((((p.rows : Int) - count).toNat : Nat) : Int) = (p.rows : Int) - count := by omega
        have hl := laid_s true true true p.ls hf p.cols p.rows ((p.rows : Int) - count).toNat hc hr hn (by simp; omega)
        rw [hfi] at hl
        simp only [Bool.false_eq_true, if_false, if_true] at hl
        refine CallI.fn (hl) (by simp only [sxA, sxL, sxF, encs, sxN, sevalprocAttr, ne_eq, decide_true, decide_false] <;> (try simp)) ?_
        simp only [↓sxD, ↓sxP0, sxP1, sxF, sxA, sxS, sxK, encs, tys, sxN, sevalprocAttr, ne_eq, decide_true, decide_false]
        exact EndW.fn (by simp only [sxL, encs, kpLL_map, sxN, sevalprocAttr, ne_eq, decide_true, decide_false] <;> (try simp [foldP, foldErrS, foldSide, h1, h2, hfi]) <;> (try omega)) (by simp only [sxL, encs, kpLL_map, sxN, sevalprocAttr, ne_eq, decide_true, decide_false] <;> (try simp) <;> (try omega))
  · refine Ctr.of (rs := [.cell 4 146, .tmp 5]) Tok true Try.func92 rfl rfl rfl rfl (by simp [ofDL]) (fun w0 kp => ?_)
    simp only [↓sxD, ↓sxP0, sxP1, sxF, sxA, sxS, sxK, encs, tys, sxN, sevalprocAttr, ne_eq, decide_true, decide_false]
    refine CallI.fn (within_s 5 1 6) (by simp only [sxA, sxL, sxF, encs, sxN, sevalprocAttr, ne_eq, decide_true, decide_false] <;> (try simp)) ?_
    simp only [↓sxD, ↓sxP0, sxP1, sxF, sxA, sxS, sxK, encs, tys, sxN, sevalprocAttr, ne_eq, decide_true, decide_false]
    refine BrW.dec (fun h1 => ?_) (fun h1 => ?_)
    · simp only [↓sxD, ↓sxP0, sxP1, sxF, sxA, sxS, sxK, encs, tys, sxN, sevalprocAttr, ne_eq, decide_true, decide_false]
      exact EndW.fn (by simp only [sxL, encs, kpLL_map, sxN, sevalprocAttr, ne_eq, decide_true, decide_false] <;> (try simp [foldP, foldErrS, h1]) <;> (try omega)) (by simp only [sxL, encs, kpLL_map, sxN, sevalprocAttr, ne_eq, decide_true, decide_false] <;> (try simp) <;> (try omega))
    · simp only [↓sxD, ↓sxP0, sxP1, sxF, sxA, sxS, sxK, encs, tys, sxN, sevalprocAttr, ne_eq, decide_true, decide_false]
      refine CallI.fn (over_s true p.ls hf p.cols p.rows hc hr hn) (by simp only [sxA, sxL, sxF, encs, sxN, sevalprocAttr, ne_eq, decide_true, decide_false] <;> (try simp)) ?_
      simp only [↓sxD, ↓sxP0, sxP1, sxF, sxA, sxS, sxK, encs, tys, sxN, sevalprocAttr, ne_eq, decide_true, decide_false]
      exact EndW.fn (by simp only [sxL, encs, kpLL_map, sxN, sevalprocAttr, ne_eq, decide_true, decide_false] <;> (try simp [foldP, foldErrS, h1]) <;> (try omega)) (by simp only [sxL, encs, kpLL_map, sxN, sevalprocAttr, ne_eq, decide_true, decide_false] <;> (try simp) <;> (try omega))
  · refine Ctr.of (rs := [.cell 4 146, .tmp 5]) Tok true Try.func92 rfl rfl rfl rfl (by simp [ofDL]) (fun w0 kp => ?_)
    simp only [↓sxD, ↓sxP0, sxP1, sxF, sxA, sxS, sxK, encs, tys, sxN, sevalprocAttr, ne_eq, decide_true, decide_false]
    refine CallI.fn (within_s 6 1 6) (by simp only [sxA, sxL, sxF, encs, sxN, sevalprocAttr, ne_eq, decide_true, decide_false] <;> (try simp)) ?_
    simp only [↓sxD, ↓sxP0, sxP1, sxF, sxA, sxS, sxK, encs, tys, sxN, sevalprocAttr, ne_eq, decide_true, decide_false]
    refine BrW.dec (fun h1 => ?_) (fun h1 => ?_)
    · simp only [↓sxD, ↓sxP0, sxP1, sxF, sxA, sxS, sxK, encs, tys, sxN, sevalprocAttr, ne_eq, decide_true, decide_false]
      exact EndW.fn (by simp only [sxL, encs, kpLL_map, sxN, sevalprocAttr, ne_eq, decide_true, decide_false] <;> (try simp [foldP, foldErrS, h1]) <;> (try omega)) (by simp only [sxL, encs, kpLL_map, sxN, sevalprocAttr, ne_eq, decide_true, decide_false] <;> (try simp) <;> (try omega))
    · simp only [↓sxD, ↓sxP0, sxP1, sxF, sxA, sxS, sxK, encs, tys, sxN, sevalprocAttr, ne_eq, decide_true, decide_false]
      refine CallI.fn (round_s true p.ls hf p.cols p.rows hc hr hn) (by simp only [sxA, sxL, sxF, encs, sxN, sevalprocAttr, ne_eq, decide_true, decide_false] <;> (try simp)) ?_
      simp only [↓sxD, ↓sxP0, sxP1, sxF, sxA, sxS, sxK, encs, tys, sxN, sevalprocAttr, ne_eq, decide_true, decide_false]
      exact EndW.fn (by simp only [sxL, encs, kpLL_map, sxN, sevalprocAttr, ne_eq, decide_true, decide_false] <;> (try simp [foldP, foldErrS, h1]) <;> (try omega)) (by simp only [sxL, encs, kpLL_map, sxN, sevalprocAttr, ne_eq, decide_true, decide_false] <;> (try simp) <;> (try omega))
  · have e5 : ¬ kind = 5 := by omega
    have e6 : ¬ kind = 6 := by omega
    have e3 : ¬ kind = 3 := by omega
    have e4 : ¬ kind = 4 := by omega
    refine Ctr.of (rs := [.cell 4 146, .tmp 5]) Tok true Try.func92 rfl rfl rfl rfl (by simp [ofDL]) (fun w0 kp => ?_)
    simp only [↓sxD, ↓sxP0, sxP1, sxF, sxA, sxS, sxK, encs, tys, sxN, sevalprocAttr, ne_eq, decide_true, decide_false]
    refine BrW.no e5 ?_
    simp only [↓sxD, ↓sxP0, sxP1, sxF, sxA, sxS, sxK, encs, tys, sxN, sevalprocAttr, ne_eq, decide_true, decide_false]
    refine BrW.no e3 ?_
    simp only [↓sxD, ↓sxP0, sxP1, sxF, sxA, sxS, sxK, encs, tys, sxN, sevalprocAttr, ne_eq, decide_true, decide_false]
    refine BrW.no e4 ?_
    simp only [↓sxD, ↓sxP0, sxP1, sxF, sxA, sxS, sxK, encs, tys, sxN, sevalprocAttr, ne_eq, decide_true, decide_false]
    refine CallI.fn (within_s kind 1 6) (by simp only [sxA, sxL, sxF, encs, sxN, sevalprocAttr, ne_eq, decide_true, decide_false] <;> (try simp)) ?_
    simp only [↓sxD, ↓sxP0, sxP1, sxF, sxA, sxS, sxK, encs, tys, sxN, sevalprocAttr, ne_eq, decide_true, decide_false]
    refine BrW.no hk ?_
    simp only [↓sxD, ↓sxP0, sxP1, sxF, sxA, sxS, sxK, encs, tys, sxN, sevalprocAttr, ne_eq, decide_true, decide_false]
    exact EndW.fn (by simp only [sxL, encs, kpLL_map, sxN, sevalprocAttr, ne_eq, decide_true, decide_false] <;> (try simp [foldP, foldErrS, hk]) <;> (try omega)) (by simp only [sxL, encs, kpLL_map, sxN, sevalprocAttr, ne_eq, decide_true, decide_false] <;> (try simp) <;> (try omega))
end Go.Proofs.Ytfpkpokkgbobmaa
