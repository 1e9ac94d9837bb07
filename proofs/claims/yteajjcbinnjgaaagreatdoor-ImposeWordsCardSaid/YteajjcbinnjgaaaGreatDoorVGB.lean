/-
 Chapter 6, walks: folds.
-/
import Derived.Test.YteajjcbinnjgaaaGreatDoorVGA
namespace Go.Proofs.YteajjcbinnjgaaaGreatDoor
open Go Go.Vx
set_option linter.unusedSimpArgs false
set_option maxRecDepth 20000
theorem laid3_s (caps : List D) (b : Bool) (c r : Nat) (res : List Leaf) (hput : Ctr Tryz.prog 125 ([(.v (.int .i64 r)), (.v (.int .i64 c))] ++ ofDL caps) (fun rr => rr = ⟨.row 0, [.own 116 4 (res.map eL)]⟩)) (hlend : ∀ rw bx, argOk rw bx (ofDL caps) (ofDL caps) = True) :
  Ctr Tryz.prog 127 ([(.v (.int .i64 c)), (.v (.int .i64 r))] ++ [.pt b [.clo 125 caps]]) (fun rr => rr = ⟨.row 0, [.own 116 4 (res.map eL)]⟩) := by
 have encs := And.intro encs hlend
 refine Ctr.of (rs := [.tmp 5]) Tok false Tryz.func127 rfl rfl rfl rfl (by simp [ofDL]) (fun w0 kp => ?_)
 simp only [↓sx0, sxE, encs, sevalprocAttr]
 refine CallI.ctr (hput) (by simp only [sx3, encs, sxR, sevalprocAttr] <;> (try simp) <;> (try rfl)) ?_
 rintro _ rfl
 simp only [↓sx0, sxE, encs, sevalprocAttr]
 exact EndW.r [some 0] (by simp) (by simp only [sx4, sxF, encs, kpLL_map, sxR, sevalprocAttr] <;> simp [kpL, kpD]) (by simp only [sx4, sxF, encs, kpLL_map, sxR, sevalprocAttr] <;> simp [kpL, kpD]) (by simp only [sx4, sxF, encs, kpLL_map, sxR, sevalprocAttr] <;> simp [kpL, kpD]) (by simp only [sx4, sxF, encs, kpLL_map, sxR, sevalprocAttr] <;> simp [kpL, kpD])
theorem laid_s (b rows back : Bool) (ls : List (List Leaf)) (hf : FineP ls) (cols rws first : Nat) (hc : cols ≤ 1000) (hr : rws ≤ 1000) (hn : ls.length = rws * cols) (h1 : first ≤ if rows then rws else cols) :
  Ctr Tryz.prog 97 [.agg [(.v (.int .i64 cols)), (.v (.int .i64 rws)), .sl b 1 (ls.map eK)], (.v (.int .i64 first)), (.v (.bool (rows))), (.v (.bool (back)))] (fun rr => rr = ⟨.agg [(.v (.int .i64 (if rows then (cols : Int) else first))), (.v (.int .i64 (if rows then (first : Int) else rws))), .sl true 1 ((laidG cols rws first rows back ls).map eK)], []⟩) := by
 have put := fun along across => put_at b back rows cols rws first ls hf hc hr hn h1 along across
 unfold capP capG at put
 cases rows <;> simp only [Bool.false_eq_true, if_false, if_true] at h1 put ⊢
 ·refine Ctr.of (rs := [.cell 8 137]) Tok true Tryz.func97 rfl rfl rfl rfl (by simp [ofDL]) (fun w0 kp => ?_)
  simp only [↓sx0, sxE, encs, sevalprocAttr]
  refine DrawW.plan Tok mixed (.q 0 <| .q 1 <| .q 2 <| .q 3 <| .e 4 [1, 3] <| .e 5 [3] <| .q 6 <| .done) (by kernel_rfl) (by kernel_rfl) ?_
  simp only [↓sx0, sxE, encs, sevalprocAttr]
  refine CallI.fn (moved_s 125 _ (by intro; rfl) (by intro β γ; simp [leL, leV, ofDL, ofD]) (by intro rw bx; simp [argOk, lendA, lendO, argO, ofD, ofDL, leV]) first rws (fun c r => laidAt cols rws first false back ls c r) put (by omega) hr) (by simp only [sx3, encs, sxR, sevalprocAttr] <;> (try simp) <;> (try rfl)) ?_
  simp only [↓sx0, sxE, encs, sevalprocAttr]
  refine EndW.fn ?_ ?_ <;> simp only [sx4, encs, kpLL_map, sxR, sevalprocAttr] <;> (try simp [laidG]) <;> (try omega)
 ·refine Ctr.of (rs := [.cell 8 137]) Tok true Tryz.func97 rfl rfl rfl rfl (by simp [ofDL]) (fun w0 kp => ?_)
  simp only [↓sx0, sxE, encs, sevalprocAttr]
  refine DrawW.plan Tok mixed (.q 0 <| .q 1 <| .q 2 <| .q 3 <| .e 4 [1, 3] <| .e 5 [3] <| .q 6 <| .done) (by kernel_rfl) (by kernel_rfl) ?_
  simp only [↓sx0, sxE, encs, sevalprocAttr]
  refine CallI.fn (moved_s 127 [.pt false [.clo 125 [.pt false [.v (.bool back)], .pt false [.v (.int .i64 first)], .pt false [.clo 124 [.pt false [.v (.bool back)], .pt false [.v (.int .i64 rws)], .pt false [.v (.bool true)], .pt false [.v (.int .i64 cols), .v (.int .i64 rws), .sl b 1 (ls.map eK)]]], .pt false [.v (.int .i64 rws)], .pt false [.v (.bool true)]]]] (by intro; rfl) (by intro β γ; simp [leL, leV, ofDL, ofD]) (by intro rw bx; simp [argOk, lendA, lendO, argO, ofD, ofDL, leV]) cols first (fun c r => laidAt cols rws first true back ls r c) (fun c r h2 h3 => laid3_s _ false c r _ (put r c h3 h2) (by intro rw bx; simp [argOk, lendA, lendO, argO, ofD, ofDL, leV])) hc (by omega)) (by simp only [sx3, encs, sxR, sevalprocAttr] <;> (try simp) <;> (try rfl)) ?_
  simp only [↓sx0, sxE, encs, sevalprocAttr]
  refine EndW.fn ?_ ?_ <;> simp only [sx4, encs, kpLL_map, sxR, sevalprocAttr] <;> (try simp [laidG]) <;> (try omega)
/-- A pile that is folded. -/
structure PileS where
 cols : Nat
 rows : Nat
 ls : List (List Leaf)
def PileS.Ok (p : PileS) : Prop := p.cols ≤ 1000 ∧ p.rows ≤ 1000 ∧ p.ls.length = p.rows * p.cols ∧ FineP p.ls
def foldSide (p : PileS) (x : Fold) : Nat := if x.kind = 3 ∨ x.kind = 4 then p.rows else p.cols
def foldErrS (p : PileS) (x : Fold) : Int :=
 if ¬ (1 ≤ x.kind ∧ x.kind ≤ 6) then 15
 else if (if x.kind = 5 ∨ x.kind = 6 then x.count ≠ 0 else x.count < 1) then 2
 else if ¬ (x.kind = 5 ∨ x.kind = 6) ∧ (foldSide p x : Int) - x.count < x.count then 26 else 0
def foldP (p : PileS) (x : Fold) : PileS :=
 if foldErrS p x ≠ 0 then p
 else if x.kind = 5 then ⟨p.cols, p.rows, overG p.cols p.rows p.ls⟩
 else if x.kind = 6 then ⟨p.cols, p.rows, roundG p.cols p.rows p.ls⟩
 else
  let first := ((foldSide p x : Int) - x.count).toNat
  let rows := decide (x.kind = 3 ∨ x.kind = 4)
  ⟨if rows then p.cols else first, if rows then first else p.rows, laidG p.cols p.rows first rows (decide (x.kind = 2 ∨ x.kind = 4)) p.ls⟩
def svP (p : PileS) : SV := .agg [(.v (.int .i64 p.cols)), (.v (.int .i64 p.rows)), .sl true 1 (p.ls.map eK)]
theorem fold_s (p : PileS) (hp : p.Ok) (x : Fold) (hx : -9223372036854775808 ≤ x.count ∧ x.count ≤ 9223372036854775807) : Ctr Tryz.prog 76 [.agg [(.v (.int .i64 p.cols)), (.v (.int .i64 p.rows)), .sl true 1 (p.ls.map eK)], .agg [(.v (.int .i64 x.kind)), (.v (.int .i64 x.count))]] (fun rr => rr = ⟨.tup [.agg [(.v (.int .i64 ((foldP p x).cols))), (.v (.int .i64 ((foldP p x).rows))), .sl true 1 ((foldP p x).ls.map eK)], (.v (.int .i64 (foldErrS p x)))], []⟩) := by
 obtain ⟨hc, hr, hn, hf⟩ := hp
 have hkind : x.kind = 1 ∨ x.kind = 2 ∨ x.kind = 3 ∨ x.kind = 4 ∨ x.kind = 5 ∨ x.kind = 6 ∨ ¬ (1 ≤ x.kind ∧ x.kind ≤ 6) := by omega
 obtain ⟨kind, count⟩ := x
 simp only [] at hkind hx
 rcases hkind with rfl | rfl | rfl | rfl | rfl | rfl | hk
 ·refine Ctr.of (rs := [.cell 4 137, .tmp 5]) Tok true Tryz.func76 rfl rfl rfl rfl (by simp [ofDL]) (fun w0 kp => ?_)
  simp only [↓sx0, sxE, encs, sevalprocAttr]
  refine CallI.fn (within_s 1 1 6) (by simp only [sx3, encs, sxR, sevalprocAttr] <;> (try simp) <;> (try rfl)) ?_
  simp only [↓sx0, sxE, encs, sevalprocAttr]
  refine BrW.dec (fun h1 => ?_) (fun h1 => ?_)
  ·simp only [↓sx0, sxE, encs, sevalprocAttr]
   refine EndW.fn ?_ ?_ <;> simp only [sx4, encs, kpLL_map, sxR, sevalprocAttr] <;> (try simp [foldP, foldErrS, h1]) <;> (try omega)
  ·simp only [↓sx0, sxE, encs, sevalprocAttr]
   repeat ((with_reducible refine Vc.go ?_ fun _ => ?_); (focus (first | omega | (simp only [InK]; omega) | (simp [InK]; done) | (simp [InK]; omega))); simp only [↓sx0, sxE, encs, sevalprocAttr])
   refine BrW.dec (fun h2 => ?_) (fun h2 => ?_)
   ·simp only [↓sx0, sxE, encs, sevalprocAttr]
    refine EndW.fn ?_ ?_ <;> simp only [sx4, encs, kpLL_map, sxR, sevalprocAttr] <;> (try simp [foldP, foldErrS, foldSide, h1, h2]) <;> (try omega)
   ·simp only [↓sx0, sxE, encs, sevalprocAttr]
    repeat ((with_reducible refine Vc.go ?_ fun _ => ?_); (focus (first | omega | (simp only [InK]; omega) | (simp [InK]; done) | (simp [InK]; omega))); simp only [↓sx0, sxE, encs, sevalprocAttr])
    have hfi : ((((p.cols : Int) - count).toNat : Nat) : Int) = (p.cols : Int) - count := by omega
    have hl := laid_s true false false p.ls hf p.cols p.rows ((p.cols : Int) - count).toNat hc hr hn (by simp; omega)
    rw [hfi] at hl
    simp only [Bool.false_eq_true, if_false, if_true] at hl
    refine CallI.fn (hl) (by simp only [sx3, encs, sxR, sevalprocAttr] <;> (try simp) <;> (try rfl)) ?_
    simp only [↓sx0, sxE, encs, sevalprocAttr]
    refine EndW.fn ?_ ?_ <;> simp only [sx4, encs, kpLL_map, sxR, sevalprocAttr] <;> (try simp [foldP, foldErrS, foldSide, h1, h2, hfi]) <;> (try omega)
 ·refine Ctr.of (rs := [.cell 4 137, .tmp 5]) Tok true Tryz.func76 rfl rfl rfl rfl (by simp [ofDL]) (fun w0 kp => ?_)
  simp only [↓sx0, sxE, encs, sevalprocAttr]
  refine CallI.fn (within_s 2 1 6) (by simp only [sx3, encs, sxR, sevalprocAttr] <;> (try simp) <;> (try rfl)) ?_
  simp only [↓sx0, sxE, encs, sevalprocAttr]
  refine BrW.dec (fun h1 => ?_) (fun h1 => ?_)
  ·simp only [↓sx0, sxE, encs, sevalprocAttr]
   refine EndW.fn ?_ ?_ <;> simp only [sx4, encs, kpLL_map, sxR, sevalprocAttr] <;> (try simp [foldP, foldErrS, h1]) <;> (try omega)
  ·simp only [↓sx0, sxE, encs, sevalprocAttr]
   repeat ((with_reducible refine Vc.go ?_ fun _ => ?_); (focus (first | omega | (simp only [InK]; omega) | (simp [InK]; done) | (simp [InK]; omega))); simp only [↓sx0, sxE, encs, sevalprocAttr])
   refine BrW.dec (fun h2 => ?_) (fun h2 => ?_)
   ·simp only [↓sx0, sxE, encs, sevalprocAttr]
    refine EndW.fn ?_ ?_ <;> simp only [sx4, encs, kpLL_map, sxR, sevalprocAttr] <;> (try simp [foldP, foldErrS, foldSide, h1, h2]) <;> (try omega)
   ·simp only [↓sx0, sxE, encs, sevalprocAttr]
    repeat ((with_reducible refine Vc.go ?_ fun _ => ?_); (focus (first | omega | (simp only [InK]; omega) | (simp [InK]; done) | (simp [InK]; omega))); simp only [↓sx0, sxE, encs, sevalprocAttr])
    have hfi : ((((p.cols : Int) - count).toNat : Nat) : Int) = (p.cols : Int) - count := by omega
    have hl := laid_s true false true p.ls hf p.cols p.rows ((p.cols : Int) - count).toNat hc hr hn (by simp; omega)
    rw [hfi] at hl
    simp only [Bool.false_eq_true, if_false, if_true] at hl
    refine CallI.fn (hl) (by simp only [sx3, encs, sxR, sevalprocAttr] <;> (try simp) <;> (try rfl)) ?_
    simp only [↓sx0, sxE, encs, sevalprocAttr]
    refine EndW.fn ?_ ?_ <;> simp only [sx4, encs, kpLL_map, sxR, sevalprocAttr] <;> (try simp [foldP, foldErrS, foldSide, h1, h2, hfi]) <;> (try omega)
 ·refine Ctr.of (rs := [.cell 4 137, .tmp 5]) Tok true Tryz.func76 rfl rfl rfl rfl (by simp [ofDL]) (fun w0 kp => ?_)
  simp only [↓sx0, sxE, encs, sevalprocAttr]
  refine CallI.fn (within_s 3 1 6) (by simp only [sx3, encs, sxR, sevalprocAttr] <;> (try simp) <;> (try rfl)) ?_
  simp only [↓sx0, sxE, encs, sevalprocAttr]
  refine BrW.dec (fun h1 => ?_) (fun h1 => ?_)
  ·simp only [↓sx0, sxE, encs, sevalprocAttr]
   refine EndW.fn ?_ ?_ <;> simp only [sx4, encs, kpLL_map, sxR, sevalprocAttr] <;> (try simp [foldP, foldErrS, h1]) <;> (try omega)
  ·simp only [↓sx0, sxE, encs, sevalprocAttr]
   repeat ((with_reducible refine Vc.go ?_ fun _ => ?_); (focus (first | omega | (simp only [InK]; omega) | (simp [InK]; done) | (simp [InK]; omega))); simp only [↓sx0, sxE, encs, sevalprocAttr])
   refine BrW.dec (fun h2 => ?_) (fun h2 => ?_)
   ·simp only [↓sx0, sxE, encs, sevalprocAttr]
    refine EndW.fn ?_ ?_ <;> simp only [sx4, encs, kpLL_map, sxR, sevalprocAttr] <;> (try simp [foldP, foldErrS, foldSide, h1, h2]) <;> (try omega)
   ·simp only [↓sx0, sxE, encs, sevalprocAttr]
    repeat ((with_reducible refine Vc.go ?_ fun _ => ?_); (focus (first | omega | (simp only [InK]; omega) | (simp [InK]; done) | (simp [InK]; omega))); simp only [↓sx0, sxE, encs, sevalprocAttr])
    have hfi : ((((p.rows : Int) - count).toNat : Nat) : Int) = (p.rows : Int) - count := by omega
    have hl := laid_s true true false p.ls hf p.cols p.rows ((p.rows : Int) - count).toNat hc hr hn (by simp; omega)
    rw [hfi] at hl
    simp only [Bool.false_eq_true, if_false, if_true] at hl
    refine CallI.fn (hl) (by simp only [sx3, encs, sxR, sevalprocAttr] <;> (try simp) <;> (try rfl)) ?_
    simp only [↓sx0, sxE, encs, sevalprocAttr]
    refine EndW.fn ?_ ?_ <;> simp only [sx4, encs, kpLL_map, sxR, sevalprocAttr] <;> (try simp [foldP, foldErrS, foldSide, h1, h2, hfi]) <;> (try omega)
 ·refine Ctr.of (rs := [.cell 4 137, .tmp 5]) Tok true Tryz.func76 rfl rfl rfl rfl (by simp [ofDL]) (fun w0 kp => ?_)
  simp only [↓sx0, sxE, encs, sevalprocAttr]
  refine CallI.fn (within_s 4 1 6) (by simp only [sx3, encs, sxR, sevalprocAttr] <;> (try simp) <;> (try rfl)) ?_
  simp only [↓sx0, sxE, encs, sevalprocAttr]
  refine BrW.dec (fun h1 => ?_) (fun h1 => ?_)
  ·simp only [↓sx0, sxE, encs, sevalprocAttr]
   refine EndW.fn ?_ ?_ <;> simp only [sx4, encs, kpLL_map, sxR, sevalprocAttr] <;> (try simp [foldP, foldErrS, h1]) <;> (try omega)
  ·simp only [↓sx0, sxE, encs, sevalprocAttr]
   repeat ((with_reducible refine Vc.go ?_ fun _ => ?_); (focus (first | omega | (simp only [InK]; omega) | (simp [InK]; done) | (simp [InK]; omega))); simp only [↓sx0, sxE, encs, sevalprocAttr])
   refine BrW.dec (fun h2 => ?_) (fun h2 => ?_)
   ·simp only [↓sx0, sxE, encs, sevalprocAttr]
    refine EndW.fn ?_ ?_ <;> simp only [sx4, encs, kpLL_map, sxR, sevalprocAttr] <;> (try simp [foldP, foldErrS, foldSide, h1, h2]) <;> (try omega)
   ·simp only [↓sx0, sxE, encs, sevalprocAttr]
    repeat ((with_reducible refine Vc.go ?_ fun _ => ?_); (focus (first | omega | (simp only [InK]; omega) | (simp [InK]; done) | (simp [InK]; omega))); simp only [↓sx0, sxE, encs, sevalprocAttr])
    have hfi : ((((p.rows : Int) - count).toNat : Nat) : Int) = (p.rows : Int) - count := by omega
    have hl := laid_s true true true p.ls hf p.cols p.rows ((p.rows : Int) - count).toNat hc hr hn (by simp; omega)
    rw [hfi] at hl
    simp only [Bool.false_eq_true, if_false, if_true] at hl
    refine CallI.fn (hl) (by simp only [sx3, encs, sxR, sevalprocAttr] <;> (try simp) <;> (try rfl)) ?_
    simp only [↓sx0, sxE, encs, sevalprocAttr]
    refine EndW.fn ?_ ?_ <;> simp only [sx4, encs, kpLL_map, sxR, sevalprocAttr] <;> (try simp [foldP, foldErrS, foldSide, h1, h2, hfi]) <;> (try omega)
 ·refine Ctr.of (rs := [.cell 4 137, .tmp 5]) Tok true Tryz.func76 rfl rfl rfl rfl (by simp [ofDL]) (fun w0 kp => ?_)
  simp only [↓sx0, sxE, encs, sevalprocAttr]
  refine CallI.fn (within_s 5 1 6) (by simp only [sx3, encs, sxR, sevalprocAttr] <;> (try simp) <;> (try rfl)) ?_
  simp only [↓sx0, sxE, encs, sevalprocAttr]
  refine BrW.dec (fun h1 => ?_) (fun h1 => ?_)
  ·simp only [↓sx0, sxE, encs, sevalprocAttr]
   refine EndW.fn ?_ ?_ <;> simp only [sx4, encs, kpLL_map, sxR, sevalprocAttr] <;> (try simp [foldP, foldErrS, h1]) <;> (try omega)
  ·simp only [↓sx0, sxE, encs, sevalprocAttr]
   refine CallI.fn (over_s true p.ls hf p.cols p.rows hc hr hn) (by simp only [sx3, encs, sxR, sevalprocAttr] <;> (try simp) <;> (try rfl)) ?_
   simp only [↓sx0, sxE, encs, sevalprocAttr]
   refine EndW.fn ?_ ?_ <;> simp only [sx4, encs, kpLL_map, sxR, sevalprocAttr] <;> (try simp [foldP, foldErrS, h1]) <;> (try omega)
 ·refine Ctr.of (rs := [.cell 4 137, .tmp 5]) Tok true Tryz.func76 rfl rfl rfl rfl (by simp [ofDL]) (fun w0 kp => ?_)
  simp only [↓sx0, sxE, encs, sevalprocAttr]
  refine CallI.fn (within_s 6 1 6) (by simp only [sx3, encs, sxR, sevalprocAttr] <;> (try simp) <;> (try rfl)) ?_
  simp only [↓sx0, sxE, encs, sevalprocAttr]
  refine BrW.dec (fun h1 => ?_) (fun h1 => ?_)
  ·simp only [↓sx0, sxE, encs, sevalprocAttr]
   refine EndW.fn ?_ ?_ <;> simp only [sx4, encs, kpLL_map, sxR, sevalprocAttr] <;> (try simp [foldP, foldErrS, h1]) <;> (try omega)
  ·simp only [↓sx0, sxE, encs, sevalprocAttr]
   refine CallI.fn (round_s true p.ls hf p.cols p.rows hc hr hn) (by simp only [sx3, encs, sxR, sevalprocAttr] <;> (try simp) <;> (try rfl)) ?_
   simp only [↓sx0, sxE, encs, sevalprocAttr]
   refine EndW.fn ?_ ?_ <;> simp only [sx4, encs, kpLL_map, sxR, sevalprocAttr] <;> (try simp [foldP, foldErrS, h1]) <;> (try omega)
 ·have e5 : ¬ kind = 5 := by omega
  have e6 : ¬ kind = 6 := by omega
  have e3 : ¬ kind = 3 := by omega
  have e4 : ¬ kind = 4 := by omega
  refine Ctr.of (rs := [.cell 4 137, .tmp 5]) Tok true Tryz.func76 rfl rfl rfl rfl (by simp [ofDL]) (fun w0 kp => ?_)
  simp only [↓sx0, sxE, encs, sevalprocAttr]
  refine BrW.no e5 ?_
  simp only [↓sx0, sxE, encs, sevalprocAttr]
  refine BrW.no e3 ?_
  simp only [↓sx0, sxE, encs, sevalprocAttr]
  refine BrW.no e4 ?_
  simp only [↓sx0, sxE, encs, sevalprocAttr]
  refine CallI.fn (within_s kind 1 6) (by simp only [sx3, encs, sxR, sevalprocAttr] <;> (try simp) <;> (try rfl)) ?_
  simp only [↓sx0, sxE, encs, sevalprocAttr]
  refine BrW.no hk ?_
  simp only [↓sx0, sxE, encs, sevalprocAttr]
  refine EndW.fn ?_ ?_ <;> simp only [sx4, encs, kpLL_map, sxR, sevalprocAttr] <;> (try simp [foldP, foldErrS, hk]) <;> (try omega)
end Go.Proofs.YteajjcbinnjgaaaGreatDoor
/-
 Chapter 6, walks: folded sheets.
-/
namespace Go.Proofs.YteajjcbinnjgaaaGreatDoor
open Go Go.Vx
set_option linter.unusedSimpArgs false
set_option maxRecDepth 20000
/-- a pile that is right, its stacks at most so high. -/
structure PileS.Good (h : Nat) (p : PileS) : Prop where
 c1 : 1 ≤ p.cols
 c2 : p.cols ≤ 1000
 r1 : 1 ≤ p.rows
 r2 : p.rows ≤ 1000
 len : p.ls.length = p.rows * p.cols
 fine : ∀ l ∈ p.ls, Fine l ∧ l.length ≤ h
theorem PileS.Good.ok {h : Nat} {p : PileS} (g : p.Good h) (hh : h ≤ 400000) : p.Ok := ⟨g.c2, g.r2, g.len, fun l hl => ⟨(g.fine l hl).1, Nat.le_trans (g.fine l hl).2 hh⟩⟩
theorem mem_grid {α : Type} {cols rows : Nat} {f : Nat → Nat → α} {x : α} (h : x ∈ grid cols rows f) : ∃ c r, c < cols ∧ r < rows ∧ x = f c r := by
 simp only [grid, gridRow, List.mem_flatMap, List.mem_map, List.mem_range] at h
 obtain ⟨r, hr, c, hc, rfl⟩ := h
 exact ⟨c, r, hc, hr, rfl⟩
theorem stkAt_good {h : Nat} {ls : List (List Leaf)} (hf : ∀ l ∈ ls, Fine l ∧ l.length ≤ h) (i : Nat) : Fine (stkAt ls i) ∧ (stkAt ls i).length ≤ h := by
 by_cases hi : i < ls.length
 ·exact hf _ (List.mem_of_getElem? (stkAt_get hi))
 ·have : stkAt ls i = [] := by simp [stkAt, List.getD_eq_getElem?_getD, List.getElem?_eq_none (Nat.le_of_not_lt hi)]
  rw [this]; exact ⟨fun x hx => by simp at hx, by simp⟩
theorem fine_flip {l : List Leaf} (b : Bool) (h : Fine l) : Fine (l.reverse.map (flip b)) := fun x hx => by
 simp only [List.mem_map, List.mem_reverse] at hx
 obtain ⟨y, hy, rfl⟩ := hx
 obtain ⟨⟨a1, a2⟩, a3, a4⟩ := h y hy
 cases b <;> simp only [flip, Bool.false_eq_true, if_false, if_true] <;> omega
theorem fine_rnd {l : List Leaf} (h : Fine l) : Fine (l.map rnd1) := fun x hx => by
 simp only [List.mem_map] at hx
 obtain ⟨y, hy, rfl⟩ := hx
 obtain ⟨⟨a1, a2⟩, a3, a4⟩ := h y hy
 simp only [rnd1]; omega
theorem fine_app {l m : List Leaf} (h : Fine l) (k : Fine m) : Fine (l ++ m) := fun x hx => (List.mem_append.1 hx).elim (h x) (k x)
theorem foldP_good {h : Nat} {p : PileS} (g : p.Good h) {x : Fold} (he : foldErrS p x = 0) : (foldP p x).Good (2 * h) := by
 unfold foldP
 rw [if_neg (by simp [he])]
 by_cases h5 : x.kind = 5
 ·rw [if_pos h5]
  refine ⟨g.c1, g.c2, g.r1, g.r2, by simp [overG, grid_length], fun l hl => ?_⟩
  obtain ⟨c, r, _, _, rfl⟩ := mem_grid hl
  obtain ⟨f1, f2⟩ := stkAt_good g.fine (r * p.cols + (p.cols - 1 - c))
  exact ⟨fine_flip false f1, by simp; omega⟩
 rw [if_neg h5]
 by_cases h6 : x.kind = 6
 ·rw [if_pos h6]
  refine ⟨g.c1, g.c2, g.r1, g.r2, by simp [roundG, grid_length], fun l hl => ?_⟩
  obtain ⟨c, r, _, _, rfl⟩ := mem_grid hl
  obtain ⟨f1, f2⟩ := stkAt_good g.fine ((p.rows - 1 - r) * p.cols + (p.cols - 1 - c))
  exact ⟨fine_rnd f1, by simp; omega⟩
 rw [if_neg h6]
 have h56 : ¬ (x.kind = 5 ∨ x.kind = 6) := by omega
 unfold foldErrS at he
 simp only [h56, if_false, not_false_eq_true, true_and] at he
 by_cases hk : ¬ (1 ≤ x.kind ∧ x.kind ≤ 6)
 ·rw [if_pos hk] at he; omega
 rw [if_neg hk] at he
 by_cases hc : x.count < 1
 ·rw [if_pos hc] at he; omega
 rw [if_neg hc] at he
 by_cases hs : (foldSide p x : Int) - x.count < x.count
 ·rw [if_pos hs] at he; omega
 have hlaid : ∀ (rows back : Bool) (first along across : Nat), Fine (laidAt p.cols p.rows first rows back p.ls along across) ∧ (laidAt p.cols p.rows first rows back p.ls along across).length ≤ 2 * h := fun rows back first along across => by
  unfold laidAt
  simp only []
  generalize (if back = true then first - 1 - along else along) = a
  generalize (if rows = true then p.rows else p.cols) = side
  obtain ⟨f1, f2⟩ := stkAt_good g.fine (getAt back rows side p.cols (2 * first - 1 - a) across)
  obtain ⟨f3, f4⟩ := stkAt_good g.fine (getAt back rows side p.cols a across)
  split
  ·exact ⟨fine_app (fine_flip _ f1) f3, by simp; omega⟩
  ·exact ⟨f3, by omega⟩
 have h34 : foldSide p x = if x.kind = 3 ∨ x.kind = 4 then p.rows else p.cols := rfl
 have g1 := g.c1; have g2 := g.c2; have g3 := g.r1; have g4 := g.r2
 by_cases hr : x.kind = 3 ∨ x.kind = 4
 ·rw [if_pos hr] at h34
  simp only [hr, decide_true, if_true]
  refine ⟨g.c1, g.c2, ?_, ?_, by simp [laidG, grid_length], fun l hl => ?_⟩
  ·show 1 ≤ ((foldSide p x : Int) - x.count).toNat; omega
  ·show ((foldSide p x : Int) - x.count).toNat ≤ 1000; omega
  ·simp only [laidG, if_true] at hl
   obtain ⟨c, r, _, _, rfl⟩ := mem_grid hl
   exact hlaid _ _ _ _ _
 ·rw [if_neg hr] at h34
  simp only [hr, decide_false, Bool.false_eq_true, if_false]
  refine ⟨?_, ?_, g.r1, g.r2, by simp [laidG, grid_length], fun l hl => ?_⟩
  ·show 1 ≤ ((foldSide p x : Int) - x.count).toNat; omega
  ·show ((foldSide p x : Int) - x.count).toNat ≤ 1000; omega
  ·simp only [laidG, Bool.false_eq_true, if_false] at hl
   obtain ⟨c, r, _, _, rfl⟩ := mem_grid hl
   exact hlaid _ _ _ _ _
/-- folds one by one, till one is wrong. -/
def foldRun : PileS → Nat → List Fold → PileS × Option (Nat × Int)
 | p, _, [] => (p, none)
 | p, i, x :: l => if foldErrS p x ≠ 0 then (foldP p x, some (i, foldErrS p x)) else foldRun (foldP p x) (i + 1) l
def flatP (c r : Nat) : PileS := ⟨c, r, flatG c r⟩
theorem flatP_good {c r : Nat} (hc : 1 ≤ c) (hc2 : c ≤ 1000) (hr : 1 ≤ r) (hr2 : r ≤ 1000) : (flatP c r).Good 1 := ⟨hc, hc2, hr, hr2, by simp [flatP, flatG, grid_length], fun l hl => by
 simp only [flatP, flatG] at hl
 obtain ⟨a, b, _, _, rfl⟩ := mem_grid hl
 exact ⟨fun x hx => by simp only [oneL, List.mem_singleton] at hx; subst hx; simp, by simp [oneL]⟩⟩
def foldedS (c r : Int) (l : List Fold) : List Leaf × Int × Int :=
 if sheetErr c r ≠ 0 then ([], 0, sheetErr c r) else if 12 < l.length then ([], 0, 8) else
 match foldRun (flatP c.toNat r.toNat) 0 l with
 | (_, some (i, e)) => ([], i, e)
 | (p, none) => if 1 < p.ls.length then ([], l.length, 25) else (p.ls.headD [], 0, 0)
/-- counts are numbers of the machine. -/
def Cnt (l : List Fold) : Prop := ∀ x ∈ l, -9223372036854775808 ≤ x.count ∧ x.count ≤ 9223372036854775807
theorem folded_s (b : Bool) (c r : Int) (l : List Fold) (hl : Cnt l) : Ctr Tryz.prog 52 [.agg [(.v (.int .i64 c)), (.v (.int .i64 r))], .sl b 2 (l.map eF)] (fun rr => rr = ⟨.tup [.sl true 4 ((foldedS c r l).1.map eL), (.v (.int .i64 ((foldedS c r l).2.1))), (.v (.int .i64 ((foldedS c r l).2.2)))], []⟩) := by
 refine Ctr.of (rs := [.tmp 4, .tmp 5, .tmp 6]) Tok true Tryz.func52 rfl rfl rfl rfl (by simp [ofDL]) (fun w0 kp => ?_)
 simp only [↓sx0, sxE, encs, sevalprocAttr]
 repeat ((with_reducible refine Vc.go ?_ fun _ => ?_); (focus (first | omega | (simp only [InK]; omega) | (simp [InK]; done) | (simp [InK]; omega))); simp only [↓sx0, sxE, encs, sevalprocAttr])
 refine CallI.fn (checkSheet_s c r) (by simp only [sx3, encs, sxR, sevalprocAttr] <;> (try simp) <;> (try rfl)) ?_
 simp only [↓sx0, sxE, encs, sevalprocAttr]
 refine BrW.dec (fun he => ?_) (fun he => ?_)
 ·simp only [↓sx0, sxE, encs, sevalprocAttr]
  refine EndW.fn ?_ ?_ <;> simp only [sx4, encs, kpLL_map, sxR, sevalprocAttr] <;> (try simp [foldedS, he]) <;> (try omega)
 ·simp only [↓sx0, sxE, encs, sevalprocAttr]
  have hsh : 1 ≤ c ∧ c ≤ 8 ∧ 1 ≤ r ∧ r ≤ 8 := by
   have he2 : sheetErr c r = 0 := by simpa using he
   unfold sheetErr at he2
   by_cases h1 : 1 ≤ c ∧ c ≤ 8
   ·rw [if_pos h1] at he2
    by_cases h2 : 1 ≤ r ∧ r ≤ 8
    ·omega
    ·rw [if_neg h2] at he2; omega
   ·rw [if_neg h1] at he2; omega
  refine BrW.dec (fun hlen => ?_) (fun hlen => ?_)
  ·simp only [↓sx0, sxE, encs, sevalprocAttr]
   have : 12 < l.length := by omega
   refine EndW.fn ?_ ?_ <;> simp only [sx4, encs, kpLL_map, sxR, sevalprocAttr] <;> (try simp [foldedS, he, this]) <;> (try omega)
  ·simp only [↓sx0, sxE, encs, sevalprocAttr]
   have hlen2 : ¬ 12 < l.length := by omega
   obtain ⟨cn, rfl⟩ : ∃ cn : Nat, c = cn := ⟨c.toNat, by omega⟩
   obtain ⟨rn, rfl⟩ : ∃ rn : Nat, r = rn := ⟨r.toNat, by omega⟩
   repeat ((with_reducible refine Vc.go ?_ fun _ => ?_); (focus (first | omega | (simp only [InK]; omega) | (simp [InK]; done) | (simp [InK]; omega))); simp only [↓sx0, sxE, encs, sevalprocAttr])
   refine CallI.fn (flat_s cn rn (by omega) (by omega)) (by simp only [sx3, encs, sxR, sevalprocAttr] <;> (try simp) <;> (try rfl)) ?_
   simp only [↓sx0, sxE, encs, sevalprocAttr]
   refine LoopW.comp [1, 8, 28, 29, 30] (by simp only [sx2, encs, sxR, sevalprocAttr] <;> (try simp) <;> (try omega)) ?_
   simp only [sx2, sxR, sevalprocAttr]
   refine LoopW.up Tok (fun x : Nat × PileS => [(30, (.v (.int .i64 x.1)))]) (fun x => [(1, [(.v (.int .i64 x.2.cols)), (.v (.int .i64 x.2.rows)), .sl true 1 (x.2.ls.map eK)])]) (fun x => []) (fun x => []) (fun x => x.1 ≤ l.length ∧ x.2.Good (2 ^ x.1) ∧ foldRun (flatP cn rn) 0 l = foldRun x.2 x.1 (l.drop x.1)) (fun x => l.length - x.1) ((0, flatP cn rn)) (by simp only [sx2, encs, sxR, sevalprocAttr] <;> (try simp [flatP, encs]) <;> (try omega)) ?_ ?_
   ·exact ⟨by simp, flatP_good (by omega) (by omega) (by omega) (by omega), rfl⟩
   rintro ⟨k, p⟩ ⟨hk, hg, hrun⟩
   simp only [] at hk hg hrun
   have h2k : (2 : Nat) ^ k ≤ 2 ^ 12 := Nat.pow_le_pow_right (by omega) (by omega)
   simp only [↓sx0, sxE, encs, sevalprocAttr]
   refine BrW.dec (fun hlt => ?_) (fun hlt => ?_)
   ·simp only [↓sx0, sxE, encs, sevalprocAttr]
    have hk' : k < l.length := by omega
    rw [List.drop_eq_getElem_cons hk'] at hrun
    simp only [foldRun] at hrun
    refine IxW.nat hk' ?_
    simp only [↓sx0, sxE, encs, sevalprocAttr]
    refine CallI.fn (fold_s p (hg.ok (by omega)) l[k] (hl _ (List.getElem_mem hk'))) (by simp only [sx3, encs, sxR, sevalprocAttr] <;> (try simp) <;> (try rfl)) ?_
    simp only [↓sx0, sxE, encs, sevalprocAttr]
    refine BrW.dec (fun herr => ?_) (fun herr => ?_)
    ·simp only [↓sx0, sxE, encs, sevalprocAttr]
     rw [if_pos (by simpa using herr)] at hrun
     refine EndW.fn ?_ ?_ <;> simp only [sx4, encs, kpLL_map, sxR, sevalprocAttr] <;> (try simp [foldedS, he, hlen2, hrun]) <;> (try omega)
    ·simp only [↓sx0, sxE, encs, sevalprocAttr]
     have h0 : foldErrS p l[k] = 0 := by simpa using herr
     rw [if_neg (by simp [h0])] at hrun
     (with_reducible refine Vc.go ?_ fun _ => ?_); focus (first | omega | (simp only [InK]; omega) | (simp [InK]; done) | (simp [InK]; omega))
     simp only [↓sx0, sxE, encs, sevalprocAttr]
     refine ⟨(k + 1, foldP p l[k]), StLe.auto (by simp only [sx2, encs, sxR, sevalprocAttr] <;> (try simp) <;> (try omega)), ?_, ?_⟩
     ·exact ⟨hk', by have := foldP_good hg h0; rwa [Nat.pow_succ, Nat.mul_comm] , hrun⟩
     ·show l.length - (k + 1) < l.length - k; omega
   ·simp only [↓sx0, sxE, encs, sevalprocAttr]
    have hke : k = l.length := by omega
    subst hke
    rw [List.drop_length] at hrun
    simp only [foldRun] at hrun
    have hpl := hg.len
    have hpos : 1 * 1 ≤ p.rows * p.cols := Nat.mul_le_mul hg.r1 hg.c1
    refine BrW.dec (fun hop => ?_) (fun hop => ?_)
    ·simp only [↓sx0, sxE, encs, sevalprocAttr]
     have : 1 < p.ls.length := by omega
     refine EndW.fn ?_ ?_ <;> simp only [sx4, encs, kpLL_map, sxR, sevalprocAttr] <;> (try simp [foldedS, he, hlen2, hrun, this]) <;> (try omega)
    ·simp only [↓sx0, sxE, encs, sevalprocAttr]
     have h1 : ¬ 1 < p.ls.length := by omega
     obtain ⟨s, hs⟩ : ∃ s, p.ls = [s] := by
      match hp : p.ls with
      | [] => rw [hp] at hpl; simp at hpl; omega
      | [s] => exact ⟨s, rfl⟩
      | _ :: _ :: _ => rw [hp] at h1; simp at h1
     refine IxW.map s (by omega) (by simp [hs]) ?_
     simp only [↓sx0, sxE, encs, sevalprocAttr]
     refine EndW.fn ?_ ?_ <;> simp only [sx4, encs, kpLL_map, sxR, sevalprocAttr] <;> (try simp [foldedS, he, hlen2, hrun, h1, hs, kpL, kpD]) <;> (try omega)
end Go.Proofs.YteajjcbinnjgaaaGreatDoor
