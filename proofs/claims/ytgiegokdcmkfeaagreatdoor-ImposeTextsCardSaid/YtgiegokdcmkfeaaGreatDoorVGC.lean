/-
 Chapter 6, walks: folds.
-/
import Derived.Test.YtgiegokdcmkfeaaGreatDoorVGB
import Derived.Test.YtgiegokdcmkfeaaGreatDoorVB6
import Derived.Test.YtgiegokdcmkfeaaGreatDoorVRev
set_option linter.unusedSimpArgs false
set_option linter.unusedVariables false
namespace Go.Proofs.YtgiegokdcmkfeaaGreatDoor
open Go Go.Vx
set_option maxRecDepth 20000
theorem laid3_s (caps : List D) (b : Bool) (c r : Nat) (res : List Leaf) (hput : Ctr Tryz.prog 118 ([(.v (.int .i64 r)), (.v (.int .i64 c))] ++ ofDL caps) (fun rr => rr = ⟨.row 0, [.own 79 4 (res.map eL)]⟩)) (hlend : ∀ rw bx, argOk rw bx (ofDL caps) (ofDL caps) = True) :
  Ctr Tryz.prog 120 ([(.v (.int .i64 c)), (.v (.int .i64 r))] ++ [.pt b [.clo 118 caps]]) (fun rr => rr = ⟨.row 0, [.own 79 4 (res.map eL)]⟩) := by
 have encs := And.intro encs hlend
 refine Ctr.of (rs := [.tmp 5]) Tok false Tryz.func120 rfl rfl rfl rfl (by simp [ofDL]) (fun w0 kp => ?_)
 simp only [↓sx0, sxE, encs, sevalprocAttr]
 refine CallI.ctr (hput) (by simp only [sx3, encs, sxR, sevalprocAttr] <;> (try simp) <;> (try rfl)) ?_
 rintro _ rfl
 simp only [↓sx0, sxE, encs, sevalprocAttr]
 exact EndW.r [some 0] (by simp) (by simp only [sx4, sxF, encs, kpLL_map, sxR, sevalprocAttr] <;> simp [kpL, kpD]) (by simp only [sx4, sxF, encs, kpLL_map, sxR, sevalprocAttr] <;> simp [kpL, kpD]) (by simp only [sx4, sxF, encs, kpLL_map, sxR, sevalprocAttr] <;> simp [kpL, kpD]) (by simp only [sx4, sxF, encs, kpLL_map, sxR, sevalprocAttr] <;> simp [kpL, kpD])
theorem laid_s (b rows back : Bool) (ls : List (List Leaf)) (hf : FineP ls) (cols rws first : Nat) (hc : cols ≤ 1000) (hr : rws ≤ 1000) (hn : ls.length = rws * cols) (h1 : first ≤ if rows then rws else cols) :
  Ctr Tryz.prog 96 [.agg [(.v (.int .i64 cols)), (.v (.int .i64 rws)), .sl b 1 (ls.map eK)], (.v (.int .i64 first)), (.v (.bool (rows))), (.v (.bool (back)))] (fun rr => rr = ⟨.agg [(.v (.int .i64 (if rows then (cols : Int) else first))), (.v (.int .i64 (if rows then (first : Int) else rws))), .sl true 1 ((laidG cols rws first rows back ls).map eK)], []⟩) := by
 have put := fun along across => put_at b back rows cols rws first ls hf hc hr hn h1 along across
 unfold capP capG at put
 cases rows <;> simp only [Bool.false_eq_true, if_false, if_true] at h1 put ⊢
 ·refine Ctr.of (rs := [.cell 8 143]) Tok true Tryz.func96 rfl rfl rfl rfl (by simp [ofDL]) (fun w0 kp => ?_)
  simp only [↓sx0, sxE, encs, sevalprocAttr]
  refine DrawW.plan Tok mixed (.q 0 <| .q 1 <| .q 2 <| .q 3 <| .e 4 [1, 3] <| .e 5 [3] <| .q 6 <| .done) (by kernel_rfl) (by kernel_rfl) ?_
  simp only [↓sx0, sxE, encs, sevalprocAttr]
  refine CallI.fn (moved_s 118 _ (by intro; rfl) (by intro β γ; simp [leL, leV, ofDL, ofD]) (by intro rw bx; simp [argOk, lendA, lendO, argO, ofD, ofDL, leV]) first rws (fun c r => laidAt cols rws first false back ls c r) put (by omega) hr) (by simp only [sx3, encs, sxR, sevalprocAttr] <;> (try simp) <;> (try rfl)) ?_
  simp only [↓sx0, sxE, encs, sevalprocAttr]
  refine EndW.fn ?_ ?_ <;> simp only [sx4, encs, kpLL_map, sxR, sevalprocAttr] <;> (try simp [laidG]) <;> (try omega)
 ·refine Ctr.of (rs := [.cell 8 143]) Tok true Tryz.func96 rfl rfl rfl rfl (by simp [ofDL]) (fun w0 kp => ?_)
  simp only [↓sx0, sxE, encs, sevalprocAttr]
  refine DrawW.plan Tok mixed (.q 0 <| .q 1 <| .q 2 <| .q 3 <| .e 4 [1, 3] <| .e 5 [3] <| .q 6 <| .done) (by kernel_rfl) (by kernel_rfl) ?_
  simp only [↓sx0, sxE, encs, sevalprocAttr]
  refine CallI.fn (moved_s 120 [.pt false [.clo 118 [.pt false [.v (.bool back)], .pt false [.v (.int .i64 first)], .pt false [.clo 117 [.pt false [.v (.bool back)], .pt false [.v (.int .i64 rws)], .pt false [.v (.bool true)], .pt false [.v (.int .i64 cols), .v (.int .i64 rws), .sl b 1 (ls.map eK)]]], .pt false [.v (.int .i64 rws)], .pt false [.v (.bool true)]]]] (by intro; rfl) (by intro β γ; simp [leL, leV, ofDL, ofD]) (by intro rw bx; simp [argOk, lendA, lendO, argO, ofD, ofDL, leV]) cols first (fun c r => laidAt cols rws first true back ls r c) (fun c r h2 h3 => laid3_s _ false c r _ (put r c h3 h2) (by intro rw bx; simp [argOk, lendA, lendO, argO, ofD, ofDL, leV])) hc (by omega)) (by simp only [sx3, encs, sxR, sevalprocAttr] <;> (try simp) <;> (try rfl)) ?_
  simp only [↓sx0, sxE, encs, sevalprocAttr]
  refine EndW.fn ?_ ?_ <;> simp only [sx4, encs, kpLL_map, sxR, sevalprocAttr] <;> (try simp [laidG]) <;> (try omega)
/-- A pile that is folded. -/
structure PileS where
 cols : Nat
 rows : Nat
 ls : List (List Leaf)
def PileS.Ok (p : PileS) : Prop := p.cols ≤ 1000 ∧ p.rows ≤ 1000 ∧ p.ls.length = p.rows * p.cols ∧ FineP p.ls
def foldSide (p : PileS) (x : Fold) : Nat := if x.kind = 3 ∨ x.kind = 4 then p.rows else p.cols
def foldErrS (p : PileS) (x : Fold) : Int :=
 if ¬ (1 ≤ x.kind ∧ x.kind ≤ 6) then 15
 else if (if x.kind = 5 ∨ x.kind = 6 then x.count ≠ 0 else x.count < 1) then 2
 else if ¬ (x.kind = 5 ∨ x.kind = 6) ∧ (foldSide p x : Int) - x.count < x.count then 26 else 0
def foldP (p : PileS) (x : Fold) : PileS :=
 if foldErrS p x ≠ 0 then p
 else if x.kind = 5 then ⟨p.cols, p.rows, overG p.cols p.rows p.ls⟩
 else if x.kind = 6 then ⟨p.cols, p.rows, roundG p.cols p.rows p.ls⟩
 else
  let first := ((foldSide p x : Int) - x.count).toNat
  let rows := decide (x.kind = 3 ∨ x.kind = 4)
  ⟨if rows then p.cols else first, if rows then first else p.rows, laidG p.cols p.rows first rows (decide (x.kind = 2 ∨ x.kind = 4)) p.ls⟩
def svP (p : PileS) : SV := .agg [(.v (.int .i64 p.cols)), (.v (.int .i64 p.rows)), .sl true 1 (p.ls.map eK)]
theorem fold_s (p : PileS) (hp : p.Ok) (x : Fold) (hx : -9223372036854775808 ≤ x.count ∧ x.count ≤ 9223372036854775807) : Ctr Tryz.prog 68 [.agg [(.v (.int .i64 p.cols)), (.v (.int .i64 p.rows)), .sl true 1 (p.ls.map eK)], .agg [(.v (.int .i64 x.kind)), (.v (.int .i64 x.count))]] (fun rr => rr = ⟨.tup [.agg [(.v (.int .i64 ((foldP p x).cols))), (.v (.int .i64 ((foldP p x).rows))), .sl true 1 ((foldP p x).ls.map eK)], (.v (.int .i64 (foldErrS p x)))], []⟩) := by
 obtain ⟨hc, hr, hn, hf⟩ := hp
 have hkind : x.kind = 1 ∨ x.kind = 2 ∨ x.kind = 3 ∨ x.kind = 4 ∨ x.kind = 5 ∨ x.kind = 6 ∨ ¬ (1 ≤ x.kind ∧ x.kind ≤ 6) := by omega
 obtain ⟨kind, count⟩ := x
 simp only [] at hkind hx
 rcases hkind with rfl | rfl | rfl | rfl | rfl | rfl | hk
 ·refine Ctr.of (rs := [.cell 4 143, .tmp 5]) Tok true Tryz.func68 rfl rfl rfl rfl (by simp [ofDL]) (fun w0 kp => ?_)
  simp only [↓sx0, sxE, encs, sevalprocAttr]
  refine CallI.fn (within_s 1 1 6) (by simp only [sx3, encs, sxR, sevalprocAttr] <;> (try simp) <;> (try rfl)) ?_
  simp only [↓sx0, sxE, encs, sevalprocAttr]
  refine BrW.dec (fun h1 => ?_) (fun h1 => ?_)
  ·simp only [↓sx0, sxE, encs, sevalprocAttr]
   refine EndW.fn ?_ ?_ <;> simp only [sx4, encs, kpLL_map, sxR, sevalprocAttr] <;> (try simp [foldP, foldErrS, h1]) <;> (try omega)
  ·simp only [↓sx0, sxE, encs, sevalprocAttr]
   repeat ((with_reducible refine Vc.go ?_ fun _ => ?_); (focus (first | omega | (simp only [InK]; omega) | (simp [InK]; done) | (simp [InK]; omega))); simp only [↓sx0, sxE, encs, sevalprocAttr])
   refine BrW.dec (fun h2 => ?_) (fun h2 => ?_)
   ·simp only [↓sx0, sxE, encs, sevalprocAttr]
    refine EndW.fn ?_ ?_ <;> simp only [sx4, encs, kpLL_map, sxR, sevalprocAttr] <;> (try simp [foldP, foldErrS, foldSide, h1, h2]) <;> (try omega)
   ·simp only [↓sx0, sxE, encs, sevalprocAttr]
    repeat ((with_reducible refine Vc.go ?_ fun _ => ?_); (focus (first | omega | (simp only [InK]; omega) | (simp [InK]; done) | (simp [InK]; omega))); simp only [↓sx0, sxE, encs, sevalprocAttr])
    have hfi : ((((p.cols : Int) - count).toNat : Nat) : Int) = (p.cols : Int) - count := by omega
    have hl := laid_s true false false p.ls hf p.cols p.rows ((p.cols : Int) - count).toNat hc hr hn (by simp; omega)
    rw [hfi] at hl
    simp only [Bool.false_eq_true, if_false, if_true] at hl
    refine CallI.fn (hl) (by simp only [sx3, encs, sxR, sevalprocAttr] <;> (try simp) <;> (try rfl)) ?_
    simp only [↓sx0, sxE, encs, sevalprocAttr]
    refine EndW.fn ?_ ?_ <;> simp only [sx4, encs, kpLL_map, sxR, sevalprocAttr] <;> (try simp [foldP, foldErrS, foldSide, h1, h2, hfi]) <;> (try omega)
 ·refine Ctr.of (rs := [.cell 4 143, .tmp 5]) Tok true Tryz.func68 rfl rfl rfl rfl (by simp [ofDL]) (fun w0 kp => ?_)
  simp only [↓sx0, sxE, encs, sevalprocAttr]
  refine CallI.fn (within_s 2 1 6) (by simp only [sx3, encs, sxR, sevalprocAttr] <;> (try simp) <;> (try rfl)) ?_
  simp only [↓sx0, sxE, encs, sevalprocAttr]
  refine BrW.dec (fun h1 => ?_) (fun h1 => ?_)
  ·simp only [↓sx0, sxE, encs, sevalprocAttr]
   refine EndW.fn ?_ ?_ <;> simp only [sx4, encs, kpLL_map, sxR, sevalprocAttr] <;> (try simp [foldP, foldErrS, h1]) <;> (try omega)
  ·simp only [↓sx0, sxE, encs, sevalprocAttr]
   repeat ((with_reducible refine Vc.go ?_ fun _ => ?_); (focus (first | omega | (simp only [InK]; omega) | (simp [InK]; done) | (simp [InK]; omega))); simp only [↓sx0, sxE, encs, sevalprocAttr])
   refine BrW.dec (fun h2 => ?_) (fun h2 => ?_)
   ·simp only [↓sx0, sxE, encs, sevalprocAttr]
    refine EndW.fn ?_ ?_ <;> simp only [sx4, encs, kpLL_map, sxR, sevalprocAttr] <;> (try simp [foldP, foldErrS, foldSide, h1, h2]) <;> (try omega)
   ·simp only [↓sx0, sxE, encs, sevalprocAttr]
    repeat ((with_reducible refine Vc.go ?_ fun _ => ?_); (focus (first | omega | (simp only [InK]; omega) | (simp [InK]; done) | (simp [InK]; omega))); simp only [↓sx0, sxE, encs, sevalprocAttr])
    have hfi : ((((p.cols : Int) - count).toNat : Nat) : Int) = (p.cols : Int) - count := by omega
    have hl := laid_s true false true p.ls hf p.cols p.rows ((p.cols : Int) - count).toNat hc hr hn (by simp; omega)
    rw [hfi] at hl
    simp only [Bool.false_eq_true, if_false, if_true] at hl
    refine CallI.fn (hl) (by simp only [sx3, encs, sxR, sevalprocAttr] <;> (try simp) <;> (try rfl)) ?_
    simp only [↓sx0, sxE, encs, sevalprocAttr]
    refine EndW.fn ?_ ?_ <;> simp only [sx4, encs, kpLL_map, sxR, sevalprocAttr] <;> (try simp [foldP, foldErrS, foldSide, h1, h2, hfi]) <;> (try omega)
 ·refine Ctr.of (rs := [.cell 4 143, .tmp 5]) Tok true Tryz.func68 rfl rfl rfl rfl (by simp [ofDL]) (fun w0 kp => ?_)
  simp only [↓sx0, sxE, encs, sevalprocAttr]
  refine CallI.fn (within_s 3 1 6) (by simp only [sx3, encs, sxR, sevalprocAttr] <;> (try simp) <;> (try rfl)) ?_
  simp only [↓sx0, sxE, encs, sevalprocAttr]
  refine BrW.dec (fun h1 => ?_) (fun h1 => ?_)
  ·simp only [↓sx0, sxE, encs, sevalprocAttr]
   refine EndW.fn ?_ ?_ <;> simp only [sx4, encs, kpLL_map, sxR, sevalprocAttr] <;> (try simp [foldP, foldErrS, h1]) <;> (try omega)
  ·simp only [↓sx0, sxE, encs, sevalprocAttr]
   repeat ((with_reducible refine Vc.go ?_ fun _ => ?_); (focus (first | omega | (simp only [InK]; omega) | (simp [InK]; done) | (simp [InK]; omega))); simp only [↓sx0, sxE, encs, sevalprocAttr])
   refine BrW.dec (fun h2 => ?_) (fun h2 => ?_)
   ·simp only [↓sx0, sxE, encs, sevalprocAttr]
    refine EndW.fn ?_ ?_ <;> simp only [sx4, encs, kpLL_map, sxR, sevalprocAttr] <;> (try simp [foldP, foldErrS, foldSide, h1, h2]) <;> (try omega)
   ·simp only [↓sx0, sxE, encs, sevalprocAttr]
    repeat ((with_reducible refine Vc.go ?_ fun _ => ?_); (focus (first | omega | (simp only [InK]; omega) | (simp [InK]; done) | (simp [InK]; omega))); simp only [↓sx0, sxE, encs, sevalprocAttr])
    have hfi : ((((p.rows : Int) - count).toNat : Nat) : Int) = (p.rows : Int) - count := by omega
    have hl := laid_s true true false p.ls hf p.cols p.rows ((p.rows : Int) - count).toNat hc hr hn (by simp; omega)
    rw [hfi] at hl
    simp only [Bool.false_eq_true, if_false, if_true] at hl
    refine CallI.fn (hl) (by simp only [sx3, encs, sxR, sevalprocAttr] <;> (try simp) <;> (try rfl)) ?_
    simp only [↓sx0, sxE, encs, sevalprocAttr]
    refine EndW.fn ?_ ?_ <;> simp only [sx4, encs, kpLL_map, sxR, sevalprocAttr] <;> (try simp [foldP, foldErrS, foldSide, h1, h2, hfi]) <;> (try omega)
 ·refine Ctr.of (rs := [.cell 4 143, .tmp 5]) Tok true Tryz.func68 rfl rfl rfl rfl (by simp [ofDL]) (fun w0 kp => ?_)
  simp only [↓sx0, sxE, encs, sevalprocAttr]
  refine CallI.fn (within_s 4 1 6) (by simp only [sx3, encs, sxR, sevalprocAttr] <;> (try simp) <;> (try rfl)) ?_
  simp only [↓sx0, sxE, encs, sevalprocAttr]
  refine BrW.dec (fun h1 => ?_) (fun h1 => ?_)
  ·simp only [↓sx0, sxE, encs, sevalprocAttr]
   refine EndW.fn ?_ ?_ <;> simp only [sx4, encs, kpLL_map, sxR, sevalprocAttr] <;> (try simp [foldP, foldErrS, h1]) <;> (try omega)
  ·simp only [↓sx0, sxE, encs, sevalprocAttr]
   repeat ((with_reducible refine Vc.go ?_ fun _ => ?_); (focus (first | omega | (simp only [InK]; omega) | (simp [InK]; done) | (simp [InK]; omega))); simp only [↓sx0, sxE, encs, sevalprocAttr])
   refine BrW.dec (fun h2 => ?_) (fun h2 => ?_)
   ·simp only [↓sx0, sxE, encs, sevalprocAttr]
    refine EndW.fn ?_ ?_ <;> simp only [sx4, encs, kpLL_map, sxR, sevalprocAttr] <;> (try simp [foldP, foldErrS, foldSide, h1, h2]) <;> (try omega)
   ·simp only [↓sx0, sxE, encs, sevalprocAttr]
    repeat ((with_reducible refine Vc.go ?_ fun _ => ?_); (focus (first | omega | (simp only [InK]; omega) | (simp [InK]; done) | (simp [InK]; omega))); simp only [↓sx0, sxE, encs, sevalprocAttr])
    have hfi : ((((p.rows : Int) - count).toNat : Nat) : Int) = (p.rows : Int) - count := by omega
    have hl := laid_s true true true p.ls hf p.cols p.rows ((p.rows : Int) - count).toNat hc hr hn (by simp; omega)
    rw [hfi] at hl
    simp only [Bool.false_eq_true, if_false, if_true] at hl
    refine CallI.fn (hl) (by simp only [sx3, encs, sxR, sevalprocAttr] <;> (try simp) <;> (try rfl)) ?_
    simp only [↓sx0, sxE, encs, sevalprocAttr]
    refine EndW.fn ?_ ?_ <;> simp only [sx4, encs, kpLL_map, sxR, sevalprocAttr] <;> (try simp [foldP, foldErrS, foldSide, h1, h2, hfi]) <;> (try omega)
 ·refine Ctr.of (rs := [.cell 4 143, .tmp 5]) Tok true Tryz.func68 rfl rfl rfl rfl (by simp [ofDL]) (fun w0 kp => ?_)
  simp only [↓sx0, sxE, encs, sevalprocAttr]
  refine CallI.fn (within_s 5 1 6) (by simp only [sx3, encs, sxR, sevalprocAttr] <;> (try simp) <;> (try rfl)) ?_
  simp only [↓sx0, sxE, encs, sevalprocAttr]
  refine BrW.dec (fun h1 => ?_) (fun h1 => ?_)
  ·simp only [↓sx0, sxE, encs, sevalprocAttr]
   refine EndW.fn ?_ ?_ <;> simp only [sx4, encs, kpLL_map, sxR, sevalprocAttr] <;> (try simp [foldP, foldErrS, h1]) <;> (try omega)
  ·simp only [↓sx0, sxE, encs, sevalprocAttr]
   refine CallI.fn (over_s true p.ls hf p.cols p.rows hc hr hn) (by simp only [sx3, encs, sxR, sevalprocAttr] <;> (try simp) <;> (try rfl)) ?_
   simp only [↓sx0, sxE, encs, sevalprocAttr]
   refine EndW.fn ?_ ?_ <;> simp only [sx4, encs, kpLL_map, sxR, sevalprocAttr] <;> (try simp [foldP, foldErrS, h1]) <;> (try omega)
 ·refine Ctr.of (rs := [.cell 4 143, .tmp 5]) Tok true Tryz.func68 rfl rfl rfl rfl (by simp [ofDL]) (fun w0 kp => ?_)
  simp only [↓sx0, sxE, encs, sevalprocAttr]
  refine CallI.fn (within_s 6 1 6) (by simp only [sx3, encs, sxR, sevalprocAttr] <;> (try simp) <;> (try rfl)) ?_
  simp only [↓sx0, sxE, encs, sevalprocAttr]
  refine BrW.dec (fun h1 => ?_) (fun h1 => ?_)
  ·simp only [↓sx0, sxE, encs, sevalprocAttr]
   refine EndW.fn ?_ ?_ <;> simp only [sx4, encs, kpLL_map, sxR, sevalprocAttr] <;> (try simp [foldP, foldErrS, h1]) <;> (try omega)
  ·simp only [↓sx0, sxE, encs, sevalprocAttr]
   refine CallI.fn (round_s true p.ls hf p.cols p.rows hc hr hn) (by simp only [sx3, encs, sxR, sevalprocAttr] <;> (try simp) <;> (try rfl)) ?_
   simp only [↓sx0, sxE, encs, sevalprocAttr]
   refine EndW.fn ?_ ?_ <;> simp only [sx4, encs, kpLL_map, sxR, sevalprocAttr] <;> (try simp [foldP, foldErrS, h1]) <;> (try omega)
 ·have e5 : ¬ kind = 5 := by omega
  have e6 : ¬ kind = 6 := by omega
  have e3 : ¬ kind = 3 := by omega
  have e4 : ¬ kind = 4 := by omega
  refine Ctr.of (rs := [.cell 4 143, .tmp 5]) Tok true Tryz.func68 rfl rfl rfl rfl (by simp [ofDL]) (fun w0 kp => ?_)
  simp only [↓sx0, sxE, encs, sevalprocAttr]
  refine BrW.no e5 ?_
  simp only [↓sx0, sxE, encs, sevalprocAttr]
  refine BrW.no e3 ?_
  simp only [↓sx0, sxE, encs, sevalprocAttr]
  refine BrW.no e4 ?_
  simp only [↓sx0, sxE, encs, sevalprocAttr]
  refine CallI.fn (within_s kind 1 6) (by simp only [sx3, encs, sxR, sevalprocAttr] <;> (try simp) <;> (try rfl)) ?_
  simp only [↓sx0, sxE, encs, sevalprocAttr]
  refine BrW.no hk ?_
  simp only [↓sx0, sxE, encs, sevalprocAttr]
  refine EndW.fn ?_ ?_ <;> simp only [sx4, encs, kpLL_map, sxR, sevalprocAttr] <;> (try simp [foldP, foldErrS, hk]) <;> (try omega)
end Go.Proofs.YtgiegokdcmkfeaaGreatDoor
/-
 Chapter 6, walks: folded sheets.
-/
namespace Go.Proofs.YtgiegokdcmkfeaaGreatDoor
open Go Go.Vx
set_option maxRecDepth 20000
/-- a pile that is right, its stacks at most so high. -/
structure PileS.Good (h : Nat) (p : PileS) : Prop where
 c1 : 1 ≤ p.cols
 c2 : p.cols ≤ 1000
 r1 : 1 ≤ p.rows
 r2 : p.rows ≤ 1000
 len : p.ls.length = p.rows * p.cols
 fine : ∀ l ∈ p.ls, Fine l ∧ l.length ≤ h
theorem PileS.Good.ok {h : Nat} {p : PileS} (g : p.Good h) (hh : h ≤ 400000) : p.Ok := ⟨g.c2, g.r2, g.len, fun l hl => ⟨(g.fine l hl).1, Nat.le_trans (g.fine l hl).2 hh⟩⟩
theorem mem_grid {α : Type} {cols rows : Nat} {f : Nat → Nat → α} {x : α} (h : x ∈ grid cols rows f) : ∃ c r, c < cols ∧ r < rows ∧ x = f c r := by
 simp only [grid, gridRow, List.mem_flatMap, List.mem_map, List.mem_range] at h
 obtain ⟨r, hr, c, hc, rfl⟩ := h
 exact ⟨c, r, hc, hr, rfl⟩
theorem stkAt_good {h : Nat} {ls : List (List Leaf)} (hf : ∀ l ∈ ls, Fine l ∧ l.length ≤ h) (i : Nat) : Fine (stkAt ls i) ∧ (stkAt ls i).length ≤ h := by
 by_cases hi : i < ls.length
 ·exact hf _ (List.mem_of_getElem? (stkAt_get hi))
 ·have : stkAt ls i = [] := by simp [stkAt, List.getD_eq_getElem?_getD, List.getElem?_eq_none (Nat.le_of_not_lt hi)]
  rw [this]; exact ⟨fun x hx => by simp at hx, by simp⟩
theorem fine_flip {l : List Leaf} (b : Bool) (h : Fine l) : Fine (l.reverse.map (flip b)) := fun x hx => by
 simp only [List.mem_map, List.mem_reverse] at hx
 obtain ⟨y, hy, rfl⟩ := hx
 obtain ⟨⟨a1, a2⟩, a3, a4⟩ := h y hy
 cases b <;> simp only [flip, Bool.false_eq_true, if_false, if_true] <;> omega
theorem fine_rnd {l : List Leaf} (h : Fine l) : Fine (l.map rnd1) := fun x hx => by
 simp only [List.mem_map] at hx
 obtain ⟨y, hy, rfl⟩ := hx
 obtain ⟨⟨a1, a2⟩, a3, a4⟩ := h y hy
 simp only [rnd1]; omega
theorem fine_app {l m : List Leaf} (h : Fine l) (k : Fine m) : Fine (l ++ m) := fun x hx => (List.mem_append.1 hx).elim (h x) (k x)
theorem foldP_good {h : Nat} {p : PileS} (g : p.Good h) {x : Fold} (he : foldErrS p x = 0) : (foldP p x).Good (2 * h) := by
 unfold foldP
 rw [if_neg (by simp [he])]
 by_cases h5 : x.kind = 5
 ·rw [if_pos h5]
  refine ⟨g.c1, g.c2, g.r1, g.r2, by simp [overG, grid_length], fun l hl => ?_⟩
  obtain ⟨c, r, _, _, rfl⟩ := mem_grid hl
  obtain ⟨f1, f2⟩ := stkAt_good g.fine (r * p.cols + (p.cols - 1 - c))
  exact ⟨fine_flip false f1, by simp; omega⟩
 rw [if_neg h5]
 by_cases h6 : x.kind = 6
 ·rw [if_pos h6]
  refine ⟨g.c1, g.c2, g.r1, g.r2, by simp [roundG, grid_length], fun l hl => ?_⟩
  obtain ⟨c, r, _, _, rfl⟩ := mem_grid hl
  obtain ⟨f1, f2⟩ := stkAt_good g.fine ((p.rows - 1 - r) * p.cols + (p.cols - 1 - c))
  exact ⟨fine_rnd f1, by simp; omega⟩
 rw [if_neg h6]
 have h56 : ¬ (x.kind = 5 ∨ x.kind = 6) := by omega
 unfold foldErrS at he
 simp only [h56, if_false, not_false_eq_true, true_and] at he
 by_cases hk : ¬ (1 ≤ x.kind ∧ x.kind ≤ 6)
 ·rw [if_pos hk] at he; omega
 rw [if_neg hk] at he
 by_cases hc : x.count < 1
 ·rw [if_pos hc] at he; omega
 rw [if_neg hc] at he
 by_cases hs : (foldSide p x : Int) - x.count < x.count
 ·rw [if_pos hs] at he; omega
 have hlaid : ∀ (rows back : Bool) (first along across : Nat), Fine (laidAt p.cols p.rows first rows back p.ls along across) ∧ (laidAt p.cols p.rows first rows back p.ls along across).length ≤ 2 * h := fun rows back first along across => by
  unfold laidAt
  simp only []
  generalize (if back = true then first - 1 - along else along) = a
  generalize (if rows = true then p.rows else p.cols) = side
  obtain ⟨f1, f2⟩ := stkAt_good g.fine (getAt back rows side p.cols (2 * first - 1 - a) across)
  obtain ⟨f3, f4⟩ := stkAt_good g.fine (getAt back rows side p.cols a across)
  split
  ·exact ⟨fine_app (fine_flip _ f1) f3, by simp; omega⟩
  ·exact ⟨f3, by omega⟩
 have h34 : foldSide p x = if x.kind = 3 ∨ x.kind = 4 then p.rows else p.cols := rfl
 have g1 := g.c1; have g2 := g.c2; have g3 := g.r1; have g4 := g.r2
 by_cases hr : x.kind = 3 ∨ x.kind = 4
 ·rw [if_pos hr] at h34
  simp only [hr, decide_true, if_true]
  refine ⟨g.c1, g.c2, ?_, ?_, by simp [laidG, grid_length], fun l hl => ?_⟩
  ·show 1 ≤ ((foldSide p x : Int) - x.count).toNat; omega
  ·show ((foldSide p x : Int) - x.count).toNat ≤ 1000; omega
  ·simp only [laidG, if_true] at hl
   obtain ⟨c, r, _, _, rfl⟩ := mem_grid hl
   exact hlaid _ _ _ _ _
 ·rw [if_neg hr] at h34
  simp only [hr, decide_false, Bool.false_eq_true, if_false]
  refine ⟨?_, ?_, g.r1, g.r2, by simp [laidG, grid_length], fun l hl => ?_⟩
  ·show 1 ≤ ((foldSide p x : Int) - x.count).toNat; omega
  ·show ((foldSide p x : Int) - x.count).toNat ≤ 1000; omega
  ·simp only [laidG, Bool.false_eq_true, if_false] at hl
   obtain ⟨c, r, _, _, rfl⟩ := mem_grid hl
   exact hlaid _ _ _ _ _
/-- folds one by one, till one is wrong. -/
def foldRun : PileS → Nat → List Fold → PileS × Option (Nat × Int)
 | p, _, [] => (p, none)
 | p, i, x :: l => if foldErrS p x ≠ 0 then (foldP p x, some (i, foldErrS p x)) else foldRun (foldP p x) (i + 1) l
def flatP (c r : Nat) : PileS := ⟨c, r, flatG c r⟩
theorem flatP_good {c r : Nat} (hc : 1 ≤ c) (hc2 : c ≤ 1000) (hr : 1 ≤ r) (hr2 : r ≤ 1000) : (flatP c r).Good 1 := ⟨hc, hc2, hr, hr2, by simp [flatP, flatG, grid_length], fun l hl => by
 simp only [flatP, flatG] at hl
 obtain ⟨a, b, _, _, rfl⟩ := mem_grid hl
 exact ⟨fun x hx => by simp only [oneL, List.mem_singleton] at hx; subst hx; simp, by simp [oneL]⟩⟩
def foldedS (c r : Int) (l : List Fold) : List Leaf × Int × Int :=
 if sheetErr c r ≠ 0 then ([], 0, sheetErr c r) else if 12 < l.length then ([], 0, 8) else
 match foldRun (flatP c.toNat r.toNat) 0 l with
 | (_, some (i, e)) => ([], i, e)
 | (p, none) => if 1 < p.ls.length then ([], l.length, 25) else (p.ls.headD [], 0, 0)
/-- counts are numbers of the machine. -/
def Cnt (l : List Fold) : Prop := ∀ x ∈ l, -9223372036854775808 ≤ x.count ∧ x.count ≤ 9223372036854775807
theorem folded_s (b : Bool) (c r : Int) (l : List Fold) (hl : Cnt l) : Ctr Tryz.prog 29 [.agg [(.v (.int .i64 c)), (.v (.int .i64 r))], .sl b 2 (l.map eF)] (fun rr => rr = ⟨.tup [.sl true 4 ((foldedS c r l).1.map eL), (.v (.int .i64 ((foldedS c r l).2.1))), (.v (.int .i64 ((foldedS c r l).2.2)))], []⟩) := by
 refine Ctr.of (rs := [.tmp 4, .tmp 5, .tmp 6]) Tok true Tryz.func29 rfl rfl rfl rfl (by simp [ofDL]) (fun w0 kp => ?_)
 simp only [↓sx0, sxE, encs, sevalprocAttr]
 repeat ((with_reducible refine Vc.go ?_ fun _ => ?_); (focus (first | omega | (simp only [InK]; omega) | (simp [InK]; done) | (simp [InK]; omega))); simp only [↓sx0, sxE, encs, sevalprocAttr])
 refine CallI.fn (checkSheet_s c r) (by simp only [sx3, encs, sxR, sevalprocAttr] <;> (try simp) <;> (try rfl)) ?_
 simp only [↓sx0, sxE, encs, sevalprocAttr]
 refine BrW.dec (fun he => ?_) (fun he => ?_)
 ·simp only [↓sx0, sxE, encs, sevalprocAttr]
  refine EndW.fn ?_ ?_ <;> simp only [sx4, encs, kpLL_map, sxR, sevalprocAttr] <;> (try simp [foldedS, he]) <;> (try omega)
 ·simp only [↓sx0, sxE, encs, sevalprocAttr]
  have hsh : 1 ≤ c ∧ c ≤ 8 ∧ 1 ≤ r ∧ r ≤ 8 := by
   have he2 : sheetErr c r = 0 := by simpa using he
   unfold sheetErr at he2
   by_cases h1 : 1 ≤ c ∧ c ≤ 8
   ·rw [if_pos h1] at he2
    by_cases h2 : 1 ≤ r ∧ r ≤ 8
    ·omega
    ·rw [if_neg h2] at he2; omega
   ·rw [if_neg h1] at he2; omega
  refine BrW.dec (fun hlen => ?_) (fun hlen => ?_)
  ·simp only [↓sx0, sxE, encs, sevalprocAttr]
   have : 12 < l.length := by omega
   refine EndW.fn ?_ ?_ <;> simp only [sx4, encs, kpLL_map, sxR, sevalprocAttr] <;> (try simp [foldedS, he, this]) <;> (try omega)
  ·simp only [↓sx0, sxE, encs, sevalprocAttr]
   have hlen2 : ¬ 12 < l.length := by omega
   obtain ⟨cn, rfl⟩ : ∃ cn : Nat, c = cn := ⟨c.toNat, by omega⟩
   obtain ⟨rn, rfl⟩ : ∃ rn : Nat, r = rn := ⟨r.toNat, by omega⟩
   repeat ((with_reducible refine Vc.go ?_ fun _ => ?_); (focus (first | omega | (simp only [InK]; omega) | (simp [InK]; done) | (simp [InK]; omega))); simp only [↓sx0, sxE, encs, sevalprocAttr])
   refine CallI.fn (flat_s cn rn (by omega) (by omega)) (by simp only [sx3, encs, sxR, sevalprocAttr] <;> (try simp) <;> (try rfl)) ?_
   simp only [↓sx0, sxE, encs, sevalprocAttr]
   refine LoopW.comp [1, 8, 28, 29, 30] (by simp only [sx2, encs, sxR, sevalprocAttr] <;> (try simp) <;> (try omega)) ?_
   simp only [sx2, sxR, sevalprocAttr]
   refine LoopW.up Tok (fun x : Nat × PileS => [(30, (.v (.int .i64 x.1)))]) (fun x => [(1, [(.v (.int .i64 x.2.cols)), (.v (.int .i64 x.2.rows)), .sl true 1 (x.2.ls.map eK)])]) (fun x => []) (fun x => []) (fun x => x.1 ≤ l.length ∧ x.2.Good (2 ^ x.1) ∧ foldRun (flatP cn rn) 0 l = foldRun x.2 x.1 (l.drop x.1)) (fun x => l.length - x.1) ((0, flatP cn rn)) (by simp only [sx2, encs, sxR, sevalprocAttr] <;> (try simp [flatP, encs]) <;> (try omega)) ?_ ?_
   ·exact ⟨by simp, flatP_good (by omega) (by omega) (by omega) (by omega), rfl⟩
   rintro ⟨k, p⟩ ⟨hk, hg, hrun⟩
   simp only [] at hk hg hrun
   have h2k : (2 : Nat) ^ k ≤ 2 ^ 12 := Nat.pow_le_pow_right (by omega) (by omega)
   simp only [↓sx0, sxE, encs, sevalprocAttr]
   refine BrW.dec (fun hlt => ?_) (fun hlt => ?_)
   ·simp only [↓sx0, sxE, encs, sevalprocAttr]
    have hk' : k < l.length := by omega
    rw [List.drop_eq_getElem_cons hk'] at hrun
    simp only [foldRun] at hrun
    refine IxW.nat hk' ?_
    simp only [↓sx0, sxE, encs, sevalprocAttr]
    refine CallI.fn (fold_s p (hg.ok (by omega)) l[k] (hl _ (List.getElem_mem hk'))) (by simp only [sx3, encs, sxR, sevalprocAttr] <;> (try simp) <;> (try rfl)) ?_
    simp only [↓sx0, sxE, encs, sevalprocAttr]
    refine BrW.dec (fun herr => ?_) (fun herr => ?_)
    ·simp only [↓sx0, sxE, encs, sevalprocAttr]
     rw [if_pos (by simpa using herr)] at hrun
     refine EndW.fn ?_ ?_ <;> simp only [sx4, encs, kpLL_map, sxR, sevalprocAttr] <;> (try simp [foldedS, he, hlen2, hrun]) <;> (try omega)
    ·simp only [↓sx0, sxE, encs, sevalprocAttr]
     have h0 : foldErrS p l[k] = 0 := by simpa using herr
     rw [if_neg (by simp [h0])] at hrun
     (with_reducible refine Vc.go ?_ fun _ => ?_); focus (first | omega | (simp only [InK]; omega) | (simp [InK]; done) | (simp [InK]; omega))
     simp only [↓sx0, sxE, encs, sevalprocAttr]
     refine ⟨(k + 1, foldP p l[k]), StLe.auto (by simp only [sx2, encs, sxR, sevalprocAttr] <;> (try simp) <;> (try omega)), ?_, ?_⟩
     ·exact ⟨hk', by have := foldP_good hg h0; rwa [Nat.pow_succ, Nat.mul_comm] , hrun⟩
     ·show l.length - (k + 1) < l.length - k; omega
   ·simp only [↓sx0, sxE, encs, sevalprocAttr]
    have hke : k = l.length := by omega
    subst hke
    rw [List.drop_length] at hrun
    simp only [foldRun] at hrun
    have hpl := hg.len
    have hpos : 1 * 1 ≤ p.rows * p.cols := Nat.mul_le_mul hg.r1 hg.c1
    refine BrW.dec (fun hop => ?_) (fun hop => ?_)
    ·simp only [↓sx0, sxE, encs, sevalprocAttr]
     have : 1 < p.ls.length := by omega
     refine EndW.fn ?_ ?_ <;> simp only [sx4, encs, kpLL_map, sxR, sevalprocAttr] <;> (try simp [foldedS, he, hlen2, hrun, this]) <;> (try omega)
    ·simp only [↓sx0, sxE, encs, sevalprocAttr]
     have h1 : ¬ 1 < p.ls.length := by omega
     obtain ⟨s, hs⟩ : ∃ s, p.ls = [s] := by
      match hp : p.ls with
      | [] => rw [hp] at hpl; simp at hpl; omega
      | [s] => exact ⟨s, rfl⟩
      | _ :: _ :: _ => rw [hp] at h1; simp at h1
     refine IxW.map s (by omega) (by simp [hs]) ?_
     simp only [↓sx0, sxE, encs, sevalprocAttr]
     refine EndW.fn ?_ ?_ <;> simp only [sx4, encs, kpLL_map, sxR, sevalprocAttr] <;> (try simp [foldedS, he, hlen2, hrun, h1, hs, kpL, kpD]) <;> (try omega)
end Go.Proofs.YtgiegokdcmkfeaaGreatDoor
/-
 Chapter 6, walks: comparing and copying.
-/
namespace Go.Proofs.YtgiegokdcmkfeaaGreatDoor
open Go Go.Vx
set_option maxRecDepth 20000
theorem ranges_s (b b' : Bool) (l m : List Rng) (hl : l.length ≤ 1000000000) : Ctr Tryz.prog 57 [.sl b 2 (l.map eR), .sl b' 2 (m.map eR)] (fun rr => rr = ⟨(.v (.bool (decide (l = m)))), []⟩) := by
 refine Ctr.of (rs := [.tmp 4]) Tok true Tryz.func57 rfl rfl rfl rfl (by simp [ofDL]) (fun w0 kp => ?_)
 simp only [↓sx0, sxE, encs, sevalprocAttr]
 refine BrW.dec (fun hn => ?_) (fun hn => ?_)
 ·simp only [↓sx0, sxE, encs, sevalprocAttr]
  have : ¬ l = m := fun h => hn (by rw [h])
  refine EndW.fn ?_ ?_ <;> simp only [sx4, encs, kpLL_map, sxR, sevalprocAttr] <;> (try simp [this]) <;> (try omega)
 ·simp only [↓sx0, sxE, encs, sevalprocAttr]
  have hn2 : l.length = m.length := by omega
  refine LoopW.comp [0, 1, 5] (by simp only [sx2, encs, sxR, sevalprocAttr] <;> (try simp) <;> (try omega)) ?_
  simp only [sx2, sxR, sevalprocAttr]
  refine LoopW.up Tok (fun k : Nat => [(5, (.v (.int .i64 k)))]) (fun k => []) (fun k => []) (fun k => []) (fun k => k ≤ l.length ∧ l.take k = m.take k) (fun k => l.length - k) (0) (by simp only [sx2, encs, sxR, sevalprocAttr] <;> (try simp) <;> (try omega)) ?_ ?_
  ·exact ⟨by omega, by simp⟩
  rintro k ⟨hk, ht⟩
  simp only [↓sx0, sxE, encs, sevalprocAttr]
  refine BrW.dec (fun hlt => ?_) (fun hlt => ?_)
  ·simp only [↓sx0, sxE, encs, sevalprocAttr]
   have h1 : k < l.length := by omega
   have h2 : k < m.length := by omega
   refine DrawW.plan Tok mixed (.q 0 <| .q 1 <| .q 2 <| .q 3 <| .q 4 <| .q 5 <| .q 6 <| .q 7 <| .q 8 <| .done) (by kernel_rfl) (by kernel_rfl) ?_
   simp only [↓sx0, sxE, encs, sevalprocAttr]
   refine IxW.nat h1 ?_
   simp only [↓sx0, sxE, encs, sevalprocAttr]
   refine IxW.nat h2 ?_
   simp only [↓sx0, sxE, encs, sevalprocAttr]
   refine BrW.dec (fun hne => ?_) (fun hne => ?_)
   ·simp only [↓sx0, sxE, encs, sevalprocAttr]
    have : ¬ l = m := fun h => hne (by subst h; rfl)
    refine EndW.fn ?_ ?_ <;> simp only [sx4, encs, kpLL_map, sxR, sevalprocAttr] <;> (try simp [this]) <;> (try omega)
   ·simp only [↓sx0, sxE, encs, sevalprocAttr]
    have he : l[k] = m[k] := by rw [eR_inj] at hne; exact Decidable.not_not.1 hne
    (with_reducible refine Vc.go ?_ fun _ => ?_); focus (first | omega | (simp only [InK]; omega) | (simp [InK]; done) | (simp [InK]; omega))
    simp only [↓sx0, sxE, encs, sevalprocAttr]
    refine ⟨k + 1, StLe.auto (by simp only [sx2, encs, sxR, sevalprocAttr] <;> (try simp) <;> (try omega)), ?_, ?_⟩
    ·exact ⟨h1, take_eq_succ h1 h2 ht he⟩
    ·omega
  ·simp only [↓sx0, sxE, encs, sevalprocAttr]
   have hke : k = l.length := by omega
   subst hke
   rw [List.take_length, hn2, List.take_length] at ht
   refine EndW.fn ?_ ?_ <;> simp only [sx4, encs, kpLL_map, sxR, sevalprocAttr] <;> (try simp [ht]) <;> (try omega)
theorem copy_s (b : Bool) (c r : Int) (l : List Cell) (hl : l.length ≤ 1000000000) : Ctr Tryz.prog 9 [.agg [(.v (.int .i64 c)), (.v (.int .i64 r)), .sl b 4 (l.map eC)]] (fun rr => rr = ⟨.agg [(.v (.int .i64 c)), (.v (.int .i64 r)), .row 0], [.own 63 4 (l.map eC)]⟩) := by
 refine Ctr.of (rs := [.cell 2 29]) Tok false Tryz.func9 rfl rfl rfl rfl (by simp [ofDL]) (fun w0 kp => ?_)
 simp only [↓sx0, sxE, encs, sevalprocAttr]
 (with_reducible refine Vc.go ?_ fun _ => ?_); focus (first | omega | (simp only [InK]; omega) | (simp [InK]; done) | (simp [InK]; omega))
 simp only [↓sx0, sxE, encs, sevalprocAttr]
 exact EndW.r [some 1] (by simp) (by simp only [sx4, sxF, encs, kpLL_map, sxR, sevalprocAttr] <;> simp [kpL, kpD]) (by simp only [sx4, sxF, encs, kpLL_map, sxR, sevalprocAttr] <;> simp [kpL, kpD]) (by simp only [sx4, sxF, encs, kpLL_map, sxR, sevalprocAttr] <;> simp [kpL, kpD]) (by simp only [sx4, sxF, encs, kpLL_map, sxR, sevalprocAttr] <;> simp [kpL, kpD])
theorem quarto_s : Ctr Tryz.prog 26 [] (fun rr => rr = ⟨.sl true 2 ([(⟨1, 1⟩ : Fold), ⟨3, 1⟩].map eF), []⟩) := by
 refine Ctr.of (rs := [.tmp 0]) Tok true Tryz.func26 rfl rfl rfl rfl (by simp [ofDL]) (fun w0 kp => ?_)
 simp only [↓sx0, sxE, encs, sevalprocAttr]
 refine EndW.fn ?_ ?_ <;> simp only [sx4, encs, kpLL_map, sxR, sevalprocAttr] <;> (try simp [kpL, kpD]) <;> (try omega)
theorem has_s (b : Bool) (l : List Int) (n : Int) (hl : l.length ≤ 1000000000) : Ctr Tryz.prog 62 [.sl b 1 (l.map eI), (.v (.int .i64 n))] (fun rr => rr = ⟨(.v (.bool (decide (n ∈ l)))), []⟩) := by
 refine Ctr.of (rs := [.tmp 4]) Tok true Tryz.func62 rfl rfl rfl rfl (by simp [ofDL]) (fun w0 kp => ?_)
 simp only [↓sx0, sxE, encs, sevalprocAttr]
 refine LoopW.comp [0, 1, 5] (by simp only [sx2, encs, sxR, sevalprocAttr] <;> (try simp) <;> (try omega)) ?_
 simp only [sx2, sxR, sevalprocAttr]
 refine LoopW.up Tok (fun k : Nat => [(5, (.v (.int .i64 k)))]) (fun k => []) (fun k => []) (fun k => []) (fun k => k ≤ l.length ∧ n ∉ l.take k) (fun k => l.length - k) (0) (by simp only [sx2, encs, sxR, sevalprocAttr] <;> (try simp) <;> (try omega)) ?_ ?_
 ·exact ⟨by omega, by simp⟩
 rintro k ⟨hk, ht⟩
 simp only [↓sx0, sxE, encs, sevalprocAttr]
 refine BrW.dec (fun hlt => ?_) (fun hlt => ?_)
 ·simp only [↓sx0, sxE, encs, sevalprocAttr]
  have h1 : k < l.length := by omega
  refine IxW.nat h1 ?_
  simp only [↓sx0, sxE, encs, sevalprocAttr]
  refine BrW.dec (fun he => ?_) (fun he => ?_)
  ·simp only [↓sx0, sxE, encs, sevalprocAttr]
   have : n ∈ l := by rw [← he]; exact List.getElem_mem h1
   refine EndW.fn ?_ ?_ <;> simp only [sx4, encs, kpLL_map, sxR, sevalprocAttr] <;> (try simp [this]) <;> (try omega)
  ·simp only [↓sx0, sxE, encs, sevalprocAttr]
   (with_reducible refine Vc.go ?_ fun _ => ?_); focus (first | omega | (simp only [InK]; omega) | (simp [InK]; done) | (simp [InK]; omega))
   simp only [↓sx0, sxE, encs, sevalprocAttr]
   refine ⟨k + 1, StLe.auto (by simp only [sx2, encs, sxR, sevalprocAttr] <;> (try simp) <;> (try omega)), ?_, ?_⟩
   ·refine ⟨h1, ?_⟩
    rw [List.take_succ_eq_append_getElem h1, List.mem_append]
    rintro (h | h)
    ·exact ht h
    ·exact he (List.mem_singleton.1 h).symm
   ·omega
 ·simp only [↓sx0, sxE, encs, sevalprocAttr]
  have hke : k = l.length := by omega
  subst hke
  rw [List.take_length] at ht
  refine EndW.fn ?_ ?_ <;> simp only [sx4, encs, kpLL_map, sxR, sevalprocAttr] <;> (try simp [ht]) <;> (try omega)
theorem withinB_s (n lo hi : Int) : Ctr Tryz.prog 60 [(.v (.int .i64 n)), (.v (.int .i64 lo)), (.v (.int .i64 hi))] (fun rr => rr = ⟨(.v (.bool (decide (lo ≤ n ∧ n ≤ hi)))), []⟩) := by
 refine Ctr.of (rs := [.tmp 6]) Tok true Tryz.func60 rfl rfl rfl rfl (by simp [ofDL]) (fun w0 kp => ?_)
 simp only [↓sx0, sxE, encs, sevalprocAttr]
 refine BrW.dec (fun h => ?_) (fun h => ?_)
 ·simp only [↓sx0, sxE, encs, sevalprocAttr]
  refine EndW.fn ?_ ?_ <;> simp only [sx4, encs, kpLL_map, sxR, sevalprocAttr] <;> (try simp [h]) <;> (try omega)
 ·simp only [↓sx0, sxE, encs, sevalprocAttr]
  refine EndW.fn ?_ ?_ <;> simp only [sx4, encs, kpLL_map, sxR, sevalprocAttr] <;> (try simp [h]) <;> (try omega)
end Go.Proofs.YtgiegokdcmkfeaaGreatDoor
/-
 Chapter 6, walks: creep and marks.
-/
namespace Go.Proofs.YtgiegokdcmkfeaaGreatDoor
open Go Go.Vx
set_option maxRecDepth 20000
def creepS (leaves th page : Int) : Int × Int :=
 if 1 ≤ leaves ∧ leaves ≤ 64 then if 0 ≤ th ∧ th ≤ 10000 then if 1 ≤ page ∧ page ≤ 2 * leaves then (min ((page - 1).tdiv 2) (leaves - 1 - (page - 1).tdiv 2) * th, 0) else (0, 2) else (0, 2) else (0, 2)
def markS (s sp m : Int) : Int × Int :=
 if 0 ≤ s ∧ s ≤ 4000 then if 1 ≤ sp ∧ sp ≤ 4000 then if 1 ≤ m ∧ m ≤ sp then (s.tmod (sp.tdiv m) * m, 0) else (0, 2) else (0, 2) else (0, 2)
theorem creep_s (leaves th page : Int) : Ctr Tryz.prog 55 [(.v (.int .i64 leaves)), (.v (.int .i64 th)), (.v (.int .i64 page))] (fun rr => rr = ⟨.tup [(.v (.int .i64 ((creepS leaves th page).1))), (.v (.int .i64 ((creepS leaves th page).2)))], []⟩) := by
 refine Ctr.of (rs := [.tmp 6, .tmp 7]) Tok true Tryz.func55 rfl rfl rfl rfl (by simp [ofDL]) (fun w0 kp => ?_)
 simp only [↓sx0, sxE, encs, sevalprocAttr]
 refine CallI.fn (within_s leaves 1 64) (by simp only [sx3, encs, sxR, sevalprocAttr] <;> (try simp) <;> (try rfl)) ?_
 simp only [↓sx0, sxE, encs, sevalprocAttr]
 refine BrW.dec (fun h1 => ?_) (fun h1 => ?_)
 ·simp only [↓sx0, sxE, encs, sevalprocAttr]
  refine CallI.fn (within_s th 0 10000) (by simp only [sx3, encs, sxR, sevalprocAttr] <;> (try simp) <;> (try rfl)) ?_
  simp only [↓sx0, sxE, encs, sevalprocAttr]
  refine BrW.dec (fun h2 => ?_) (fun h2 => ?_)
  ·simp only [↓sx0, sxE, encs, sevalprocAttr]
   (with_reducible refine Vc.go ?_ fun _ => ?_); focus (first | omega | (simp only [InK]; omega) | (simp [InK]; done) | (simp [InK]; omega))
   simp only [↓sx0, sxE, encs, sevalprocAttr]
   refine CallI.fn (within_s page 1 (2 * leaves)) (by simp only [sx3, encs, sxR, sevalprocAttr] <;> (try simp) <;> (try rfl)) ?_
   simp only [↓sx0, sxE, encs, sevalprocAttr]
   refine BrW.dec (fun h3 => ?_) (fun h3 => ?_)
   ·have q : (page - 1).tdiv 2 = (page - 1) / 2 := Int.tdiv_eq_ediv_of_nonneg (by omega)
    have q1 : 0 ≤ (page - 1).tdiv 2 ∧ (page - 1).tdiv 2 ≤ leaves - 1 := by rw [q]; omega
    clear q
    have q2 : 0 ≤ min ((page - 1).tdiv 2) (leaves - 1 - (page - 1).tdiv 2) ∧ min ((page - 1).tdiv 2) (leaves - 1 - (page - 1).tdiv 2) ≤ 64 := by omega
    have q3 : min ((page - 1).tdiv 2) (leaves - 1 - (page - 1).tdiv 2) * th ≤ 64 * 10000 := Int.mul_le_mul q2.2 h2.2 h2.1 (by omega)
    have q4 : 0 ≤ min ((page - 1).tdiv 2) (leaves - 1 - (page - 1).tdiv 2) * th := Int.mul_nonneg q2.1 h2.1
    simp only [↓sx0, sxE, encs, sevalprocAttr]
    repeat ((with_reducible refine Vc.go ?_ fun _ => ?_); (focus (first | omega | (simp only [InK]; omega) | (simp [InK]; done) | (simp [InK]; omega))); simp only [↓sx0, sxE, encs, sevalprocAttr])
    refine EndW.fn ?_ ?_ <;> simp only [sx4, encs, kpLL_map, sxR, sevalprocAttr] <;> (try simp [creepS, h1, h2, h3]) <;> (try omega)
   ·simp only [↓sx0, sxE, encs, sevalprocAttr]
    refine EndW.fn ?_ ?_ <;> simp only [sx4, encs, kpLL_map, sxR, sevalprocAttr] <;> (try simp [creepS, h1, h2, h3]) <;> (try omega)
  ·simp only [↓sx0, sxE, encs, sevalprocAttr]
   refine EndW.fn ?_ ?_ <;> simp only [sx4, encs, kpLL_map, sxR, sevalprocAttr] <;> (try simp [creepS, h1, h2]) <;> (try omega)
 ·simp only [↓sx0, sxE, encs, sevalprocAttr]
  refine EndW.fn ?_ ?_ <;> simp only [sx4, encs, kpLL_map, sxR, sevalprocAttr] <;> (try simp [creepS, h1]) <;> (try omega)
def misK : List Int → Nat → Int × Int
 | [], _ => (0, 12)
 | n :: l, k => if n = k then misK l (k + 1) else (k, 0)
def misS (l : List Int) : Int × Int := if 1 ≤ l.length ∧ l.length ≤ 4000 then if ∀ n ∈ l, 0 ≤ n ∧ n ≤ 4000 then misK l 0 else (0, 2) else (0, 10)
end Go.Proofs.YtgiegokdcmkfeaaGreatDoor
/-
 Chapter 6, walks: books.
-/
namespace Go.Proofs.YtgiegokdcmkfeaaGreatDoor
open Go Go.Vx
set_option maxRecDepth 20000
structure Book where
 pages : Int
 per : Int
 plates : List Int
 cancels : List Int
/-- the first number of a list that is out of range, or not behind the one ahead of it. -/
def badO (st : Bool) : Option Int → Int → Bool
 | none, _ => false
 | some q, n => if st then decide (n ≤ q) else decide (n < q)
def scanO (lo hi : Int) (st : Bool) : Option Int → Nat → List Int → Option (Nat × Int)
 | _, _, [] => none
 | p, k, n :: l => if ¬ (lo ≤ n ∧ n ≤ hi) then some (k, 2) else if badO st p n = true then some (k, 9) else scanO lo hi st (some n) (k + 1) l
def prevK (l : List Int) : Nat → Option Int
 | 0 => none
 | k + 1 => l[k]?
def bookS (b : Book) : Int × Int :=
 if ¬ (1 ≤ b.pages ∧ b.pages ≤ 4000) then (0, 2) else if ¬ (2 ≤ b.per ∧ b.per ≤ 64) then (0, 2) else if b.per.tmod 2 ≠ 0 then (0, 3) else if 40 < b.plates.length then (0, 8) else
 match scanO 0 b.pages false none 0 b.plates with
 | some (k, e) => (k, e)
 | none => if 40 < b.cancels.length then (0, 8) else
  match scanO 1 b.pages true none 0 b.cancels with
  | some (k, e) => (k, e)
  | none => (0, 0)
theorem book_s (x x' : Bool) (b : Book) : Ctr Tryz.prog 86 [.agg [(.v (.int .i64 b.pages)), (.v (.int .i64 b.per)), .sl x 1 (b.plates.map eI), .sl x' 1 (b.cancels.map eI)]] (fun rr => rr = ⟨.tup [(.v (.int .i64 ((bookS b).1))), (.v (.int .i64 ((bookS b).2)))], []⟩) := by
 refine Ctr.of (rs := [.tmp 2, .tmp 3]) Tok true Tryz.func86 rfl rfl rfl rfl (by simp [ofDL]) (fun w0 kp => ?_)
 simp only [↓sx0, sxE, encs, sevalprocAttr]
 refine CallI.fn (within_s b.pages 1 4000) (by simp only [sx3, encs, sxR, sevalprocAttr] <;> (try simp) <;> (try rfl)) ?_
 simp only [↓sx0, sxE, encs, sevalprocAttr]
 refine BrW.dec (fun p1 => ?_) (fun p1 => ?_)
 ·simp only [↓sx0, sxE, encs, sevalprocAttr]
  refine CallI.fn (within_s b.per 2 64) (by simp only [sx3, encs, sxR, sevalprocAttr] <;> (try simp) <;> (try rfl)) ?_
  simp only [↓sx0, sxE, encs, sevalprocAttr]
  refine BrW.dec (fun p2 => ?_) (fun p2 => ?_)
  ·simp only [↓sx0, sxE, encs, sevalprocAttr]
   (with_reducible refine Vc.go ?_ fun _ => ?_); focus (first | omega | (simp only [InK]; omega) | (simp [InK]; done) | (simp [InK]; omega))
   simp only [↓sx0, sxE, encs, sevalprocAttr]
   refine BrW.dec (fun p3 => ?_) (fun p3 => ?_)
   ·simp only [↓sx0, sxE, encs, sevalprocAttr]
    refine EndW.fn ?_ ?_ <;> simp only [sx4, encs, kpLL_map, sxR, sevalprocAttr] <;> (try simp [bookS, p1, p2, p3]) <;> (try omega)
   ·simp only [↓sx0, sxE, encs, sevalprocAttr]
    refine BrW.dec (fun p4 => ?_) (fun p4 => ?_)
    ·simp only [↓sx0, sxE, encs, sevalprocAttr]
     have p4' : 40 < b.plates.length := by omega
     refine EndW.fn ?_ ?_ <;> simp only [sx4, encs, kpLL_map, sxR, sevalprocAttr] <;> (try simp [bookS, p1, p2, p3, p4']) <;> (try omega)
    ·simp only [↓sx0, sxE, encs, sevalprocAttr]
     have p4' : ¬ 40 < b.plates.length := by omega
     refine LoopW.comp [1, 30, 31, 32] (by simp only [sx2, encs, sxR, sevalprocAttr] <;> (try simp) <;> (try omega)) ?_
     simp only [sx2, sxR, sevalprocAttr]
     refine LoopW.up Tok (fun k : Nat => [(32, (.v (.int .i64 k)))]) (fun k => []) (fun k => []) (fun k => []) (fun k => k ≤ b.plates.length ∧ scanO 0 b.pages false none 0 b.plates = scanO 0 b.pages false (prevK b.plates k) k (b.plates.drop k)) (fun k => b.plates.length - k) (0) (by simp only [sx2, encs, sxR, sevalprocAttr] <;> (try simp) <;> (try omega)) ?_ ?_
     ·exact ⟨by omega, by simp [prevK]⟩
     rintro k ⟨hk, hm⟩
     simp only [↓sx0, sxE, encs, sevalprocAttr]
     refine BrW.dec (fun hlt => ?_) (fun hlt => ?_)
     ·simp only [↓sx0, sxE, encs, sevalprocAttr]
      have h1 : k < b.plates.length := by omega
      rw [List.drop_eq_getElem_cons h1] at hm
      simp only [scanO] at hm
      refine IxW.nat h1 ?_
      simp only [↓sx0, sxE, encs, sevalprocAttr]
      refine CallI.fn (within_s b.plates[k] 0 b.pages) (by simp only [sx3, encs, sxR, sevalprocAttr] <;> (try simp) <;> (try rfl)) ?_
      simp only [↓sx0, sxE, encs, sevalprocAttr]
      refine BrW.dec (fun hin => ?_) (fun hin => ?_)
      ·rw [if_neg (fun h => h hin)] at hm
       simp only [↓sx0, sxE, encs, sevalprocAttr]
       match k, hk, h1, hm, hin with
       | 0, hk, h1, hm, hin =>
        rw [if_neg (by simp [badO, prevK])] at hm
        refine BrW.no (by omega) ?_
        simp only [↓sx0, sxE, encs, sevalprocAttr]
        (with_reducible refine Vc.go ?_ fun _ => ?_); focus (first | omega | (simp only [InK]; omega) | (simp [InK]; done) | (simp [InK]; omega))
        simp only [↓sx0, sxE, encs, sevalprocAttr]
        refine ⟨1, StLe.auto (by simp only [sx2, encs, sxR, sevalprocAttr] <;> (try simp) <;> (try omega)), ?_, ?_⟩
        ·exact ⟨h1, by rw [show prevK b.plates 1 = some b.plates[0] from List.getElem?_eq_getElem h1]; exact hm⟩
        ·omega
       | j + 1, hk, h1, hm, hin =>
        have hj : j < b.plates.length := by omega
        have hp : prevK b.plates (j + 1) = some b.plates[j] := List.getElem?_eq_getElem hj
        rw [hp] at hm
        simp only [badO, Bool.false_eq_true, if_false, if_true] at hm
        refine BrW.yes (by omega) ?_
        simp only [↓sx0, sxE, encs, sevalprocAttr]
        (with_reducible refine Vc.go ?_ fun _ => ?_); focus (first | omega | (simp only [InK]; omega) | (simp [InK]; done) | (simp [InK]; omega))
        simp only [↓sx0, sxE, encs, sevalprocAttr]
        refine IxW.map b.plates[j] (by omega) (by rw [show (((j + 1 : Nat) : Int) - 1).toNat = j by omega]; exact List.getElem?_eq_getElem hj) ?_
        simp only [↓sx0, sxE, encs, sevalprocAttr]
        refine BrW.dec (fun hb => ?_) (fun hb => ?_)
        ·rw [if_pos (by simpa using hb)] at hm
         simp only [↓sx0, sxE, encs, sevalprocAttr]
         refine EndW.fn ?_ ?_ <;> simp only [sx4, encs, kpLL_map, sxR, sevalprocAttr] <;> (try simp [bookS, p1, p2, p3, p4', hm]) <;> (try omega)
        ·rw [if_neg (by simpa using hb)] at hm
         simp only [↓sx0, sxE, encs, sevalprocAttr]
         (with_reducible refine Vc.go ?_ fun _ => ?_); focus (first | omega | (simp only [InK]; omega) | (simp [InK]; done) | (simp [InK]; omega))
         simp only [↓sx0, sxE, encs, sevalprocAttr]
         refine ⟨j + 1 + 1, StLe.auto (by simp only [sx2, encs, sxR, sevalprocAttr] <;> (try simp) <;> (try omega)), ?_, ?_⟩
         ·exact ⟨h1, by rw [show prevK b.plates (j + 1 + 1) = some b.plates[j + 1] from List.getElem?_eq_getElem h1]; exact hm⟩
         ·omega
      ·rw [if_pos hin] at hm
       simp only [↓sx0, sxE, encs, sevalprocAttr]
       refine EndW.fn ?_ ?_ <;> simp only [sx4, encs, kpLL_map, sxR, sevalprocAttr] <;> (try simp [bookS, p1, p2, p3, p4', hm]) <;> (try omega)
     ·simp only [↓sx0, sxE, encs, sevalprocAttr]
      have hke : k = b.plates.length := by omega
      subst hke
      rw [List.drop_length] at hm
      simp only [scanO] at hm
      clear hk hlt
      have q1 := hm
      clear hm
      refine BrW.dec (fun p5 => ?_) (fun p5 => ?_)
      ·simp only [↓sx0, sxE, encs, sevalprocAttr]
       have p5' : 40 < b.cancels.length := by omega
       refine EndW.fn ?_ ?_ <;> simp only [sx4, encs, kpLL_map, sxR, sevalprocAttr] <;> (try simp [bookS, p1, p2, p3, p4', q1, p5']) <;> (try omega)
      ·simp only [↓sx0, sxE, encs, sevalprocAttr]
       have p5' : ¬ 40 < b.cancels.length := by omega
       refine LoopW.comp [1, 64, 65, 66] (by simp only [sx2, encs, sxR, sevalprocAttr] <;> (try simp) <;> (try omega)) ?_
       simp only [sx2, sxR, sevalprocAttr]
       refine LoopW.up Tok (fun k : Nat => [(66, (.v (.int .i64 k)))]) (fun k => []) (fun k => []) (fun k => []) (fun k => k ≤ b.cancels.length ∧ scanO 1 b.pages true none 0 b.cancels = scanO 1 b.pages true (prevK b.cancels k) k (b.cancels.drop k)) (fun k => b.cancels.length - k) (0) (by simp only [sx2, encs, sxR, sevalprocAttr] <;> (try simp) <;> (try omega)) ?_ ?_
       ·exact ⟨by omega, by simp [prevK]⟩
       rintro k ⟨hk, hm⟩
       simp only [↓sx0, sxE, encs, sevalprocAttr]
       refine BrW.dec (fun hlt => ?_) (fun hlt => ?_)
       ·simp only [↓sx0, sxE, encs, sevalprocAttr]
        have h1 : k < b.cancels.length := by omega
        rw [List.drop_eq_getElem_cons h1] at hm
        simp only [scanO] at hm
        refine IxW.nat h1 ?_
        simp only [↓sx0, sxE, encs, sevalprocAttr]
        refine CallI.fn (within_s b.cancels[k] 1 b.pages) (by simp only [sx3, encs, sxR, sevalprocAttr] <;> (try simp) <;> (try rfl)) ?_
        simp only [↓sx0, sxE, encs, sevalprocAttr]
        refine BrW.dec (fun hin => ?_) (fun hin => ?_)
        ·rw [if_neg (fun h => h hin)] at hm
         simp only [↓sx0, sxE, encs, sevalprocAttr]
         match k, hk, h1, hm, hin with
         | 0, hk, h1, hm, hin =>
          rw [if_neg (by simp [badO, prevK])] at hm
          refine BrW.no (by omega) ?_
          simp only [↓sx0, sxE, encs, sevalprocAttr]
          (with_reducible refine Vc.go ?_ fun _ => ?_); focus (first | omega | (simp only [InK]; omega) | (simp [InK]; done) | (simp [InK]; omega))
          simp only [↓sx0, sxE, encs, sevalprocAttr]
          refine ⟨1, StLe.auto (by simp only [sx2, encs, sxR, sevalprocAttr] <;> (try simp) <;> (try omega)), ?_, ?_⟩
          ·exact ⟨h1, by rw [show prevK b.cancels 1 = some b.cancels[0] from List.getElem?_eq_getElem h1]; exact hm⟩
          ·omega
         | j + 1, hk, h1, hm, hin =>
          have hj : j < b.cancels.length := by omega
          have hp : prevK b.cancels (j + 1) = some b.cancels[j] := List.getElem?_eq_getElem hj
          rw [hp] at hm
          simp only [badO, Bool.false_eq_true, if_false, if_true] at hm
          refine BrW.yes (by omega) ?_
          simp only [↓sx0, sxE, encs, sevalprocAttr]
          (with_reducible refine Vc.go ?_ fun _ => ?_); focus (first | omega | (simp only [InK]; omega) | (simp [InK]; done) | (simp [InK]; omega))
          simp only [↓sx0, sxE, encs, sevalprocAttr]
          refine IxW.map b.cancels[j] (by omega) (by rw [show (((j + 1 : Nat) : Int) - 1).toNat = j by omega]; exact List.getElem?_eq_getElem hj) ?_
          simp only [↓sx0, sxE, encs, sevalprocAttr]
          refine BrW.dec (fun hb => ?_) (fun hb => ?_)
          ·rw [if_pos (by simpa using hb)] at hm
           simp only [↓sx0, sxE, encs, sevalprocAttr]
           refine EndW.fn ?_ ?_ <;> simp only [sx4, encs, kpLL_map, sxR, sevalprocAttr] <;> (try simp [bookS, p1, p2, p3, p4', q1, p5', hm]) <;> (try omega)
          ·rw [if_neg (by simpa using hb)] at hm
           simp only [↓sx0, sxE, encs, sevalprocAttr]
           (with_reducible refine Vc.go ?_ fun _ => ?_); focus (first | omega | (simp only [InK]; omega) | (simp [InK]; done) | (simp [InK]; omega))
           simp only [↓sx0, sxE, encs, sevalprocAttr]
           refine ⟨j + 1 + 1, StLe.auto (by simp only [sx2, encs, sxR, sevalprocAttr] <;> (try simp) <;> (try omega)), ?_, ?_⟩
           ·exact ⟨h1, by rw [show prevK b.cancels (j + 1 + 1) = some b.cancels[j + 1] from List.getElem?_eq_getElem h1]; exact hm⟩
           ·omega
        ·rw [if_pos hin] at hm
         simp only [↓sx0, sxE, encs, sevalprocAttr]
         refine EndW.fn ?_ ?_ <;> simp only [sx4, encs, kpLL_map, sxR, sevalprocAttr] <;> (try simp [bookS, p1, p2, p3, p4', q1, p5', hm]) <;> (try omega)
       ·simp only [↓sx0, sxE, encs, sevalprocAttr]
        have hke : k = b.cancels.length := by omega
        subst hke
        rw [List.drop_length] at hm
        simp only [scanO] at hm
        clear hk hlt
        refine EndW.fn ?_ ?_ <;> simp only [sx4, encs, kpLL_map, sxR, sevalprocAttr] <;> (try simp [bookS, p1, p2, p3, p4', q1, p5', hm]) <;> (try omega)
  ·simp only [↓sx0, sxE, encs, sevalprocAttr]
   refine EndW.fn ?_ ?_ <;> simp only [sx4, encs, kpLL_map, sxR, sevalprocAttr] <;> (try simp [bookS, p1, p2]) <;> (try omega)
 ·simp only [↓sx0, sxE, encs, sevalprocAttr]
  refine EndW.fn ?_ ?_ <;> simp only [sx4, encs, kpLL_map, sxR, sevalprocAttr] <;> (try simp [bookS, p1]) <;> (try omega)
end Go.Proofs.YtgiegokdcmkfeaaGreatDoor
/-
 Chapter 6, walks: signatures.
-/
namespace Go.Proofs.YtgiegokdcmkfeaaGreatDoor
open Go Go.Vx
set_option maxRecDepth 20000
def sigE (P Q k : Nat) : Rng := ⟨1 + (k : Int) * Q, min (1 + (k : Int) * Q + Q - 1) P⟩
def sigL (P Q k : Nat) : List Rng := (List.range k).map (sigE P Q)
theorem sigL_succ (P Q k : Nat) : sigL P Q (k + 1) = sigL P Q k ++ [sigE P Q k] := by simp [sigL, List.range_succ]
theorem sigL_length (P Q k : Nat) : (sigL P Q k).length = k := by simp [sigL]
def sigN (P Q : Nat) : Nat := (P + Q - 1) / Q
theorem sigN_eq {P Q k : Nat} (hQ : 0 < Q) (h1 : P ≤ k * Q) (h2 : k = 0 ∨ k * Q < P + Q) (hP : 0 < P) : k = sigN P Q := by
 unfold sigN
 have h3 : k * Q < P + Q := by
  rcases h2 with rfl | h2
  ·simp at h1; omega
  ·exact h2
 exact ((Nat.div_eq_iff hQ).2 ⟨by omega, by omega⟩).symm
theorem book_ok {b : Book} (h : (bookS b).2 = 0) : 1 ≤ b.pages ∧ b.pages ≤ 4000 ∧ 2 ≤ b.per ∧ b.per ≤ 64 := by
 unfold bookS at h
 by_cases p1 : 1 ≤ b.pages ∧ b.pages ≤ 4000
 ·by_cases p2 : 2 ≤ b.per ∧ b.per ≤ 64
  ·exact ⟨p1.1, p1.2, p2.1, p2.2⟩
  ·rw [if_neg (fun h => h p1), if_pos p2] at h; simp at h
 ·rw [if_pos p1] at h; simp at h
def sigS (b : Book) : List Rng × Int × Int :=
 if (bookS b).2 ≠ 0 then ([], 0, (bookS b).2) else (sigL b.pages.toNat b.per.toNat (sigN b.pages.toNat b.per.toNat), (sigN b.pages.toNat b.per.toNat : Int) * b.per.toNat - b.pages.toNat, 0)
theorem sig_s (x x' : Bool) (b : Book) : Ctr Tryz.prog 56 [.agg [(.v (.int .i64 b.pages)), (.v (.int .i64 b.per)), .sl x 1 (b.plates.map eI), .sl x' 1 (b.cancels.map eI)]] (fun rr => rr = ⟨.tup [.sl true 2 ((sigS b).1.map eR), (.v (.int .i64 ((sigS b).2.1))), (.v (.int .i64 ((sigS b).2.2)))], []⟩) := by
 refine Ctr.of (rs := [.tmp 2, .tmp 3, .tmp 4]) Tok true Tryz.func56 rfl rfl rfl rfl (by simp [ofDL]) (fun w0 kp => ?_)
 simp only [↓sx0, sxE, encs, sevalprocAttr]
 refine CallI.fn (book_s x x' b) (by simp only [sx3, encs, sxR, sevalprocAttr] <;> (try simp) <;> (try rfl)) ?_
 simp only [↓sx0, sxE, encs, sevalprocAttr]
 refine BrW.dec (fun he => ?_) (fun he => ?_)
 ·simp only [↓sx0, sxE, encs, sevalprocAttr]
  refine EndW.fn ?_ ?_ <;> simp only [sx4, encs, kpLL_map, sxR, sevalprocAttr] <;> (try simp [sigS, he]) <;> (try omega)
 ·have he0 : (bookS b).2 = 0 := Decidable.not_not.1 he
  obtain ⟨a1, a2, a3, a4⟩ := book_ok he0
  obtain ⟨p, q, pl, ca⟩ := b
  simp only [] at a1 a2 a3 a4
  obtain ⟨P, rfl⟩ : ∃ P : Nat, p = P := ⟨p.toNat, by omega⟩
  obtain ⟨Q, rfl⟩ : ∃ Q : Nat, q = Q := ⟨q.toNat, by omega⟩
  simp only [↓sx0, sxE, encs, sevalprocAttr]
  refine LoopW.comp [1, 7, 8] (by simp only [sx2, encs, sxR, sevalprocAttr] <;> (try simp) <;> (try omega)) ?_
  simp only [sx2, sxR, sevalprocAttr]
  refine LoopW.up Tok (fun k : Nat => [(7, .row 0), (8, (.v (.int .i64 (1 + (k : Int) * Q))))]) (fun k => []) (fun k => []) (fun k => [.own 133 2 ((sigL P Q k).map eR)]) (fun k => k = 0 ∨ k * Q < P + Q) (fun k => P - k * Q) (0) (by simp only [sx2, encs, sxR, sevalprocAttr] <;> (try simp [sigL, encs]) <;> (try omega)) ?_ ?_
  ·exact .inl rfl
  intro k hk
  have e : 1 + ((k + 1 : Nat) : Int) * Q = 1 + (k : Int) * Q + Q := by rw [Int.natCast_add, Int.add_mul]; omega
  have e2 : (k + 1) * Q = k * Q + Q := Nat.succ_mul k Q
  have e3 : ((k * Q : Nat) : Int) = (k : Int) * Q := by simp
  have hkq : k ≤ k * Q := Nat.le_mul_of_pos_right k (by omega)
  simp only [↓sx0, sxE, encs, sevalprocAttr]
  refine BrW.dec (fun hlt => ?_) (fun hlt => ?_)
  ·simp only [↓sx0, sxE, encs, sevalprocAttr]
   repeat ((with_reducible refine Vc.go ?_ fun _ => ?_); (focus (first | omega | (simp only [InK]; omega) | (simp [sigL_length, InK]; done) | (simp [sigL_length, InK]; omega))); simp only [↓sx0, sxE, encs, sevalprocAttr])
   have e4 : [D.v (.int .i64 (1 + (k : Int) * Q)), D.v (.int .i64 (min (1 + (k : Int) * Q + Q - 1) (P : Int)))] = eR (sigE P Q k) := by simp [eR, sigE]
   rw [e4]
   refine ⟨k + 1, StLe.auto (by simp only [sx2, encs, sxR, sevalprocAttr] <;> (try simp [sigL_succ, e, Int.add_mul, encs]) <;> (try omega)), ?_, ?_⟩
   ·exact .inr (by rw [e2]; omega)
   ·rw [e2]; omega
  ·simp only [↓sx0, sxE, encs, sevalprocAttr]
   have hN : k = sigN P Q := sigN_eq (by omega) (by omega) hk (by omega)
   have hk2 : k * Q < P + Q := by
    rcases hk with rfl | hk
    ·simp; omega
    ·exact hk
   refine DrawW.plan Tok mixed (.q 0 <| .q 1 <| .q 2 <| .q 3 <| .q 4 <| .q 5 <| .q 6 <| .q 7 <| .q 8 <| .done) (by kernel_rfl) (by kernel_rfl) ?_
   simp only [↓sx0, sxE, encs, sevalprocAttr]
   repeat ((with_reducible refine Vc.go ?_ fun _ => ?_); (focus (first | omega | (simp only [InK]; omega) | (simp [InK]; done) | (simp [InK]; omega))); simp only [↓sx0, sxE, encs, sevalprocAttr])
   have e5 : (sigS ⟨P, Q, pl, ca⟩) = (sigL P Q k, (k : Int) * Q - P, 0) := by
    unfold sigS
    rw [if_neg (by simp [he0])]
    simp [← hN]
   rw [e5]
   refine EndW.fn ?_ ?_ <;> simp only [sx4, encs, kpLL_map, sxR, sevalprocAttr] <;> (try simp [kpL, kpD]) <;> (try omega)
end Go.Proofs.YtgiegokdcmkfeaaGreatDoor
/-
 Chapter 6, walks: schemes of folds.
-/
namespace Go.Proofs.YtgiegokdcmkfeaaGreatDoor
open Go Go.Vx
set_option maxRecDepth 20000
/-- all leaves are so. -/
def allP (P : Leaf → Prop) (ls : List (List Leaf)) : Prop := ∀ l ∈ ls, ∀ y ∈ l, P y
theorem allP_stk {P : Leaf → Prop} {ls : List (List Leaf)} (h : allP P ls) (i : Nat) : ∀ y ∈ stkAt ls i, P y := by
 by_cases hi : i < ls.length
 ·exact h _ (List.mem_of_getElem? (stkAt_get hi))
 ·have : stkAt ls i = [] := by simp [stkAt, List.getD_eq_getElem?_getD, List.getElem?_eq_none (Nat.le_of_not_lt hi)]
  rw [this]; simp
theorem allP_fold {P : Leaf → Prop} (h1 : ∀ b y, P y → P (flip b y)) (h2 : ∀ y, P y → P (rnd1 y)) {p : PileS} (h : allP P p.ls) (x : Fold) : allP P (foldP p x).ls := by
 have hf : ∀ b i, ∀ y ∈ (stkAt p.ls i).reverse.map (flip b), P y := fun b i y hy => by
  simp only [List.mem_map, List.mem_reverse] at hy
  obtain ⟨z, hz, rfl⟩ := hy
  exact h1 b z (allP_stk h i z hz)
 have hlaid : ∀ (rows back : Bool) (first along across : Nat), ∀ y ∈ laidAt p.cols p.rows first rows back p.ls along across, P y := fun rows back first along across y hy => by
  unfold laidAt at hy
  simp only [] at hy
  generalize (if back = true then first - 1 - along else along) = a at hy
  generalize (if rows = true then p.rows else p.cols) = side at hy
  split at hy
  ·rcases List.mem_append.1 hy with hy | hy
   ·exact hf _ _ y hy
   ·exact allP_stk h _ y hy
  ·exact allP_stk h _ y hy
 unfold foldP
 by_cases he : foldErrS p x ≠ 0
 ·rw [if_pos he]; exact h
 rw [if_neg he]
 by_cases h5 : x.kind = 5
 ·rw [if_pos h5]
  intro l hl
  obtain ⟨c, r, _, _, rfl⟩ := mem_grid hl
  exact hf _ _
 rw [if_neg h5]
 by_cases h6 : x.kind = 6
 ·rw [if_pos h6]
  intro l hl
  obtain ⟨c, r, _, _, rfl⟩ := mem_grid hl
  intro y hy
  simp only [List.mem_map] at hy
  obtain ⟨z, hz, rfl⟩ := hy
  exact h2 z (allP_stk h _ z hz)
 rw [if_neg h6]
 intro l hl
 simp only [laidG] at hl
 split at hl
 ·obtain ⟨c, r, _, _, rfl⟩ := mem_grid hl
  exact hlaid _ _ _ _ _
 ·obtain ⟨c, r, _, _, rfl⟩ := mem_grid hl
  exact hlaid _ _ _ _ _
theorem allP_run {P : Leaf → Prop} (h1 : ∀ b y, P y → P (flip b y)) (h2 : ∀ y, P y → P (rnd1 y)) : ∀ (l : List Fold) (p : PileS) (k : Nat), allP P p.ls → allP P (foldRun p k l).1.ls
 | [], p, _, h => h
 | x :: l, p, k, h => by
  simp only [foldRun]
  split
  ·exact allP_fold h1 h2 h x
  ·exact allP_run h1 h2 l _ _ (allP_fold h1 h2 h x)
/-- leaves of a sheet. -/
def InS (c r : Int) (y : Leaf) : Prop := (0 ≤ y.col ∧ y.col < c) ∧ 0 ≤ y.row ∧ y.row < r
theorem folded_in (c r : Int) (l : List Fold) : ∀ y ∈ (foldedS c r l).1, InS c r y := by
 unfold foldedS
 split
 ·simp
 split
 ·simp
 have h0 : allP (InS c r) (flatP c.toNat r.toNat).ls := fun s hs y hy => by
  simp only [flatP, flatG] at hs
  obtain ⟨a, b, ha, hb, rfl⟩ := mem_grid hs
  simp only [oneL, List.mem_singleton] at hy
  subst hy
  simp only [InS]; omega
 have h := allP_run (P := InS c r) (fun b y hy => by simpa only [InS, flip] using hy) (fun y hy => by simpa only [InS, rnd1] using hy) l _ 0 h0
 split
 ·simp
 ·rename_i p hp
  rw [hp] at h
  split
  ·simp
  ·intro y hy
   cases hls : p.ls with
   | nil => rw [hls] at hy; simp at hy
   | cons s m => rw [hls] at hy; exact h s (by simp [hls]) y hy
def cellAt (i : Nat) (x : Leaf) : Cell := if x.over = 1 then ⟨2 * (i : Int) + 2, x.round, 2 * (i : Int) + 1, x.round⟩ else ⟨2 * (i : Int) + 1, x.round, 2 * (i : Int) + 2, x.round⟩
def schemeK (cols : Int) : List Cell → Nat → List Leaf → List Cell
 | cs, _, [] => cs
 | cs, i, x :: l => schemeK cols (cs.set (x.row * cols + x.col).toNat (cellAt i x)) (i + 1) l
def zeroC : Cell := ⟨0, 0, 0, 0⟩
/-- columns, rows, cells, and the error. -/
def schemeS (c r : Int) (l : List Fold) : Int × Int × List Cell × Int :=
 if (foldedS c r l).2.2 ≠ 0 then (0, 0, [], (foldedS c r l).2.2) else (c, r, schemeK c (List.replicate (c * r).toNat zeroC) 0 (foldedS c r l).1, 0)
theorem folded_sheet {c r : Int} {l : List Fold} (h : (foldedS c r l).2.2 = 0) : 1 ≤ c ∧ c ≤ 8 ∧ 1 ≤ r ∧ r ≤ 8 ∧ sheetErr c r = 0 := by
 have he : sheetErr c r = 0 := by
  unfold foldedS at h
  by_cases he : sheetErr c r = 0
  ·exact he
  ·rw [if_pos he] at h; exact h
 have he2 := he
 unfold sheetErr at he2
 by_cases h1 : 1 ≤ c ∧ c ≤ 8
 ·rw [if_pos h1] at he2
  by_cases h2 : 1 ≤ r ∧ r ≤ 8
  ·exact ⟨h1.1, h1.2, h2.1, h2.2, he⟩
  ·rw [if_neg h2] at he2; omega
 ·rw [if_neg h1] at he2; omega
theorem foldRun_good : ∀ (l : List Fold) (p : PileS) (k h : Nat), p.Good h → (foldRun p k l).2 = none → (foldRun p k l).1.Good (2 ^ l.length * h)
 | [], p, k, h, hg, _ => by simpa [foldRun] using hg
 | x :: l, p, k, h, hg, hn => by
  simp only [foldRun] at hn ⊢
  by_cases he : foldErrS p x ≠ 0
  ·rw [if_pos he] at hn; simp at hn
  ·rw [if_neg he] at hn ⊢
   have := foldRun_good l _ (k + 1) _ (foldP_good hg (Decidable.not_not.1 he)) hn
   rwa [← Nat.mul_assoc, ← Nat.pow_succ] at this
theorem folded_len (c r : Int) (l : List Fold) : (foldedS c r l).1.length ≤ 4096 := by
 unfold foldedS
 by_cases h0 : sheetErr c r ≠ 0
 ·rw [if_pos h0]; simp
 rw [if_neg h0]
 by_cases h1 : 12 < l.length
 ·rw [if_pos h1]; simp
 rw [if_neg h1]
 have hs : 1 ≤ c ∧ c ≤ 8 ∧ 1 ≤ r ∧ r ≤ 8 := by
  have he2 := Decidable.not_not.1 h0
  unfold sheetErr at he2
  by_cases h1 : 1 ≤ c ∧ c ≤ 8
  ·rw [if_pos h1] at he2
   by_cases h2 : 1 ≤ r ∧ r ≤ 8
   ·omega
   ·rw [if_neg h2] at he2; omega
  ·rw [if_neg h1] at he2; omega
 have hg := foldRun_good l (flatP c.toNat r.toNat) 0 1 (flatP_good (by omega) (by omega) (by omega) (by omega))
 split
 ·simp
 ·rename_i p hp
  rw [hp] at hg
  have hg := hg rfl
  split
  ·simp
  ·cases hls : p.ls with
   | nil => simp
   | cons s m =>
    have h3 := (hg.fine s (by simp [hls])).2
    have : (2 : Nat) ^ l.length ≤ 2 ^ 12 := Nat.pow_le_pow_right (by omega) (by omega)
    simp only [List.headD_cons]; omega
theorem scheme_s (b : Bool) (c r : Int) (f : List Fold) (hf : Cnt f) : Ctr Tryz.prog 7 [.agg [(.v (.int .i64 c)), (.v (.int .i64 r))], .sl b 2 (f.map eF)] (fun rr => rr = ⟨.tup [.agg [(.v (.int .i64 ((schemeS c r f).1))), (.v (.int .i64 ((schemeS c r f).2.1))), .sl true 4 ((schemeS c r f).2.2.1.map eC)], (.v (.int .i64 ((schemeS c r f).2.2.2)))], []⟩) := by
 have hin := folded_in c r f
 have hl4 := folded_len c r f
 refine Ctr.of (rs := [.cell 4 29, .tmp 5]) Tok true Tryz.func7 rfl rfl rfl rfl (by simp [ofDL]) (fun w0 kp => ?_)
 simp only [↓sx0, sxE, encs, sevalprocAttr]
 refine CallI.fn (folded_s b c r f hf) (by simp only [sx3, encs, sxR, sevalprocAttr] <;> (try simp) <;> (try rfl)) ?_
 simp only [↓sx0, sxE, encs, sevalprocAttr]
 refine BrW.dec (fun he => ?_) (fun he => ?_)
 ·simp only [↓sx0, sxE, encs, sevalprocAttr]
  refine EndW.fn ?_ ?_ <;> simp only [sx4, encs, kpLL_map, sxR, sevalprocAttr] <;> (try simp [schemeS, he]) <;> (try omega)
 ·obtain ⟨c1, c2, r1, r2, _⟩ := folded_sheet (Decidable.not_not.1 he)
  have hS : schemeS c r f = (c, r, schemeK c (List.replicate (c * r).toNat zeroC) 0 (foldedS c r f).1, 0) := by unfold schemeS; rw [if_neg he]
  generalize (foldedS c r f).1 = l at hin hS hl4
  obtain ⟨c, rfl⟩ : ∃ n : Nat, c = n := ⟨c.toNat, by omega⟩
  obtain ⟨r, rfl⟩ : ∃ n : Nat, r = n := ⟨r.toNat, by omega⟩
  have m1 : (c : Int) * r ≤ 8 * 8 := Int.mul_le_mul c2 r2 (by omega) (by omega)
  have m2 : 0 ≤ (c : Int) * r := Int.mul_nonneg (by omega) (by omega)
  simp only [↓sx0, sxE, encs, sevalprocAttr]
  refine DrawW.plan Tok mixed (.q 0 <| .q 1 <| .q 2 <| .q 3 <| .q 4 <| .q 5 <| .q 6 <| .q 7 <| .q 8 <| .e2 9 [1, 3] (.q 10 <| .e 11 [1, 3, 5, 7] <| .e 12 [] <| .done) 11 [1, 3, 5, 7] (.e 9 [1, 3] <| .q 10 <| .e 12 [] <| .done)) (by kernel_rfl) (by kernel_rfl) ?_
  simp only [↓sx0, sxE, encs, sevalprocAttr]
  repeat ((with_reducible refine Vc.go ?_ fun _ => ?_); (focus (first | omega | (simp only [InK]; omega) | (simp [InK]; done) | (simp [InK]; omega))); simp only [↓sx0, sxE, encs, sevalprocAttr])
  refine ⟨?_, ?_⟩
  all_goals
   repeat ((with_reducible refine Vc.go ?_ fun _ => ?_); (focus (first | omega | (simp only [InK]; omega) | (simp [InK]; done) | (simp [InK]; omega))); simp only [↓sx0, sxE, encs, sevalprocAttr])
   refine LoopW.comp [4, 9, 35, 36, 37] (by simp only [sx2, encs, sxR, sevalprocAttr] <;> (try simp) <;> (try omega)) ?_
   simp only [sx2, sxR, sevalprocAttr]
   refine LoopW.up Tok (fun x : Nat × List Cell => [(37, (.v (.int .i64 x.1)))]) (fun x => []) (fun x => [(0, x.2.map eC)]) (fun x => []) (fun x => x.1 ≤ l.length ∧ x.2.length = ((c : Int) * r).toNat ∧ schemeK c (List.replicate ((c : Int) * r).toNat zeroC) 0 l = schemeK c x.2 x.1 (l.drop x.1)) (fun x => l.length - x.1) ((0, List.replicate ((c : Int) * r).toNat zeroC)) (by simp only [sx2, encs, sxR, sevalprocAttr] <;> (try simp [eC, zeroC, encs]) <;> (try omega)) ?_ ?_
   ·exact ⟨by simp, by simp, by simp⟩
   rintro ⟨k, cs⟩ ⟨hk, hlen, hm⟩
   simp only [] at hk hlen hm
   simp only [↓sx0, sxE, encs, sevalprocAttr]
   refine BrW.dec (fun hlt => ?_) (fun hlt => ?_)
   ·have h1 : k < l.length := by omega
    rw [List.drop_eq_getElem_cons h1] at hm
    simp only [schemeK] at hm
    obtain ⟨⟨i1, i2⟩, i3, i4⟩ := hin l[k] (List.getElem_mem h1)
    have w1 : l[k].row * (c : Int) + (c : Int) ≤ (c : Int) * r := by
     have := Int.mul_le_mul_of_nonneg_right (show l[k].row + 1 ≤ (r : Int) by omega) (show (0 : Int) ≤ c by omega)
     rw [Int.add_mul, Int.one_mul, Int.mul_comm (r : Int)] at this; exact this
    have w2 : 0 ≤ l[k].row * (c : Int) := Int.mul_nonneg i3 (by omega)
    have hi : (l[k].row * (c : Int) + l[k].col).toNat < cs.length := by rw [hlen]; omega
    have hset : ∀ e : Cell, (cs.map eC).modify (l[k].row * (c : Int) + l[k].col).toNat (modE · 0 [.v (.int .i64 e.front), .v (.int .i64 e.fturn), .v (.int .i64 e.back), .v (.int .i64 e.bturn)]) = (cs.set (l[k].row * (c : Int) + l[k].col).toNat e).map eC := fun e => modify_map (List.getElem?_eq_getElem hi) e rfl
    have hset := hset (cellAt k l[k])
    unfold cellAt at hset
    simp only [↓sx0, sxE, encs, sevalprocAttr]
    refine IxW.nat h1 ?_
    simp only [↓sx0, sxE, encs, sevalprocAttr]
    repeat ((with_reducible refine Vc.go ?_ fun _ => ?_); (focus (first | omega | (simp only [InK]; omega) | (simp [InK]; done) | (simp [InK]; omega))); simp only [↓sx0, sxE, encs, sevalprocAttr])
    refine BrW.dec (fun ho => ?_) (fun ho => ?_)
    ·rw [if_pos ho] at hset
     have hca : cellAt k l[k] = ⟨2 * (k : Int) + 2, l[k].round, 2 * (k : Int) + 1, l[k].round⟩ := by unfold cellAt; rw [if_pos ho]
     simp only [↓sx0, sxE, encs, sevalprocAttr]
     repeat ((with_reducible refine Vc.go ?_ fun _ => ?_); (focus (first | omega | (simp only [InK]; omega) | (simp [hlen, InK]; done) | (simp [hlen, InK]; omega))); simp only [↓sx0, sxE, encs, sevalprocAttr])
     rw [hset, ← hca]
     refine ⟨(k + 1, cs.set (l[k].row * (c : Int) + l[k].col).toNat (cellAt k l[k])), StLe.auto (by simp only [sx2, encs, sxR, sevalprocAttr] <;> (try simp) <;> (try omega)), ?_, ?_⟩
     ·exact ⟨by show k + 1 ≤ l.length; omega, by simp [hlen], hm⟩
     ·show l.length - (k + 1) < l.length - k; omega
    ·rw [if_neg ho] at hset
     have hca : cellAt k l[k] = ⟨2 * (k : Int) + 1, l[k].round, 2 * (k : Int) + 2, l[k].round⟩ := by unfold cellAt; rw [if_neg ho]
     simp only [↓sx0, sxE, encs, sevalprocAttr]
     repeat ((with_reducible refine Vc.go ?_ fun _ => ?_); (focus (first | omega | (simp only [InK]; omega) | (simp [hlen, InK]; done) | (simp [hlen, InK]; omega))); simp only [↓sx0, sxE, encs, sevalprocAttr])
     rw [hset, ← hca]
     refine ⟨(k + 1, cs.set (l[k].row * (c : Int) + l[k].col).toNat (cellAt k l[k])), StLe.auto (by simp only [sx2, encs, sxR, sevalprocAttr] <;> (try simp) <;> (try omega)), ?_, ?_⟩
     ·exact ⟨by show k + 1 ≤ l.length; omega, by simp [hlen], hm⟩
     ·show l.length - (k + 1) < l.length - k; omega
   ·simp only [↓sx0, sxE, encs, sevalprocAttr]
    have hke : k = l.length := by omega
    subst hke
    rw [List.drop_length] at hm
    simp only [schemeK] at hm
    rw [hS, hm]
    refine EndW.fn ?_ ?_ <;> simp only [sx4, encs, kpLL_map, sxR, sevalprocAttr] <;> (try simp [kpL, kpD]) <;> (try omega)
end Go.Proofs.YtgiegokdcmkfeaaGreatDoor
/-
 Chapter 6, walks: the examples of the chapter.
-/
namespace Go.Proofs.YtgiegokdcmkfeaaGreatDoor
open Go Go.Vx
set_option maxRecDepth 20000
theorem same_s (x y : Bool) (c r c' r' : Int) (l m : List Cell) (hl : l.length ≤ 1000000000) : Ctr Tryz.prog 13 [.agg [(.v (.int .i64 c)), (.v (.int .i64 r)), .sl x 4 (l.map eC)], .agg [(.v (.int .i64 (c'))), (.v (.int .i64 (r'))), .sl y 4 (m.map eC)]] (fun rr => rr = ⟨(.v (.bool (decide (c = c' ∧ r = r' ∧ l = m)))), []⟩) := by
 refine Ctr.of (rs := [.tmp 4]) Tok true Tryz.func13 rfl rfl rfl rfl (by simp [ofDL]) (fun w0 kp => ?_)
 simp only [↓sx0, sxE, encs, sevalprocAttr]
 refine BrW.dec (fun h1 => ?_) (fun h1 => ?_)
 ·simp only [↓sx0, sxE, encs, sevalprocAttr]
  refine EndW.fn ?_ ?_ <;> simp only [sx4, encs, kpLL_map, sxR, sevalprocAttr] <;> (try simp [h1]) <;> (try omega)
 simp only [↓sx0, sxE, encs, sevalprocAttr]
 refine BrW.dec (fun h2 => ?_) (fun h2 => ?_)
 ·simp only [↓sx0, sxE, encs, sevalprocAttr]
  refine EndW.fn ?_ ?_ <;> simp only [sx4, encs, kpLL_map, sxR, sevalprocAttr] <;> (try simp [h2]) <;> (try omega)
 simp only [↓sx0, sxE, encs, sevalprocAttr]
 refine BrW.dec (fun hn => ?_) (fun hn => ?_)
 ·simp only [↓sx0, sxE, encs, sevalprocAttr]
  have : ¬ l = m := fun h => hn (by rw [h])
  refine EndW.fn ?_ ?_ <;> simp only [sx4, encs, kpLL_map, sxR, sevalprocAttr] <;> (try simp [this]) <;> (try omega)
 ·simp only [↓sx0, sxE, encs, sevalprocAttr]
  have hn2 : l.length = m.length := by omega
  refine LoopW.comp [2, 3, 5] (by simp only [sx2, encs, sxR, sevalprocAttr] <;> (try simp) <;> (try omega)) ?_
  simp only [sx2, sxR, sevalprocAttr]
  refine LoopW.up Tok (fun k : Nat => [(5, (.v (.int .i64 k)))]) (fun k => []) (fun k => []) (fun k => []) (fun k => k ≤ l.length ∧ l.take k = m.take k) (fun k => l.length - k) (0) (by simp only [sx2, encs, sxR, sevalprocAttr] <;> (try simp) <;> (try omega)) ?_ ?_
  ·exact ⟨by omega, by simp⟩
  rintro k ⟨hk, ht⟩
  simp only [↓sx0, sxE, encs, sevalprocAttr]
  refine BrW.dec (fun hlt => ?_) (fun hlt => ?_)
  ·simp only [↓sx0, sxE, encs, sevalprocAttr]
   have g1 : k < l.length := by omega
   have g2 : k < m.length := by omega
   refine DrawW.plan Tok mixed (.q 0 <| .q 1 <| .q 2 <| .q 3 <| .q 4 <| .q 5 <| .q 6 <| .q 7 <| .q 8 <| .q 9 <| .q 10 <| .done) (by kernel_rfl) (by kernel_rfl) ?_
   simp only [↓sx0, sxE, encs, sevalprocAttr]
   refine IxW.nat g1 ?_
   simp only [↓sx0, sxE, encs, sevalprocAttr]
   refine IxW.nat g2 ?_
   simp only [↓sx0, sxE, encs, sevalprocAttr]
   refine BrW.dec (fun hne => ?_) (fun hne => ?_)
   ·simp only [↓sx0, sxE, encs, sevalprocAttr]
    have : ¬ l = m := fun h => hne (by subst h; rfl)
    refine EndW.fn ?_ ?_ <;> simp only [sx4, encs, kpLL_map, sxR, sevalprocAttr] <;> (try simp [this]) <;> (try omega)
   ·simp only [↓sx0, sxE, encs, sevalprocAttr]
    have he : l[k] = m[k] := by rw [eC_inj] at hne; exact Decidable.not_not.1 hne
    (with_reducible refine Vc.go ?_ fun _ => ?_); focus (first | omega | (simp only [InK]; omega) | (simp [InK]; done) | (simp [InK]; omega))
    simp only [↓sx0, sxE, encs, sevalprocAttr]
    refine ⟨k + 1, StLe.auto (by simp only [sx2, encs, sxR, sevalprocAttr] <;> (try simp) <;> (try omega)), ?_, ?_⟩
    ·exact ⟨g1, take_eq_succ g1 g2 ht he⟩
    ·omega
  ·simp only [↓sx0, sxE, encs, sevalprocAttr]
   have hke : k = l.length := by omega
   subst hke
   rw [List.take_length, hn2, List.take_length] at ht
   have e1 := Decidable.not_not.1 h1
   have e2 := Decidable.not_not.1 h2
   refine EndW.fn ?_ ?_ <;> simp only [sx4, encs, kpLL_map, sxR, sevalprocAttr] <;> (try simp [ht, e1, e2]) <;> (try omega)
theorem light_s (x : Bool) (c r : Int) (l : List Cell) : Ctr Tryz.prog 21 [.agg [(.v (.int .i64 c)), (.v (.int .i64 r)), .sl x 4 (l.map eC)]] (fun rr => rr = ⟨(.v (.bool (decide ((l.length : Int) ≤ 40)))), []⟩) := by
 refine Ctr.of (rs := [.tmp 2]) Tok true Tryz.func21 rfl rfl rfl rfl (by simp [ofDL]) (fun w0 kp => ?_)
 simp only [↓sx0, sxE, encs, sevalprocAttr]
 refine EndW.fn ?_ ?_ <;> simp only [sx4, encs, kpLL_map, sxR, sevalprocAttr] <;> (try simp) <;> (try omega)
theorem awake_s : Ctr Tryz.prog 20 [] (fun rr => rr = ⟨(.v (.bool (true))), []⟩) := by
 have s1 : schemeS 2 2 [⟨1, 1⟩, ⟨3, 1⟩] = (2, 2, [⟨7, 0, 8, 0⟩, ⟨6, 0, 5, 0⟩, ⟨2, 1, 1, 1⟩, ⟨3, 1, 4, 1⟩], 0) := by decide
 have s2 : creepS 4 10 5 = (10, 0) := by decide
 have s3 : sigS ⟨20, 8, [], []⟩ = ([⟨1, 8⟩, ⟨9, 16⟩, ⟨17, 20⟩], 4, 0) := by decide
 refine Ctr.of (rs := [.tmp 0]) Tok true Tryz.func20 rfl rfl rfl rfl (by simp [ofDL]) (fun w0 kp => ?_)
 simp only [↓sx0, sxE, encs, sevalprocAttr]
 refine CallI.fn (quarto_s) (by simp only [sx3, encs, sxR, sevalprocAttr] <;> (try simp) <;> (try rfl)) ?_
 simp only [↓sx0, sxE, encs, sevalprocAttr]
 refine CallI.fn (scheme_s true 2 2 [⟨1, 1⟩, ⟨3, 1⟩] (by intro x hx; simp at hx; rcases hx with rfl | rfl <;> simp)) (by simp only [sx3, encs, sxR, sevalprocAttr] <;> (try simp) <;> (try rfl)) ?_
 simp only [↓sx0, sxE, encs, sevalprocAttr]
 refine CallI.fn (creep_s 4 10 5) (by simp only [sx3, encs, sxR, sevalprocAttr] <;> (try simp) <;> (try rfl)) ?_
 simp only [↓sx0, sxE, encs, sevalprocAttr]
 refine CallI.fn (sig_s true true ⟨20, 8, [], []⟩) (by simp only [sx3, encs, sxR, sevalprocAttr] <;> (try simp) <;> (try rfl)) ?_
 simp only [↓sx0, sxE, encs, sevalprocAttr]
 rw [s1, s2, s3]
 simp only [↓sx0, sxE, encs, sevalprocAttr]
 refine CallI.fn (same_s true false 2 2 2 2 [⟨7, 0, 8, 0⟩, ⟨6, 0, 5, 0⟩, ⟨2, 1, 1, 1⟩, ⟨3, 1, 4, 1⟩] [⟨7, 0, 8, 0⟩, ⟨6, 0, 5, 0⟩, ⟨2, 1, 1, 1⟩, ⟨3, 1, 4, 1⟩] (by simp)) (by simp only [sx3, encs, sxR, sevalprocAttr] <;> (try simp) <;> (try rfl)) ?_
 simp only [↓sx0, sxE, encs, sevalprocAttr]
 refine CallI.fn (ranges_s true false [⟨1, 8⟩, ⟨9, 16⟩, ⟨17, 20⟩] [⟨1, 8⟩, ⟨9, 16⟩, ⟨17, 20⟩] (by simp)) (by simp only [sx3, encs, sxR, sevalprocAttr] <;> (try simp) <;> (try rfl)) ?_
 simp only [↓sx0, sxE, encs, sevalprocAttr]
 refine EndW.fn ?_ ?_ <;> simp only [sx4, encs, kpLL_map, sxR, sevalprocAttr] <;> (try simp) <;> (try omega)
end Go.Proofs.YtgiegokdcmkfeaaGreatDoor
/-
 Chapter 6, walks: views (small parts).
-/
namespace Go.Proofs.YtgiegokdcmkfeaaGreatDoor
open Go Go.Vx
set_option maxRecDepth 20000
theorem isTurn_s (n : Int) : Ctr Tryz.prog 61 [(.v (.int .i64 n))] (fun rr => rr = ⟨(.v (.bool (decide (n = 0 ∨ n = 1)))), []⟩) := by
 refine Ctr.of (rs := [.tmp 2]) Tok true Tryz.func61 rfl rfl rfl rfl (by simp [ofDL]) (fun w0 kp => ?_)
 simp only [↓sx0, sxE, encs, sevalprocAttr]
 refine BrW.dec (fun h => ?_) (fun h => ?_)
 ·simp only [↓sx0, sxE, encs, sevalprocAttr]
  refine EndW.fn ?_ ?_ <;> simp only [sx4, encs, kpLL_map, sxR, sevalprocAttr] <;> (try simp [h]) <;> (try omega)
 ·simp only [↓sx0, sxE, encs, sevalprocAttr]
  refine EndW.fn ?_ ?_ <;> simp only [sx4, encs, kpLL_map, sxR, sevalprocAttr] <;> (try simp [h]) <;> (try omega)
theorem checkSheetR_s (c r : Int) : Ctr Tryz.prog 27 [(.v (.int .i64 c)), (.v (.int .i64 r))] (fun rr => rr = ⟨(.v (.int .i64 (sheetErr c r))), []⟩) := by
 refine Ctr.of (rs := [.tmp 4]) Tok true Tryz.func27 rfl rfl rfl rfl (by simp [ofDL]) (fun w0 kp => ?_)
 simp only [↓sx0, sxE, encs, sevalprocAttr]
 refine CallI.fn (withinB_s c 1 8) (by simp only [sx3, encs, sxR, sevalprocAttr] <;> (try simp) <;> (try rfl)) ?_
 simp only [↓sx0, sxE, encs, sevalprocAttr]
 refine BrW.dec (fun h => ?_) (fun h => ?_)
 ·simp only [↓sx0, sxE, encs, sevalprocAttr]
  refine CallI.fn (withinB_s r 1 8) (by simp only [sx3, encs, sxR, sevalprocAttr] <;> (try simp) <;> (try rfl)) ?_
  simp only [↓sx0, sxE, encs, sevalprocAttr]
  refine BrW.dec (fun h' => ?_) (fun h' => ?_)
  ·have b1 : c * r ≤ 8 * 8 := Int.mul_le_mul h.2 h'.2 (by omega) (by omega)
   have b2 : 0 ≤ c * r := Int.mul_nonneg (by omega) (by omega)
   simp only [↓sx0, sxE, encs, sevalprocAttr]
   (with_reducible refine Vc.go ?_ fun _ => ?_); focus (first | omega | (simp only [InK]; omega) | (simp [InK]; done) | (simp [InK]; omega))
   simp only [↓sx0, sxE, encs, sevalprocAttr]
   refine BrW.dec (fun g => ?_) (fun g => ?_)
   ·simp only [↓sx0, sxE, encs, sevalprocAttr]
    refine EndW.fn ?_ ?_ <;> simp only [sx4, encs, kpLL_map, sxR, sevalprocAttr] <;> (try simp [sheetErr, h, h', g]) <;> (try omega)
   ·simp only [↓sx0, sxE, encs, sevalprocAttr]
    refine EndW.fn ?_ ?_ <;> simp only [sx4, encs, kpLL_map, sxR, sevalprocAttr] <;> (try simp [sheetErr, h, h', g]) <;> (try omega)
  ·simp only [↓sx0, sxE, encs, sevalprocAttr]
   refine EndW.fn ?_ ?_ <;> simp only [sx4, encs, kpLL_map, sxR, sevalprocAttr] <;> (try simp [sheetErr, h, h']) <;> (try omega)
 ·simp only [↓sx0, sxE, encs, sevalprocAttr]
  refine EndW.fn ?_ ?_ <;> simp only [sx4, encs, kpLL_map, sxR, sevalprocAttr] <;> (try simp [sheetErr, h]) <;> (try omega)
/-- the first place where a test holds; -1: there is none. -/
def ixS {α : Type} (p : α → Bool) (l : List α) : Int := match l.findIdx? p with
 | some i => (i : Int)
 | none => -1
theorem ixS_at {α : Type} {p : α → Bool} {l : List α} {k : Nat} (h : k < l.length) (h1 : ∀ x ∈ l.take k, p x = false) (h2 : p l[k] = true) : ixS p l = k := by
 have : l.findIdx? p = some k := by
  rw [List.findIdx?_eq_some_iff_getElem]
  refine ⟨h, h2, fun j hj => ?_⟩
  have := h1 l[j] (by rw [List.mem_take_iff_getElem]; exact ⟨j, by omega, rfl⟩)
  simp [this]
 simp [ixS, this]
theorem ixS_no {α : Type} {p : α → Bool} {l : List α} (h1 : ∀ x ∈ l, p x = false) : ixS p l = -1 := by
 have : l.findIdx? p = none := by
  rw [List.findIdx?_eq_none_iff]; exact h1
 simp [ixS, this]
theorem ixS_any {α : Type} {p : α → Bool} {l : List α} : decide (0 ≤ ixS p l) = l.any p := by
 unfold ixS
 cases h : l.findIdx? p with
 | none =>
  rw [List.findIdx?_eq_none_iff] at h
  have : l.any p = false := by simpa using h
  rw [this]; rfl
 | some i =>
  rw [List.findIdx?_eq_some_iff_getElem] at h
  obtain ⟨hi, h1, _⟩ := h
  have : l.any p = true := List.any_eq_true.2 ⟨l[i], List.getElem_mem hi, h1⟩
  rw [this]
  simp
end Go.Proofs.YtgiegokdcmkfeaaGreatDoor
/-
 Chapter 6, walks: the document's piles: stacks turned, sheets seen from the other end.
-/
namespace Go.Proofs.YtgiegokdcmkfeaaGreatDoor
open Go Go.Vx
set_option maxRecDepth 20000
/-- a leaf turned so often over, and so often round. -/
def mdl (o r : Int) (x : Leaf) : Leaf := ⟨x.col, x.row, (x.over + o).tmod 2, (x.round + r).tmod 2⟩
theorem tm0 {a : Int} (h : 0 ≤ a ∧ a ≤ 1) : (a + 0).tmod 2 = a := by
 have : (a + 0).tmod 2 = (a + 0) % 2 := Int.tmod_eq_emod_of_nonneg (by omega)
 omega
/-- the first stacks of a stack that is turned. -/
def tkR (o r : Int) (l : List Leaf) (k : Nat) : List Leaf := (l.reverse.take k).map (mdl o r)
/-- the places of a pile that is seen with its columns, or its rows, from the other end. -/
def mirG (mc mr : Bool) (cols rows : Nat) (ls : List (List Leaf)) (c r : Nat) : List Leaf := stkAt ls ((if mr then rows - 1 - r else r) * cols + (if mc then cols - 1 - c else c))
end Go.Proofs.YtgiegokdcmkfeaaGreatDoor
