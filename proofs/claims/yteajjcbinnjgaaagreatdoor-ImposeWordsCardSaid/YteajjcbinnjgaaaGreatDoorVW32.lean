/-
 Chapter 6, walks: the document's piles folded left, and up.
-/
import Derived.Test.YteajjcbinnjgaaaGreatDoorVW31
import Derived.Test.YteajjcbinnjgaaaGreatDoorVP6Turns
namespace Go.Proofs.YteajjcbinnjgaaaGreatDoor
open Go Go.Vx
set_option linter.unusedSimpArgs false
set_option maxRecDepth 20000
theorem turnOver_s (b : Bool) (l : List Leaf) (hf : Fine l) (hl : l.length ≤ 1000000) : Ctr Tryz.prog 107 [.sl b 4 (l.map eL), (.v (.int .i64 1)), (.v (.int .i64 0))] (fun rr => rr = ⟨.row 0, [.own 116 4 ((l.reverse.map (flip false)).map eL)]⟩) := by
 have := turnedO_s b 1 0 l (.inr rfl) (.inl rfl) hf hl
 rwa [mdl_over (fine_rev hf)] at this
theorem turnBoth_s (b : Bool) (l : List Leaf) (hf : Fine l) (hl : l.length ≤ 1000000) : Ctr Tryz.prog 107 [.sl b 4 (l.map eL), (.v (.int .i64 1)), (.v (.int .i64 1))] (fun rr => rr = ⟨.row 0, [.own 116 4 ((l.reverse.map (flip true)).map eL)]⟩) := by
 have := turnedO_s b 1 1 l (.inr rfl) (.inr rfl) hf hl
 rwa [mdl_both (fine_rev hf)] at this
theorem turnOverF_s (b : Bool) (l : List Leaf) (hf : Fine l) (hl : l.length ≤ 1000000) : Ctr Tryz.prog 107 [.sl b 4 (l.map eL), (.v (.int .i64 1)), (.v (.int .i64 0))] (fun rr => rr = ⟨.sl true 4 ((l.reverse.map (flip false)).map eL), []⟩) := by
 have := turnedF_s b 1 0 l (.inr rfl) (.inl rfl) hf hl
 rwa [mdl_over (fine_rev hf)] at this
theorem turnRound_s (b : Bool) (l : List Leaf) (hf : Fine l) (hl : l.length ≤ 1000000) : Ctr Tryz.prog 107 [.sl b 4 (l.map eL), (.v (.int .i64 0)), (.v (.int .i64 1))] (fun rr => rr = ⟨.sl true 4 ((l.reverse.map rnd1).map eL), []⟩) := by
 have := turnedF_s b 0 1 l (.inl rfl) (.inr rfl) hf hl
 rwa [mdl_round (fine_rev hf)] at this
theorem turnNone_s (b : Bool) (l : List Leaf) (hf : Fine l) (hl : l.length ≤ 1000000) : Ctr Tryz.prog 107 [.sl b 4 (l.map eL), (.v (.int .i64 0)), (.v (.int .i64 0))] (fun rr => rr = ⟨.sl true 4 (l.reverse.map eL), []⟩) := by
 have := turnedF_s b 0 0 l (.inl rfl) (.inl rfl) hf hl
 rwa [mdl_none (fine_rev hf)] at this
theorem laidLeft_no {cn rn first : Nat} {ls : List (List Leaf)} {k q : Nat} (h : ¬ 2 * first - 1 - k < cn) : laidAt cn rn first false false ls k q = stkAt ls (q * cn + k) := by
 simp only [laidAt, getAt, Bool.false_eq_true, if_false, if_true, h]
theorem laidLeft_yes {cn rn first : Nat} {ls : List (List Leaf)} {k q : Nat} (h : 2 * first - 1 - k < cn) : laidAt cn rn first false false ls k q = (stkAt ls (q * cn + (2 * first - 1 - k))).reverse.map (flip false) ++ stkAt ls (q * cn + k) := by
 simp only [laidAt, getAt, Bool.false_eq_true, if_false, if_true, h]
set_option maxHeartbeats 1000000 in
theorem foldLeft_s (b : Bool) (cn rn first : Nat) (count : Int) (ls : List (List Leaf)) (hf : FineP ls) (hn : ls.length = rn * cn) (hc : cn ≤ 1000) (hr : rn ≤ 1000) (hcnt : (cn : Int) - count = first) (hfi : first ≤ cn) : Ctr Tryz.prog 83 [.agg [(.v (.int .i64 cn)), (.v (.int .i64 rn)), .sl b 1 (ls.map eK)], (.v (.int .i64 count))] (fun rr => rr = ⟨.agg [(.v (.int .i64 first)), (.v (.int .i64 rn)), .sl true 1 ((laidG cn rn first false false ls).map eK)], []⟩) := by
 have hsz : rn * cn ≤ 1000 * 1000 := Nat.mul_le_mul hr hc
 have hG : laidG cn rn first false false ls = grid first rn (fun c r => laidAt cn rn first false false ls c r) := by simp only [laidG, Bool.false_eq_true, if_false, if_true]
 rw [hG]
 refine Ctr.of (rs := [.cell 4 81]) Tok true Tryz.func83 rfl rfl rfl rfl (by simp [ofDL]) (fun w0 kp => ?_)
 simp only [↓sx0, sxE, encs, sevalprocAttr]
 (with_reducible refine Vc.go ?_ fun _ => ?_); focus (first | omega | (simp only [InK]; omega) | (simp [InK]; done) | (simp [InK]; omega))
 simp only [↓sx0, sxE, encs, sevalprocAttr]
 rw [hcnt]
 refine LoopW.comp [2, 4, 5, 6, 7] (by simp only [sx2, encs, sxR, sevalprocAttr] <;> (try simp) <;> (try omega)) ?_
 simp only [sx2, sxR, sevalprocAttr]
 refine LoopW.up Tok (fun q : Nat => [(7, (.v (.int .i64 q)))]) (fun q => [(2, [(.v (.int .i64 first)), (.v (.int .i64 rn)), .row 0])]) (fun q => []) (fun q => [.own 144 1 ((grid first q (fun c r => laidAt cn rn first false false ls c r)).map eK)]) (fun q => q ≤ rn) (fun q => rn - q) (0) (by simp only [sx2, encs, sxR, sevalprocAttr] <;> (try simp) <;> (try omega)) ?_ ?_
 ·omega
 rintro q hq1
 simp only [↓sx0, sxE, encs, sevalprocAttr]
 refine BrW.dec (fun hlt => ?_) (fun hlt => ?_)
 ·simp only [↓sx0, sxE, encs, sevalprocAttr]
  have hq2 : q < rn := by omega
  refine LoopW.comp [2, 4, 5, 6, 7, 8] (by simp only [sx2, encs, sxR, sevalprocAttr] <;> (try simp) <;> (try omega)) ?_
  simp only [sx2, sxR, sevalprocAttr]
  refine LoopW.up Tok (fun k : Nat => [(8, (.v (.int .i64 k)))]) (fun k => []) (fun k => [(0, ((grid first q (fun c r => laidAt cn rn first false false ls c r)) ++ gridRow k (fun c r => laidAt cn rn first false false ls c r) q).map eK)]) (fun k => []) (fun k => k ≤ first) (fun k => first - k) (0) (by simp only [sx2, encs, sxR, sevalprocAttr] <;> (try simp) <;> (try omega)) ?_ ?_
  ·omega
  rintro k hk1
  simp only [↓sx0, sxE, encs, sevalprocAttr]
  refine BrW.dec (fun hlt2 => ?_) (fun hlt2 => ?_)
  ·have hk2 : k < cn := by omega
   have hqk := cell_lt hq2 hk2
   have hqk2 := cell_lt (rows := rn) (cols := first) (show q < rn by omega) (show k < first by omega)
   have hsz2 : rn * first ≤ 1000 * 1000 := Nat.mul_le_mul (by omega) (by omega)
   have i1 := stkAt_get (ls := ls) (i := q * cn + k) (by omega)
   obtain ⟨f1, f2⟩ := stkAt_fine hf (q * cn + k)
   simp only [↓sx0, sxE, encs, sevalprocAttr]
   repeat ((with_reducible refine Vc.go ?_ fun _ => ?_); (focus (first | omega | (simp only [InK]; omega) | (simp [InK]; done) | (simp [InK]; omega))); simp only [↓sx0, sxE, encs, sevalprocAttr])
   refine IxW.map _ (by omega) (by rw [show ((q : Int) * cn + k).toNat = q * cn + k by push_cast; omega]; exact i1) ?_
   simp only [↓sx0, sxE, encs, sevalprocAttr]
   repeat ((with_reducible refine Vc.go ?_ fun _ => ?_); (focus (first | omega | (simp only [InK]; omega) | (simp [InK]; done) | (simp [InK]; omega))); simp only [↓sx0, sxE, encs, sevalprocAttr])
   refine BrW.dec (fun hfr => ?_) (fun hfr => ?_)
   ·have hfr2 : 2 * first - 1 - k < cn := by omega
    have hto : (q * cn + (2 * first - 1 - k)) < rn * cn := cell_lt hq2 hfr2
    have i2 := stkAt_get (ls := ls) (i := (q * cn + (2 * first - 1 - k))) (by omega)
    obtain ⟨f3, f4⟩ := stkAt_fine hf (q * cn + (2 * first - 1 - k))
    have hla := laidLeft_yes (rn := rn) (ls := ls) (cn := cn) (first := first) (k := k) (q := q) hfr2
    have e1 : (2 * (first : Int) - 1 - k) = ((2 * first - 1 - k : Nat) : Int) := by omega
    rw [e1]
    simp only [↓sx0, sxE, encs, sevalprocAttr]
    repeat ((with_reducible refine Vc.go ?_ fun _ => ?_); (focus (first | omega | (simp only [InK]; omega) | (simp [InK]; done) | (simp [InK]; omega))); simp only [↓sx0, sxE, encs, sevalprocAttr])
    refine IxW.map _ (by omega) (by rw [show ((q : Int) * cn + ((2 * first - 1 - k : Nat) : Int)).toNat = (q * cn + (2 * first - 1 - k)) by push_cast; omega]; exact i2) ?_
    simp only [↓sx0, sxE, encs, sevalprocAttr]
    refine CallI.ctr (turnOver_s true (stkAt ls (q * cn + (2 * first - 1 - k))) f3 (by omega)) (by simp only [sx3, encs, sxR, sevalprocAttr] <;> (try simp) <;> (try rfl)) ?_
    rintro _ rfl
    simp only [↓sx0, sxE, encs, sevalprocAttr]
    repeat ((with_reducible refine Vc.go ?_ fun _ => ?_); (focus (first | omega | (simp only [InK]; omega) | (simp [InK]; done) | (simp [InK]; omega))); simp only [↓sx0, sxE, encs, sevalprocAttr])
    (with_reducible refine Vc.go ?_ fun hvx => ?_); focus (simp only [grid_length, gridRow_length, InK]; omega)
    clear hvx
    simp only [↓sx0, sxE, encs, sevalprocAttr]
    repeat ((with_reducible refine Vc.go ?_ fun _ => ?_); (focus (first | omega | (simp only [InK]; omega) | (simp [InK]; done) | (simp [InK]; omega))); simp only [↓sx0, sxE, encs, sevalprocAttr])
    refine ⟨k + 1, StLe.auto (by simp only [sx2, encs, sxR, sevalprocAttr] <;> (try simp [gridRow_succ, hla, encs]) <;> (try omega)), ?_, ?_⟩
    ·omega
    ·omega
   ·have hfr2 : ¬ 2 * first - 1 - k < cn := by omega
    have hla := laidLeft_no (rn := rn) (ls := ls) (cn := cn) (first := first) (k := k) (q := q) hfr2
    simp only [↓sx0, sxE, encs, sevalprocAttr]
    repeat ((with_reducible refine Vc.go ?_ fun _ => ?_); (focus (first | omega | (simp only [InK]; omega) | (simp [InK]; done) | (simp [InK]; omega))); simp only [↓sx0, sxE, encs, sevalprocAttr])
    (with_reducible refine Vc.go ?_ fun hvx => ?_); focus (simp only [grid_length, gridRow_length, InK]; omega)
    clear hvx
    simp only [↓sx0, sxE, encs, sevalprocAttr]
    repeat ((with_reducible refine Vc.go ?_ fun _ => ?_); (focus (first | omega | (simp only [InK]; omega) | (simp [InK]; done) | (simp [InK]; omega))); simp only [↓sx0, sxE, encs, sevalprocAttr])
    refine ⟨k + 1, StLe.auto (by simp only [sx2, encs, sxR, sevalprocAttr] <;> (try simp [gridRow_succ, hla, encs]) <;> (try omega)), ?_, ?_⟩
    ·omega
    ·omega
  ·simp only [↓sx0, sxE, encs, sevalprocAttr]
   have : k = first := by omega
   subst this
   (with_reducible refine Vc.go ?_ fun _ => ?_); focus (first | omega | (simp only [InK]; omega) | (simp [InK]; done) | (simp [InK]; omega))
   simp only [↓sx0, sxE, encs, sevalprocAttr]
   refine ⟨q + 1, StLe.auto (by simp only [sx2, encs, sxR, sevalprocAttr] <;> (try simp [grid_succ, encs]) <;> (try omega)), ?_, ?_⟩
   ·omega
   ·omega
 ·simp only [↓sx0, sxE, encs, sevalprocAttr]
  have : q = rn := by omega
  subst this
  refine EndW.fn ?_ ?_ <;> simp only [sx4, encs, kpLL_map, sxR, sevalprocAttr] <;> (try simp) <;> (try omega)
theorem laidUp_no {cn rn first : Nat} {ls : List (List Leaf)} {k q : Nat} (h : ¬ 2 * first - 1 - q < rn) : laidAt cn rn first true false ls q k = stkAt ls (q * cn + k) := by
 simp only [laidAt, getAt, Bool.false_eq_true, if_false, if_true, h]
theorem laidUp_yes {cn rn first : Nat} {ls : List (List Leaf)} {k q : Nat} (h : 2 * first - 1 - q < rn) : laidAt cn rn first true false ls q k = (stkAt ls ((2 * first - 1 - q) * cn + k)).reverse.map (flip true) ++ stkAt ls (q * cn + k) := by
 simp only [laidAt, getAt, Bool.false_eq_true, if_false, if_true, h]
set_option maxHeartbeats 1000000 in
theorem foldUp_s (b : Bool) (cn rn first : Nat) (count : Int) (ls : List (List Leaf)) (hf : FineP ls) (hn : ls.length = rn * cn) (hc : cn ≤ 1000) (hr : rn ≤ 1000) (hcnt : (rn : Int) - count = first) (hfi : first ≤ rn) : Ctr Tryz.prog 85 [.agg [(.v (.int .i64 cn)), (.v (.int .i64 rn)), .sl b 1 (ls.map eK)], (.v (.int .i64 count))] (fun rr => rr = ⟨.agg [(.v (.int .i64 cn)), (.v (.int .i64 first)), .sl true 1 ((laidG cn rn first true false ls).map eK)], []⟩) := by
 have hsz : rn * cn ≤ 1000 * 1000 := Nat.mul_le_mul hr hc
 have hG : laidG cn rn first true false ls = grid cn first (fun c r => laidAt cn rn first true false ls r c) := by simp only [laidG, Bool.false_eq_true, if_false, if_true]
 rw [hG]
 refine Ctr.of (rs := [.cell 4 81]) Tok true Tryz.func85 rfl rfl rfl rfl (by simp [ofDL]) (fun w0 kp => ?_)
 simp only [↓sx0, sxE, encs, sevalprocAttr]
 (with_reducible refine Vc.go ?_ fun _ => ?_); focus (first | omega | (simp only [InK]; omega) | (simp [InK]; done) | (simp [InK]; omega))
 simp only [↓sx0, sxE, encs, sevalprocAttr]
 rw [hcnt]
 refine LoopW.comp [2, 4, 5, 6, 7] (by simp only [sx2, encs, sxR, sevalprocAttr] <;> (try simp) <;> (try omega)) ?_
 simp only [sx2, sxR, sevalprocAttr]
 refine LoopW.up Tok (fun q : Nat => [(7, (.v (.int .i64 q)))]) (fun q => [(2, [(.v (.int .i64 cn)), (.v (.int .i64 first)), .row 0])]) (fun q => []) (fun q => [.own 144 1 ((grid cn q (fun c r => laidAt cn rn first true false ls r c)).map eK)]) (fun q => q ≤ first) (fun q => first - q) (0) (by simp only [sx2, encs, sxR, sevalprocAttr] <;> (try simp) <;> (try omega)) ?_ ?_
 ·omega
 rintro q hq1
 simp only [↓sx0, sxE, encs, sevalprocAttr]
 refine BrW.dec (fun hlt => ?_) (fun hlt => ?_)
 ·simp only [↓sx0, sxE, encs, sevalprocAttr]
  have hq2 : q < rn := by omega
  refine LoopW.comp [2, 4, 5, 6, 7, 8] (by simp only [sx2, encs, sxR, sevalprocAttr] <;> (try simp) <;> (try omega)) ?_
  simp only [sx2, sxR, sevalprocAttr]
  refine LoopW.up Tok (fun k : Nat => [(8, (.v (.int .i64 k)))]) (fun k => []) (fun k => [(0, ((grid cn q (fun c r => laidAt cn rn first true false ls r c)) ++ gridRow k (fun c r => laidAt cn rn first true false ls r c) q).map eK)]) (fun k => []) (fun k => k ≤ cn) (fun k => cn - k) (0) (by simp only [sx2, encs, sxR, sevalprocAttr] <;> (try simp) <;> (try omega)) ?_ ?_
  ·omega
  rintro k hk1
  simp only [↓sx0, sxE, encs, sevalprocAttr]
  refine BrW.dec (fun hlt2 => ?_) (fun hlt2 => ?_)
  ·have hk2 : k < cn := by omega
   have hqk := cell_lt hq2 hk2
   have hqk2 := cell_lt (rows := first) (cols := cn) (show q < first by omega) (show k < cn by omega)
   have hsz2 : first * cn ≤ 1000 * 1000 := Nat.mul_le_mul (by omega) (by omega)
   have i1 := stkAt_get (ls := ls) (i := q * cn + k) (by omega)
   obtain ⟨f1, f2⟩ := stkAt_fine hf (q * cn + k)
   simp only [↓sx0, sxE, encs, sevalprocAttr]
   repeat ((with_reducible refine Vc.go ?_ fun _ => ?_); (focus (first | omega | (simp only [InK]; omega) | (simp [InK]; done) | (simp [InK]; omega))); simp only [↓sx0, sxE, encs, sevalprocAttr])
   refine IxW.map _ (by omega) (by rw [show ((q : Int) * cn + k).toNat = q * cn + k by push_cast; omega]; exact i1) ?_
   simp only [↓sx0, sxE, encs, sevalprocAttr]
   repeat ((with_reducible refine Vc.go ?_ fun _ => ?_); (focus (first | omega | (simp only [InK]; omega) | (simp [InK]; done) | (simp [InK]; omega))); simp only [↓sx0, sxE, encs, sevalprocAttr])
   refine BrW.dec (fun hfr => ?_) (fun hfr => ?_)
   ·have hfr2 : 2 * first - 1 - q < rn := by omega
    have hto : ((2 * first - 1 - q) * cn + k) < rn * cn := cell_lt hfr2 hk2
    have i2 := stkAt_get (ls := ls) (i := ((2 * first - 1 - q) * cn + k)) (by omega)
    obtain ⟨f3, f4⟩ := stkAt_fine hf ((2 * first - 1 - q) * cn + k)
    have hla := laidUp_yes (rn := rn) (ls := ls) (cn := cn) (first := first) (k := k) (q := q) hfr2
    have e1 : (2 * (first : Int) - 1 - q) = ((2 * first - 1 - q : Nat) : Int) := by omega
    rw [e1]
    simp only [↓sx0, sxE, encs, sevalprocAttr]
    repeat ((with_reducible refine Vc.go ?_ fun _ => ?_); (focus (first | omega | (simp only [InK]; omega) | (simp [InK]; done) | (simp [InK]; omega))); simp only [↓sx0, sxE, encs, sevalprocAttr])
    refine IxW.map _ (by omega) (by rw [show (((2 * first - 1 - q : Nat) : Int) * cn + k).toNat = ((2 * first - 1 - q) * cn + k) by push_cast; omega]; exact i2) ?_
    simp only [↓sx0, sxE, encs, sevalprocAttr]
    refine CallI.ctr (turnBoth_s true (stkAt ls ((2 * first - 1 - q) * cn + k)) f3 (by omega)) (by simp only [sx3, encs, sxR, sevalprocAttr] <;> (try simp) <;> (try rfl)) ?_
    rintro _ rfl
    simp only [↓sx0, sxE, encs, sevalprocAttr]
    repeat ((with_reducible refine Vc.go ?_ fun _ => ?_); (focus (first | omega | (simp only [InK]; omega) | (simp [InK]; done) | (simp [InK]; omega))); simp only [↓sx0, sxE, encs, sevalprocAttr])
    (with_reducible refine Vc.go ?_ fun hvx => ?_); focus (simp only [grid_length, gridRow_length, InK]; omega)
    clear hvx
    simp only [↓sx0, sxE, encs, sevalprocAttr]
    repeat ((with_reducible refine Vc.go ?_ fun _ => ?_); (focus (first | omega | (simp only [InK]; omega) | (simp [InK]; done) | (simp [InK]; omega))); simp only [↓sx0, sxE, encs, sevalprocAttr])
    refine ⟨k + 1, StLe.auto (by simp only [sx2, encs, sxR, sevalprocAttr] <;> (try simp [gridRow_succ, hla, encs]) <;> (try omega)), ?_, ?_⟩
    ·omega
    ·omega
   ·have hfr2 : ¬ 2 * first - 1 - q < rn := by omega
    have hla := laidUp_no (rn := rn) (ls := ls) (cn := cn) (first := first) (k := k) (q := q) hfr2
    simp only [↓sx0, sxE, encs, sevalprocAttr]
    repeat ((with_reducible refine Vc.go ?_ fun _ => ?_); (focus (first | omega | (simp only [InK]; omega) | (simp [InK]; done) | (simp [InK]; omega))); simp only [↓sx0, sxE, encs, sevalprocAttr])
    (with_reducible refine Vc.go ?_ fun hvx => ?_); focus (simp only [grid_length, gridRow_length, InK]; omega)
    clear hvx
    simp only [↓sx0, sxE, encs, sevalprocAttr]
    repeat ((with_reducible refine Vc.go ?_ fun _ => ?_); (focus (first | omega | (simp only [InK]; omega) | (simp [InK]; done) | (simp [InK]; omega))); simp only [↓sx0, sxE, encs, sevalprocAttr])
    refine ⟨k + 1, StLe.auto (by simp only [sx2, encs, sxR, sevalprocAttr] <;> (try simp [gridRow_succ, hla, encs]) <;> (try omega)), ?_, ?_⟩
    ·omega
    ·omega
  ·simp only [↓sx0, sxE, encs, sevalprocAttr]
   have : k = cn := by omega
   subst this
   (with_reducible refine Vc.go ?_ fun _ => ?_); focus (first | omega | (simp only [InK]; omega) | (simp [InK]; done) | (simp [InK]; omega))
   simp only [↓sx0, sxE, encs, sevalprocAttr]
   refine ⟨q + 1, StLe.auto (by simp only [sx2, encs, sxR, sevalprocAttr] <;> (try simp [grid_succ, encs]) <;> (try omega)), ?_, ?_⟩
   ·omega
   ·omega
 ·simp only [↓sx0, sxE, encs, sevalprocAttr]
  have : q = first := by omega
  subst this
  refine EndW.fn ?_ ?_ <;> simp only [sx4, encs, kpLL_map, sxR, sevalprocAttr] <;> (try simp) <;> (try omega)
/-- places turned one by one. -/
def ovT (T : List Leaf → List Leaf) (M : List (List Leaf)) (k : Nat) : List (List Leaf) := (M.take k).map T ++ M.drop k
theorem ovT_zero (T : List Leaf → List Leaf) (M : List (List Leaf)) : ovT T M 0 = M := by simp [ovT]
theorem ovT_end (T : List Leaf → List Leaf) (M : List (List Leaf)) : ovT T M M.length = M.map T := by simp [ovT]
theorem ovT_len {T : List Leaf → List Leaf} {M : List (List Leaf)} {k : Nat} (h : k ≤ M.length) : (ovT T M k).length = M.length := by simp [ovT]; omega
theorem ovT_get {T : List Leaf → List Leaf} {M : List (List Leaf)} {k : Nat} (h : k < M.length) : (ovT T M k)[k]? = some M[k] := by
 unfold ovT
 rw [List.getElem?_append_right (by simp; omega), List.getElem?_drop]
 simp only [List.length_map, List.length_take, show k + (k - min k M.length) = k by omega]
 exact List.getElem?_eq_getElem h
theorem ovT_set {T : List Leaf → List Leaf} {M : List (List Leaf)} {k : Nat} (h : k < M.length) : (ovT T M k).set k (T M[k]) = ovT T M (k + 1) := by
 unfold ovT
 rw [List.set_append_right _ _ (by simp; omega), List.take_succ_eq_append_getElem h, List.map_append, List.append_assoc, List.drop_eq_getElem_cons h]
 simp only [List.length_map, List.length_take, show k - min k M.length = 0 by omega, List.set_cons_zero, List.map_cons, List.map_nil, List.cons_append, List.nil_append]
theorem fineP_mir {mc mr : Bool} {cn rn : Nat} {ls : List (List Leaf)} (h : FineP ls) : FineP (grid cn rn (mirG mc mr cn rn ls)) := fun l hl => by
 obtain ⟨c, r, _, _, rfl⟩ := mem_grid hl
 exact stkAt_fine h _
theorem grid_mapT {α β : Type} (h : α → β) (cols rows : Nat) (f : Nat → Nat → α) : (grid cols rows f).map h = grid cols rows fun c r => h (f c r) := by
 unfold grid gridRow
 rw [List.map_flatMap]
 congr 1
 funext r
 rw [List.map_map]
 rfl
theorem overR_s (b : Bool) (cn rn : Nat) (ls : List (List Leaf)) (hf : FineP ls) (hn : ls.length = rn * cn) (hc : cn ≤ 1000) (hr : rn ≤ 1000) : Ctr Tryz.prog 86 [.agg [(.v (.int .i64 cn)), (.v (.int .i64 rn)), .sl b 1 (ls.map eK)]] (fun rr => rr = ⟨.agg [(.v (.int .i64 cn)), (.v (.int .i64 rn)), .sl true 1 ((overG cn rn ls).map eK)], []⟩) := by
 have hsz : rn * cn ≤ 1000 * 1000 := Nat.mul_le_mul hr hc
 have hM : (grid cn rn (mirG true false cn rn ls)).map (fun l : List Leaf => l.reverse.map (flip false)) = overG cn rn ls := grid_mapT (fun l : List Leaf => l.reverse.map (flip false)) cn rn _
 have hfm : FineP (grid cn rn (mirG true false cn rn ls)) := fineP_mir hf
 have hml : (grid cn rn (mirG true false cn rn ls)).length = rn * cn := grid_length _ _ _
 rw [← hM]
 refine Ctr.of (rs := [.cell 2 81]) Tok true Tryz.func86 rfl rfl rfl rfl (by simp [ofDL]) (fun w0 kp => ?_)
 simp only [↓sx0, sxE, encs, sevalprocAttr]
 refine CallI.ctr (mirroredC_s b cn rn ls hn hc hr) (by simp only [sx3, encs, sxR, sevalprocAttr] <;> (try simp) <;> (try rfl)) ?_
 rintro _ rfl
 simp only [↓sx0, sxE, encs, sevalprocAttr]
 generalize (grid cn rn (mirG true false cn rn ls)) = M at *
 clear hM
 refine LoopW.comp [2, 3, 4] (by simp only [sx2, encs, sxR, sevalprocAttr] <;> (try simp) <;> (try omega)) ?_
 simp only [sx2, sxR, sevalprocAttr]
 refine LoopW.up Tok (fun k : Nat => [(4, (.v (.int .i64 k)))]) (fun k => []) (fun k => [(0, (ovT (fun l : List Leaf => l.reverse.map (flip false)) M k).map eK)]) (fun k => []) (fun k => k ≤ M.length) (fun k => M.length - k) (0) (by simp only [sx2, encs, sxR, sevalprocAttr] <;> (try simp [ovT_zero, encs]) <;> (try omega)) ?_ ?_
 ·omega
 rintro k hk
 have hol := ovT_len (T := (fun l : List Leaf => l.reverse.map (flip false))) hk
 simp only [↓sx0, sxE, encs, sevalprocAttr]
 refine BrW.dec (fun hlt => ?_) (fun hlt => ?_)
 ·have hk2 : k < M.length := by omega
  have hg := ovT_get (T := (fun l : List Leaf => l.reverse.map (flip false))) hk2
  obtain ⟨f1, f2⟩ := hfm _ (List.getElem_mem hk2)
  have hst : ((ovT (fun l : List Leaf => l.reverse.map (flip false)) M k).map eK).modify ((k : Int)).toNat (modE · 0 [D.sl true 4 ((M[k].reverse.map (flip false)).map eL)]) = (ovT (fun l : List Leaf => l.reverse.map (flip false)) M (k + 1)).map eK := by
   rw [Int.toNat_natCast, ← ovT_set hk2]; exact modify_map hg (M[k].reverse.map (flip false)) rfl
  simp only [↓sx0, sxE, encs, sevalprocAttr]
  refine DrawW.plan Tok mixed (.q 0 <| .q 1 <| .q 2 <| .q 3 <| .q 4 <| .q 5 <| .q 6 <| .q 7 <| .e 8 [1] <| .q 9 <| .e 10 [] <| .done) (by kernel_rfl) (by kernel_rfl) ?_
  simp only [↓sx0, sxE, encs, sevalprocAttr]
  repeat ((with_reducible refine Vc.go ?_ fun _ => ?_); (focus (first | omega | (simp only [InK]; omega) | (simp [hol, InK]; done) | (simp [hol, InK]; omega))); simp only [↓sx0, sxE, encs, sevalprocAttr])
  refine IxW.map M[k] (by omega) (by simpa using hg) ?_
  simp only [↓sx0, sxE, encs, sevalprocAttr]
  refine CallI.fn (turnOverF_s true M[k] f1 (by omega)) (by simp only [sx3, encs, sxR, sevalprocAttr] <;> (try simp) <;> (try rfl)) ?_
  simp only [↓sx0, sxE, encs, sevalprocAttr]
  repeat ((with_reducible refine Vc.go ?_ fun _ => ?_); (focus (first | omega | (simp only [InK]; omega) | (simp [hol, InK]; done) | (simp [hol, InK]; omega))); simp only [↓sx0, sxE, encs, sevalprocAttr])
  rw [hst]
  refine ⟨k + 1, StLe.auto (by simp only [sx2, encs, sxR, sevalprocAttr] <;> (try simp) <;> (try omega)), ?_, ?_⟩
  ·omega
  ·omega
 ·simp only [↓sx0, sxE, encs, sevalprocAttr]
  have : k = M.length := by omega
  subst this
  rw [ovT_end]
  refine EndW.fn ?_ ?_ <;> simp only [sx4, encs, kpLL_map, sxR, sevalprocAttr] <;> (try simp) <;> (try omega)
theorem roundR_s (b : Bool) (cn rn : Nat) (ls : List (List Leaf)) (hf : FineP ls) (hn : ls.length = rn * cn) (hc : cn ≤ 1000) (hr : rn ≤ 1000) : Ctr Tryz.prog 87 [.agg [(.v (.int .i64 cn)), (.v (.int .i64 rn)), .sl b 1 (ls.map eK)]] (fun rr => rr = ⟨.agg [(.v (.int .i64 cn)), (.v (.int .i64 rn)), .sl true 1 ((roundG cn rn ls).map eK)], []⟩) := by
 have hsz : rn * cn ≤ 1000 * 1000 := Nat.mul_le_mul hr hc
 have hM : (grid cn rn (mirG true true cn rn ls)).map (fun l : List Leaf => l.map rnd1) = roundG cn rn ls := grid_mapT (fun l : List Leaf => l.map rnd1) cn rn _
 have hfm : FineP (grid cn rn (mirG true true cn rn ls)) := fineP_mir hf
 have hml : (grid cn rn (mirG true true cn rn ls)).length = rn * cn := grid_length _ _ _
 rw [← hM]
 refine Ctr.of (rs := [.cell 2 81]) Tok true Tryz.func87 rfl rfl rfl rfl (by simp [ofDL]) (fun w0 kp => ?_)
 simp only [↓sx0, sxE, encs, sevalprocAttr]
 refine CallI.ctr (mirroredCR_s b cn rn ls hn hc hr) (by simp only [sx3, encs, sxR, sevalprocAttr] <;> (try simp) <;> (try rfl)) ?_
 rintro _ rfl
 simp only [↓sx0, sxE, encs, sevalprocAttr]
 generalize (grid cn rn (mirG true true cn rn ls)) = M at *
 clear hM
 refine LoopW.comp [2, 3, 4] (by simp only [sx2, encs, sxR, sevalprocAttr] <;> (try simp) <;> (try omega)) ?_
 simp only [sx2, sxR, sevalprocAttr]
 refine LoopW.up Tok (fun k : Nat => [(4, (.v (.int .i64 k)))]) (fun k => []) (fun k => [(0, (ovT (fun l : List Leaf => l.map rnd1) M k).map eK)]) (fun k => []) (fun k => k ≤ M.length) (fun k => M.length - k) (0) (by simp only [sx2, encs, sxR, sevalprocAttr] <;> (try simp [ovT_zero, encs]) <;> (try omega)) ?_ ?_
 ·omega
 rintro k hk
 have hol := ovT_len (T := (fun l : List Leaf => l.map rnd1)) hk
 simp only [↓sx0, sxE, encs, sevalprocAttr]
 refine BrW.dec (fun hlt => ?_) (fun hlt => ?_)
 ·have hk2 : k < M.length := by omega
  have hg := ovT_get (T := (fun l : List Leaf => l.map rnd1)) hk2
  obtain ⟨f1, f2⟩ := hfm _ (List.getElem_mem hk2)
  have hst : ((ovT (fun l : List Leaf => l.map rnd1) M k).map eK).modify ((k : Int)).toNat (modE · 0 [D.sl true 4 ((M[k].map rnd1).map eL)]) = (ovT (fun l : List Leaf => l.map rnd1) M (k + 1)).map eK := by
   rw [Int.toNat_natCast, ← ovT_set hk2]; exact modify_map hg (M[k].map rnd1) rfl
  simp only [↓sx0, sxE, encs, sevalprocAttr]
  refine DrawW.plan Tok mixed (.q 0 <| .q 1 <| .q 2 <| .q 3 <| .q 4 <| .q 5 <| .q 6 <| .q 7 <| .e 8 [1] <| .e 9 [1] <| .q 10 <| .e 11 [] <| .done) (by kernel_rfl) (by kernel_rfl) ?_
  simp only [↓sx0, sxE, encs, sevalprocAttr]
  repeat ((with_reducible refine Vc.go ?_ fun _ => ?_); (focus (first | omega | (simp only [InK]; omega) | (simp [hol, InK]; done) | (simp [hol, InK]; omega))); simp only [↓sx0, sxE, encs, sevalprocAttr])
  refine IxW.map M[k] (by omega) (by simpa using hg) ?_
  simp only [↓sx0, sxE, encs, sevalprocAttr]
  refine CallI.fn (turnRound_s true M[k] f1 (by omega)) (by simp only [sx3, encs, sxR, sevalprocAttr] <;> (try simp) <;> (try rfl)) ?_
  simp only [↓sx0, sxE, encs, sevalprocAttr]
  refine CallI.fn (turnNone_s true (M[k].reverse.map rnd1) (fine_rnd (fine_rev f1)) (by simp; omega)) (by simp only [sx3, encs, sxR, sevalprocAttr] <;> (try simp) <;> (try rfl)) ?_
  simp only [↓sx0, sxE, encs, sevalprocAttr]
  rw [show (M[k].reverse.map rnd1).reverse = M[k].map rnd1 by simp]
  repeat ((with_reducible refine Vc.go ?_ fun _ => ?_); (focus (first | omega | (simp only [InK]; omega) | (simp [hol, InK]; done) | (simp [hol, InK]; omega))); simp only [↓sx0, sxE, encs, sevalprocAttr])
  rw [hst]
  refine ⟨k + 1, StLe.auto (by simp only [sx2, encs, sxR, sevalprocAttr] <;> (try simp) <;> (try omega)), ?_, ?_⟩
  ·omega
  ·omega
 ·simp only [↓sx0, sxE, encs, sevalprocAttr]
  have : k = M.length := by omega
  subst this
  rw [ovT_end]
  refine EndW.fn ?_ ?_ <;> simp only [sx4, encs, kpLL_map, sxR, sevalprocAttr] <;> (try simp) <;> (try omega)
end Go.Proofs.YteajjcbinnjgaaaGreatDoor
