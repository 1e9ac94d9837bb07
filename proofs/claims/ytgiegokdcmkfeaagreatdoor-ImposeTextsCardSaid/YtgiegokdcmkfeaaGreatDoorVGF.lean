/-
 Chapter 6, walks: the law of folds.
-/
import Derived.Test.YtgiegokdcmkfeaaGreatDoorVGE
import Derived.Test.YtgiegokdcmkfeaaGreatDoorVP6Each
import Derived.Test.YtgiegokdcmkfeaaGreatDoorVGB
import Derived.Test.YtgiegokdcmkfeaaGreatDoorVGlobI
import Derived.Test.YtgiegokdcmkfeaaGreatDoorVGC
set_option linter.unusedSimpArgs false
set_option linter.unusedVariables false
namespace Go.Proofs.YtgiegokdcmkfeaaGreatDoor
open Go Go.Vx
set_option maxRecDepth 20000
def seenA (c : Int) (s : List Leaf) (k : Nat) : List Int := (s.take k).map (atI c)
end Go.Proofs.YtgiegokdcmkfeaaGreatDoor
/-
 Chapter 6: folds as texts (the reference).
-/
namespace Go.Proofs.YtgiegokdcmkfeaaGreatDoor
open Go Go.Vx
set_option maxRecDepth 20000
/-- the letter of a fold that is counted. -/
def leF (k : Int) : UInt8 := if k = 1 then 76 else if k = 2 then 82 else if k = 3 then 85 else if k = 4 then 68 else 63
def wrF (f : Fold) : List UInt8 := if f.kind = 5 then [79] else if f.kind = 6 then [84] else leF f.kind :: Lib.itoa f.count
/-- the kind of a letter. -/
def kdF (c : UInt8) : Int := if c = 76 then 1 else if c = 82 then 2 else if c = 85 then 3 else if c = 68 then 4 else 0
def rdF (w : List UInt8) : Fold × Bool :=
 if w = [79] then (⟨5, 0⟩, true) else if w = [84] then (⟨6, 0⟩, true) else
 match w with
 | [] => (⟨0, 0⟩, false)
 | c :: r => if r = [] ∨ kdF c = 0 then (⟨0, 0⟩, false) else (⟨kdF c, (numR r 2).1⟩, (numR r 2).2 && decide (0 ≤ (numR r 2).1))
def ltF (k : Nat) : UInt8 := if k = 1 then 76 else if k = 2 then 82 else if k = 3 then 85 else 68
end Go.Proofs.YtgiegokdcmkfeaaGreatDoor
/-
 Chapter 6: folds read (the reference).
-/
namespace Go.Proofs.YtgiegokdcmkfeaaGreatDoor
open Go Go.Vx
set_option maxRecDepth 20000
/-- what ParseFolds answers, by what reads a word. -/
def prsG (rd : List UInt8 → Fold × Bool) (s : List UInt8) : List Fold × Int :=
 if s = [] then ([], 0) else if 12 < (cutL 32 [] s).length then ([], 8) else if (cutL 32 [] s).all (fun w => (rd w).2) = true then ((cutL 32 [] s).map fun w => (rd w).1, 0) else ([], 7)
def rdL (rd : List UInt8 → Fold × Bool) (W : List (List UInt8)) (k : Nat) : List Fold := (W.take k).map fun w => (rd w).1
end Go.Proofs.YtgiegokdcmkfeaaGreatDoor
/-
 Chapter 6: folds read (the program).
-/
namespace Go.Proofs.YtgiegokdcmkfeaaGreatDoor
open Go Go.Vx
set_option maxRecDepth 20000
def ixF (c : UInt8) : Int := Lib.indexByte [63, 76, 82, 85, 68] c
def rdP (w : List UInt8) : Fold × Bool :=
 if w = [79] then (⟨5, 0⟩, true) else if w = [84] then (⟨6, 0⟩, true) else
 match w with
 | [] => (⟨0, 0⟩, false)
 | c :: r => (⟨ixF c, (numP r 2).1⟩, decide (0 < ixF c) && (numP r 2).2 && decide (0 ≤ (numP r 2).1))
end Go.Proofs.YtgiegokdcmkfeaaGreatDoor
/-
 Chapter 6: folds read (the program).
-/
namespace Go.Proofs.YtgiegokdcmkfeaaGreatDoor
open Go Go.Vx
set_option maxRecDepth 20000
end Go.Proofs.YtgiegokdcmkfeaaGreatDoor
/-
 Chapter 6, walks: a cell read, a line of cells read.
-/
namespace Go.Proofs.YtgiegokdcmkfeaaGreatDoor
open Go Go.Vx
set_option maxRecDepth 20000
theorem cutL_mem (c : UInt8) : ∀ (l acc w : List UInt8), w ∈ cutL c acc l → w.length ≤ acc.length + l.length
 | [], acc, w, h => by
  simp only [cutL, List.mem_singleton] at h
  subst h; simp
 | x :: l, acc, w, h => by
  simp only [cutL] at h
  split at h
  ·rcases List.mem_cons.1 h with rfl | h
   ·simp
   ·have := cutL_mem c l [] w h
    simp only [List.length_nil, List.length_cons] at *; omega
  ·have := cutL_mem c l (acc ++ [x]) w h
   simp only [List.length_append, List.length_cons, List.length_nil] at *; omega
theorem splitC_T (s : List UInt8) (c : UInt8) (hs : s.length ≤ 1000000) : CtrK glob Tryz.prog 43 [(.v (.string (bs s))), (.v (.string (⟨#[c]⟩)))] (fun rr => rr = ⟨.row 0, [.own 9 1 ((cutL c [] s).map eT)]⟩) := by
 have h := split_s (bs s) c (by rw [bs_size]; omega)
 have e := split_cut c (bs s)
 rw [bs_toList] at e
 rw [show (cutL c [] s).map eT = (Lib.splitB ⟨#[c]⟩ 0 (Lib.countB (bs s) ⟨#[c]⟩) (bs s)).map fun x => [.v (.string x)] by
  rw [← e, List.map_map]
  exact List.map_congr_left fun x _ => by simp only [Function.comp, eT, bs_data]]
 exact h
def n4P (w : List UInt8) : Int × Bool := numP w 4
def n4R (w : List UInt8) : Int × Bool := numR w 4
def c00 : Cell := ⟨0, 0, 0, 0⟩
/-- a cell's text, read by such a reader of numbers. -/
def celK (num : List UInt8 → Int × Bool) (x : List UInt8) : Cell × Bool :=
 match cutL 47 [] x with
 | [a, b, c, d] => if (num a).2 = true ∧ (num b).2 = true ∧ (num c).2 = true ∧ (num d).2 = true then (⟨(num a).1, (num b).1, (num c).1, (num d).1⟩, true) else (c00, false)
 | _ => (c00, false)
theorem celK_len {num : List UInt8 → Int × Bool} {x : List UInt8} (h : ¬ (cutL 47 [] x).length = 4) : celK num x = (c00, false) := by
 unfold celK
 split
 ·rename_i e; rw [e] at h; exact absurd rfl h
 ·rfl
def cC (c : Cell) : SV := .agg [(.v (.int .i64 c.front)), (.v (.int .i64 c.fturn)), (.v (.int .i64 c.back)), (.v (.int .i64 c.bturn))]
theorem cC_eq : (∀ c, cC c = .agg [(.v (.int .i64 c.front)), (.v (.int .i64 c.fturn)), (.v (.int .i64 c.back)), (.v (.int .i64 c.bturn))]) ∧ c00 = ⟨0, 0, 0, 0⟩ := ⟨fun _ => rfl, rfl⟩
/-- what has been read of the numbers. -/
def arC (a b c d : Int) (k i : Nat) : Int := if i < k then (match i with | 0 => a | 1 => b | 2 => c | _ => d) else 0
set_option maxHeartbeats 16000000 in
theorem cellOf_s (x : List UInt8) (hx : x.length ≤ 100000) : CtrK glob Tryz.prog 81 [(.v (.string (bs x)))] (fun rr => rr = ⟨.tup [cC (celK n4P x).1, (.v (.bool ((celK n4P x).2)))], []⟩) := by
 have hmem := cutL_mem 47 x []
 have encs := And.intro encs (And.intro eT_def cC_eq)
 refine CtrK.of (rs := [.cell 2 63, .tmp 3]) Tok true Tryz.func81 rfl rfl rfl rfl (by simp [ofDL]) (fun w0 kp hgl => ?_)
 simp only [↓sx0, sxE, encs, sevalprocAttr]
 refine CallI.ctrK (splitC_T x 47 (by omega)) glob_ok hgl rfl (by simp only [sx3, encs, sxR, sevalprocAttr] <;> (try simp) <;> (try rfl)) ?_
 rintro _ rfl
 simp only [↓sx0, sxE, encs, sevalprocAttr]
 by_cases h4 : (cutL 47 [] x).length = 4
 ·obtain ⟨a, b, c, d, hw⟩ : ∃ a b c d, cutL 47 [] x = [a, b, c, d] := by
   match hw : cutL 47 [] x, h4 with
   | [a, b, c, d], _ => exact ⟨a, b, c, d, rfl⟩
  have hcel : celK n4P x = if (n4P a).2 = true ∧ (n4P b).2 = true ∧ (n4P c).2 = true ∧ (n4P d).2 = true then (⟨(n4P a).1, (n4P b).1, (n4P c).1, (n4P d).1⟩, true) else (c00, false) := by
   unfold celK; rw [hw]
  have la := hmem a (by rw [hw]; simp); have lb := hmem b (by rw [hw]; simp); have lc := hmem c (by rw [hw]; simp); have ld := hmem d (by rw [hw]; simp)
  simp only [List.length_nil, Nat.zero_add] at la lb lc ld
  rw [hw]
  have key : ∀ w : List UInt8, w.length ≤ x.length → CtrK glob Tryz.prog 39 [(.v (.string (bs w))), (.v (.int .i64 4))] (fun rr => rr = ⟨.tup [(.v (.int .i64 ((n4P w).1))), (.v (.bool ((n4P w).2)))], []⟩) := fun w hw => by
   have h := number_s (bs w) 4 (by rw [bs_size]; omega) (by omega)
   rw [bs_toList] at h
   exact h
  have na := key a la; have nb := key b lb; have nc := key c lc; have nd := key d ld
  refine BrW.no (by simp) ?_
  simp only [↓sx0, sxE, encs, sevalprocAttr]
  generalize hpa : n4P a = pa at hcel na
  generalize hpb : n4P b = pb at hcel nb
  generalize hpc : n4P c = pc at hcel nc
  generalize hpd : n4P d = pd at hcel nd
  refine LoopW.comp [2, 5, 15, 16, 17] (by simp only [sx2, encs, sxR, sevalprocAttr] <;> (try simp) <;> (try omega)) ?_
  simp only [sx2, sxR, sevalprocAttr]
  refine LoopW.up Tok (fun k : Nat => [(17, (.v (.int .i64 ((k : Int)))))]) (fun k => [(1, [(.v (.int .i64 (arC pa.1 pb.1 pc.1 pd.1 k 0))), (.v (.int .i64 (arC pa.1 pb.1 pc.1 pd.1 k 1))), (.v (.int .i64 (arC pa.1 pb.1 pc.1 pd.1 k 2))), (.v (.int .i64 (arC pa.1 pb.1 pc.1 pd.1 k 3)))])]) (fun k => []) (fun k => []) (fun k => k ≤ 4 ∧ (0 < k → pa.2 = true) ∧ (1 < k → pb.2 = true) ∧ (2 < k → pc.2 = true) ∧ (3 < k → pd.2 = true)) (fun k => 4 - k) (0) (by simp only [sx2, encs, sxR, sevalprocAttr] <;> (try simp [arC, encs]) <;> (try omega)) ?_ ?_
  ·exact ⟨by omega, fun h => absurd h (by omega), fun h => absurd h (by omega), fun h => absurd h (by omega), fun h => absurd h (by omega)⟩
  rintro k ⟨hk, ka, kb, kc, kd⟩
  have hk5 : k = 0 ∨ k = 1 ∨ k = 2 ∨ k = 3 ∨ k = 4 := by omega
  rcases hk5 with rfl | rfl | rfl | rfl | rfl
  ·simp only [↓sx0, sxE, encs, sevalprocAttr]
   repeat ((with_reducible refine Vc.go ?_ fun _ => ?_); (focus (first | omega | (simp only [InK]; omega) | (simp [InK]; done) | (simp [InK]; omega))); simp only [↓sx0, sxE, encs, sevalprocAttr])
   refine ⟨by omega, _, rfl, ?_⟩
   simp only [↓sx0, sxE, encs, sevalprocAttr]
   refine CallI.fnK (na) glob_ok hgl rfl (by simp only [sx3, encs, sxR, sevalprocAttr] <;> (try simp) <;> (try rfl)) ?_
   simp only [↓sx0, sxE, encs, sevalprocAttr]
   repeat ((with_reducible refine Vc.go ?_ fun _ => ?_); (focus (first | omega | (simp only [InK]; omega) | (simp [InK]; done) | (simp [InK]; omega))); simp only [↓sx0, sxE, encs, sevalprocAttr])
   refine BrW.of (fun ho => ?_) (fun ho => ?_)
   ·simp only [↓sx0, sxE, encs, sevalprocAttr]
    repeat ((with_reducible refine Vc.go ?_ fun _ => ?_); (focus (first | omega | (simp only [InK]; omega) | (simp [InK]; done) | (simp [InK]; omega))); simp only [↓sx0, sxE, encs, sevalprocAttr])
    refine ⟨1, StLe.auto (by simp only [sx2, encs, sxR, sevalprocAttr] <;> (try simp [arC, encs]) <;> (try omega)), ?_, ?_⟩
    ·exact ⟨by omega, fun _ => ho, fun _ => absurd ‹_› (by omega), fun _ => absurd ‹_› (by omega), fun _ => absurd ‹_› (by omega)⟩
    ·omega
   ·rw [if_neg (by simp [ho])] at hcel
    rw [hcel]
    simp only [↓sx0, sxE, encs, sevalprocAttr]
    refine EndW.fn ?_ ?_ <;> simp only [sx4, encs, kpLL_map, sxR, sevalprocAttr] <;> (try simp) <;> (try omega)
  ·simp only [↓sx0, sxE, encs, sevalprocAttr]
   repeat ((with_reducible refine Vc.go ?_ fun _ => ?_); (focus (first | omega | (simp only [InK]; omega) | (simp [InK]; done) | (simp [InK]; omega))); simp only [↓sx0, sxE, encs, sevalprocAttr])
   refine ⟨by omega, _, rfl, ?_⟩
   simp only [↓sx0, sxE, encs, sevalprocAttr]
   refine CallI.fnK (nb) glob_ok hgl rfl (by simp only [sx3, encs, sxR, sevalprocAttr] <;> (try simp) <;> (try rfl)) ?_
   simp only [↓sx0, sxE, encs, sevalprocAttr]
   repeat ((with_reducible refine Vc.go ?_ fun _ => ?_); (focus (first | omega | (simp only [InK]; omega) | (simp [InK]; done) | (simp [InK]; omega))); simp only [↓sx0, sxE, encs, sevalprocAttr])
   refine BrW.of (fun ho => ?_) (fun ho => ?_)
   ·simp only [↓sx0, sxE, encs, sevalprocAttr]
    repeat ((with_reducible refine Vc.go ?_ fun _ => ?_); (focus (first | omega | (simp only [InK]; omega) | (simp [InK]; done) | (simp [InK]; omega))); simp only [↓sx0, sxE, encs, sevalprocAttr])
    refine ⟨2, StLe.auto (by simp only [sx2, encs, sxR, sevalprocAttr] <;> (try simp [arC, encs]) <;> (try omega)), ?_, ?_⟩
    ·exact ⟨by omega, fun _ => ka (by omega), fun _ => ho, fun _ => absurd ‹_› (by omega), fun _ => absurd ‹_› (by omega)⟩
    ·omega
   ·rw [if_neg (by simp [ho])] at hcel
    rw [hcel]
    simp only [↓sx0, sxE, encs, sevalprocAttr]
    refine EndW.fn ?_ ?_ <;> simp only [sx4, encs, kpLL_map, sxR, sevalprocAttr] <;> (try simp) <;> (try omega)
  ·simp only [↓sx0, sxE, encs, sevalprocAttr]
   repeat ((with_reducible refine Vc.go ?_ fun _ => ?_); (focus (first | omega | (simp only [InK]; omega) | (simp [InK]; done) | (simp [InK]; omega))); simp only [↓sx0, sxE, encs, sevalprocAttr])
   refine ⟨by omega, _, rfl, ?_⟩
   simp only [↓sx0, sxE, encs, sevalprocAttr]
   refine CallI.fnK (nc) glob_ok hgl rfl (by simp only [sx3, encs, sxR, sevalprocAttr] <;> (try simp) <;> (try rfl)) ?_
   simp only [↓sx0, sxE, encs, sevalprocAttr]
   repeat ((with_reducible refine Vc.go ?_ fun _ => ?_); (focus (first | omega | (simp only [InK]; omega) | (simp [InK]; done) | (simp [InK]; omega))); simp only [↓sx0, sxE, encs, sevalprocAttr])
   refine BrW.of (fun ho => ?_) (fun ho => ?_)
   ·simp only [↓sx0, sxE, encs, sevalprocAttr]
    repeat ((with_reducible refine Vc.go ?_ fun _ => ?_); (focus (first | omega | (simp only [InK]; omega) | (simp [InK]; done) | (simp [InK]; omega))); simp only [↓sx0, sxE, encs, sevalprocAttr])
    refine ⟨3, StLe.auto (by simp only [sx2, encs, sxR, sevalprocAttr] <;> (try simp [arC, encs]) <;> (try omega)), ?_, ?_⟩
    ·exact ⟨by omega, fun _ => ka (by omega), fun _ => kb (by omega), fun _ => ho, fun _ => absurd ‹_› (by omega)⟩
    ·omega
   ·rw [if_neg (by simp [ho])] at hcel
    rw [hcel]
    simp only [↓sx0, sxE, encs, sevalprocAttr]
    refine EndW.fn ?_ ?_ <;> simp only [sx4, encs, kpLL_map, sxR, sevalprocAttr] <;> (try simp) <;> (try omega)
  ·simp only [↓sx0, sxE, encs, sevalprocAttr]
   repeat ((with_reducible refine Vc.go ?_ fun _ => ?_); (focus (first | omega | (simp only [InK]; omega) | (simp [InK]; done) | (simp [InK]; omega))); simp only [↓sx0, sxE, encs, sevalprocAttr])
   refine ⟨by omega, _, rfl, ?_⟩
   simp only [↓sx0, sxE, encs, sevalprocAttr]
   refine CallI.fnK (nd) glob_ok hgl rfl (by simp only [sx3, encs, sxR, sevalprocAttr] <;> (try simp) <;> (try rfl)) ?_
   simp only [↓sx0, sxE, encs, sevalprocAttr]
   repeat ((with_reducible refine Vc.go ?_ fun _ => ?_); (focus (first | omega | (simp only [InK]; omega) | (simp [InK]; done) | (simp [InK]; omega))); simp only [↓sx0, sxE, encs, sevalprocAttr])
   refine BrW.of (fun ho => ?_) (fun ho => ?_)
   ·simp only [↓sx0, sxE, encs, sevalprocAttr]
    repeat ((with_reducible refine Vc.go ?_ fun _ => ?_); (focus (first | omega | (simp only [InK]; omega) | (simp [InK]; done) | (simp [InK]; omega))); simp only [↓sx0, sxE, encs, sevalprocAttr])
    refine ⟨4, StLe.auto (by simp only [sx2, encs, sxR, sevalprocAttr] <;> (try simp [arC, encs]) <;> (try omega)), ?_, ?_⟩
    ·exact ⟨by omega, fun _ => ka (by omega), fun _ => kb (by omega), fun _ => kc (by omega), fun _ => ho⟩
    ·omega
   ·rw [if_neg (by simp [ho])] at hcel
    rw [hcel]
    simp only [↓sx0, sxE, encs, sevalprocAttr]
    refine EndW.fn ?_ ?_ <;> simp only [sx4, encs, kpLL_map, sxR, sevalprocAttr] <;> (try simp) <;> (try omega)
  ·rw [if_pos ⟨ka (by omega), kb (by omega), kc (by omega), kd (by omega)⟩] at hcel
   rw [hcel]
   simp only [↓sx0, sxE, encs, sevalprocAttr]
   repeat ((with_reducible refine Vc.go ?_ fun _ => ?_); (focus (first | omega | (simp only [InK]; omega) | (simp [InK]; done) | (simp [InK]; omega))); simp only [↓sx0, sxE, encs, sevalprocAttr])
   refine EndW.fn ?_ ?_ <;> simp only [sx4, encs, kpLL_map, sxR, sevalprocAttr] <;> (try simp [arC]) <;> (try omega)
 ·rw [celK_len h4]
  refine BrW.yes (by omega) ?_
  simp only [↓sx0, sxE, encs, sevalprocAttr]
  refine EndW.fn ?_ ?_ <;> simp only [sx4, encs, kpLL_map, sxR, sevalprocAttr] <;> (try simp) <;> (try omega)
end Go.Proofs.YtgiegokdcmkfeaaGreatDoor
/-
 Chapter 6, walks: a line of cells read.
-/
namespace Go.Proofs.YtgiegokdcmkfeaaGreatDoor
open Go Go.Vx
set_option maxRecDepth 20000
/-- cells read, behind others. -/
def rowG (num : List UInt8 → Int × Bool) : List (List UInt8) → List Cell → List Cell × Bool
 | [], acc => (acc, true)
 | x :: xs, acc => if (celK num x).2 = true then rowG num xs (acc ++ [(celK num x).1]) else ([], false)
def rowN (num : List UInt8 → Int × Bool) (ws : List (List UInt8)) (n : Nat) : List Cell := (ws.take n).map fun x => (celK num x).1
theorem rowN_succ {num : List UInt8 → Int × Bool} {ws : List (List UInt8)} {n : Nat} {x : List UInt8} {r : List (List UInt8)} (h : ws.drop n = x :: r) : rowN num ws (n + 1) = rowN num ws n ++ [(celK num x).1] := by
 have hn : n < ws.length := by
  have := congrArg List.length h
  simp at this; omega
 have hp : ws[n] = x := by
  have := List.drop_eq_getElem_cons hn
  rw [h] at this; exact (List.cons.inj this).1.symm
 rw [rowN, List.take_succ_eq_append_getElem hn, List.map_append, hp]; rfl
theorem rowN_len {num : List UInt8 → Int × Bool} {ws : List (List UInt8)} {n : Nat} (h : n ≤ ws.length) : (rowN num ws n).length = n := by simp [rowN]; omega
set_option maxHeartbeats 16000000 in
theorem rowOf_s (w : List UInt8) (hw : w.length ≤ 100000) : CtrK glob Tryz.prog 40 [(.v (.string (bs w)))] (fun rr => rr = ⟨.tup [.sl true 4 ((rowG n4P (cutL 32 [] w) []).1.map eC), (.v (.bool ((rowG n4P (cutL 32 [] w) []).2)))], []⟩) := by
 have hmem := cutL_mem 32 w []
 have hlen := cutL_len 32 w []
 have hcnt := List.count_le_length (a := (32 : UInt8)) (l := w)
 have hit := splitIt_s w 32 (by omega)
 generalize hws : cutL 32 [] w = ws at hmem hlen hit
 have encs := And.intro encs (And.intro cC_eq (And.intro sxFb (And.intro sxFz (And.intro lnY_def (show rowN n4P ws 0 = [] from rfl)))))
 refine CtrK.of (rs := [.cell 2 27, .cell 3 4]) Tok true Tryz.func40 rfl rfl rfl rfl (by simp [ofDL]) (fun w0 kp hgl => ?_)
 simp only [↓sx0, sxE, encs, sevalprocAttr]
 refine CallI.inl (rs := [.tmp 4]) Tok Tryz.func80 rfl rfl rfl rfl (by simp) (fun ρ σ μ fr lp => ?_)
 simp only [↓sx0, sxE, encs, sevalprocAttr]
 refine CallI.inl (rs := [.tmp 6]) Tok Tryz.func106 rfl rfl rfl rfl (by simp) (fun ρ σ μ fr lp => ?_)
 simp only [↓sx0, sxE, encs, sevalprocAttr]
 refine RangeW.fz1 4 rfl rfl rfl (fun _ => rfl) (by simp only [sx2, List.map_cons, List.map_nil, encs, sxR, sevalprocAttr] <;> rfl) ?_
 refine RangeW.fz1 5 rfl rfl rfl (fun _ => rfl) (by simp only [sx2, List.map_cons, List.map_nil, encs, sxR, sevalprocAttr] <;> rfl) ?_
 refine RangeW.itB (k := 3) rfl Tok (fun _ => rfl) (fun hro => by first | rfl | exact (by rw [hro] at *; contradiction)) hit [(2, .box 0 0), (3, .box 1 0), (4, .box 2 0), (9, .clo 136 [.pt true [(.v (.string (⟨#[32]⟩)))], .box 3 0, .pt true [(.v (.int .i64 0))]])]
  [some ⟨27, [.v (.slice none 0 0)]⟩, some ⟨4, [(.v (.bool (false)))]⟩, some ⟨27, [.row 0]⟩, some ⟨9, [(.v (.string (bs w)))]⟩]
  (fun _ => [some ⟨27, [.v (.slice none 0 0)]⟩, some ⟨4, [(.v (.bool (false)))]⟩, some ⟨27, [.row 0]⟩, none])
  (fun ys => [.own 63 4 ((rowN n4P ws ys.length).map eC)]) (fun ys => rowG n4P ws [] = rowG n4P (ws.drop ys.length) (rowN n4P ws ys.length)) rfl (by simp only [sx2, encs, sxR, sevalprocAttr] <;> (try simp) <;> (try omega)) rfl rfl rfl rfl rfl (by simp [lnY]) ?_ (fun hJ => ?_)
 ·rintro pre d hpre hJ ρ σ μ ho' hy hs'
  obtain ⟨yd', ro, mks, fr, lp, sz⟩ := ho'
  obtain ⟨q, hq⟩ := hpre
  have hget : (ws.map lnY)[pre.length]? = some d := by rw [← hq]; simp
  rw [List.getElem?_map] at hget
  obtain ⟨x, hx, rfl⟩ := Option.map_eq_some_iff.1 hget
  have hn : pre.length < ws.length := (List.getElem?_eq_some_iff.1 hx).1
  have hdr : ws.drop pre.length = x :: ws.drop (pre.length + 1) := by
   rw [List.drop_eq_getElem_cons hn, (List.getElem?_eq_some_iff.1 hx).2]
  have hsuc := rowN_succ (num := n4P) hdr
  have hlp : (pre ++ [lnY x]).length = pre.length + 1 := by simp
  have hacc := rowN_len (num := n4P) (n := pre.length) (ws := ws) (by omega)
  have hxl := hmem x (List.mem_of_getElem? hx)
  simp only [List.length_nil, Nat.zero_add] at hxl
  have cP := cellOf_s x (by omega)
  rw [hlp, hsuc]
  rw [hdr, rowG] at hJ
  generalize rowN n4P ws pre.length = acc at *
  generalize hcel : celK n4P x = cel at *
  rw [lnY_def]
  simp only [↓sx0, sxE, encs, sevalprocAttr]
  intro fr' hfr
  refine CallI.fnKI (cP) glob_ok hgl rfl hfr (by simp only [sx3, encs, sxR, sevalprocAttr] <;> (try simp) <;> (try rfl)) ?_
  simp only [↓sx0, sxE, encs, sevalprocAttr]
  refine BrW.of (fun ho => ?_) (fun ho => ?_)
  ·rw [if_pos ho] at hJ
   simp only [↓sx0, sxE, encs, sevalprocAttr]
   repeat ((with_reducible refine Vc.go ?_ fun _ => ?_); (focus (first | omega | (simp only [InK]; omega) | (simp [InK]; done) | (simp [InK]; omega))); simp only [↓sx0, sxE, encs, sevalprocAttr])
   refine ⟨?_, ?_⟩
   ·rw [hJ]
   ·simp only [sx2, encs, sxR, sevalprocAttr] <;> (try simp) <;> (try omega)
    rfl
  ·rw [if_neg (by simp [ho])] at hJ
   rw [hJ]
   simp only [↓sx0, sxE, encs, sevalprocAttr]
   refine EndW.fn ?_ ?_ <;> simp only [sx4, encs, kpLL_map, sxR, sevalprocAttr] <;> (try simp) <;> (try omega)
 ·rw [List.length_map, List.drop_length, rowG] at hJ
  rw [List.length_map, hJ]
  simp only [↓sx0, sxE, encs, sevalprocAttr]
  refine EndW.fn ?_ ?_ <;> simp only [sx4, encs, kpLL_map, sxR, sevalprocAttr] <;> (try simp) <;> (try omega)
end Go.Proofs.YtgiegokdcmkfeaaGreatDoor
/-
 Chapter 6, walks: right schemes (the document's answer).
-/
namespace Go.Proofs.YtgiegokdcmkfeaaGreatDoor
open Go Go.Vx
set_option maxRecDepth 20000
def clOk (n : Nat) (x : Cell) : Bool := decide ((1 ≤ x.front ∧ x.front ≤ 2 * n) ∧ (1 ≤ x.back ∧ x.back ≤ 2 * n) ∧ (0 ≤ x.fturn ∧ x.fturn ≤ 1) ∧ (0 ≤ x.bturn ∧ x.bturn ≤ 1))
/-- cells one by one: the first that is wrong, and its error. -/
def schK (n : Nat) : List Int → Nat → List Cell → Int × Int
 | _, _, [] => (0, 0)
 | seen, i, x :: l => if clOk n x = false then (i, 2) else if x.front ∈ seen ∨ x.back ∈ seen ∨ x.front = x.back then (i, 28) else schK n (seen ++ [x.front, x.back]) (i + 1) l
def schS (c r : Int) (l : List Cell) : Int × Int :=
 if sheetErr c r ≠ 0 then (0, sheetErr c r) else if ¬ (l.length : Int) = c * r then (0, 10) else schK l.length [] 0 l
def seenK (l : List Cell) (k : Nat) : List Int := (l.take k).flatMap fun x => [x.front, x.back]
theorem seenK_zero (l : List Cell) : seenK l 0 = [] := rfl
theorem seenK_succ {l : List Cell} {k : Nat} (h : k < l.length) : seenK l (k + 1) = seenK l k ++ [l[k].front, l[k].back] := by
 unfold seenK
 rw [List.take_succ_eq_append_getElem h, List.flatMap_append]
 rfl
theorem seenK_len (l : List Cell) (k : Nat) : (seenK l k).length ≤ 2 * l.length := by
 have : (seenK l k).length = 2 * (l.take k).length := by
  unfold seenK
  generalize l.take k = m
  induction m with
  | nil => rfl
  | cons a m ih => simp only [List.flatMap_cons, List.length_append, List.length_cons, List.length_nil, ih]; omega
 rw [this, List.length_take]; omega
theorem clOk_iff {n : Nat} {x : Cell} : clOk n x = true ↔ (1 ≤ x.front ∧ x.front ≤ 2 * n) ∧ (1 ≤ x.back ∧ x.back ≤ 2 * n) ∧ (0 ≤ x.fturn ∧ x.fturn ≤ 1) ∧ (0 ≤ x.bturn ∧ x.bturn ≤ 1) := by simp [clOk]
theorem checkSchemeR_s (b : Bool) (c r : Int) (l : List Cell) (_hl : l.length ≤ 1000000000000000) : Ctr Tryz.prog 23 [.agg [(.v (.int .i64 c)), (.v (.int .i64 r)), .sl b 4 (l.map eC)]] (fun rr => rr = ⟨.tup [(.v (.int .i64 ((schS c r l).1))), (.v (.int .i64 ((schS c r l).2)))], []⟩) := by
 refine Ctr.of (rs := [.tmp 2, .tmp 3]) Tok true Tryz.func23 rfl rfl rfl rfl (by simp [ofDL]) (fun w0 kp => ?_)
 simp only [↓sx0, sxE, encs, sevalprocAttr]
 refine CallI.fn (checkSheetR_s c r) (by simp only [sx3, encs, sxR, sevalprocAttr] <;> (try simp) <;> (try rfl)) ?_
 simp only [↓sx0, sxE, encs, sevalprocAttr]
 refine BrW.dec (fun he => ?_) (fun he => ?_)
 ·simp only [↓sx0, sxE, encs, sevalprocAttr]
  refine EndW.fn ?_ ?_ <;> simp only [sx4, encs, kpLL_map, sxR, sevalprocAttr] <;> (try simp [schS, he]) <;> (try omega)
 ·simp only [↓sx0, sxE, encs, sevalprocAttr]
  have he0 : sheetErr c r = 0 := Decidable.not_not.1 he
  have hsh := sheet_ok he0
  have b1 : c * r ≤ 8 * 8 := Int.mul_le_mul hsh.2.1 hsh.2.2.2 (by omega) (by omega)
  have b2 : 0 ≤ c * r := Int.mul_nonneg (by omega) (by omega)
  (with_reducible refine Vc.go ?_ fun _ => ?_); focus (first | omega | (simp only [InK]; omega) | (simp [InK]; done) | (simp [InK]; omega))
  simp only [↓sx0, sxE, encs, sevalprocAttr]
  refine BrW.dec (fun hln => ?_) (fun hln => ?_)
  ·simp only [↓sx0, sxE, encs, sevalprocAttr]
   refine EndW.fn ?_ ?_ <;> simp only [sx4, encs, kpLL_map, sxR, sevalprocAttr] <;> (try simp [schS, he0, hln]) <;> (try omega)
  ·simp only [↓sx0, sxE, encs, sevalprocAttr]
   have hln0 := Decidable.not_not.1 hln
   refine LoopW.comp [1, 5, 6] (by simp only [sx2, encs, sxR, sevalprocAttr] <;> (try simp) <;> (try omega)) ?_
   simp only [sx2, sxR, sevalprocAttr]
   refine LoopW.up Tok (fun k : Nat => [(6, (.v (.int .i64 k))), (5, .row 0)]) (fun k => []) (fun k => []) (fun k => [.own 3 1 ((seenK l k).map eI)]) (fun k => k ≤ l.length ∧ schK l.length [] 0 l = schK l.length (seenK l k) k (l.drop k)) (fun k => l.length - k) (0) (by simp only [sx2, encs, sxR, sevalprocAttr] <;> (try simp [seenK_zero, encs]) <;> (try omega)) ?_ ?_
   ·exact ⟨by omega, by simp [seenK_zero]⟩
   rintro k ⟨hk, hs⟩
   have hsl := seenK_len l k
   simp only [↓sx0, sxE, encs, sevalprocAttr]
   refine BrW.dec (fun hlt => ?_) (fun hlt => ?_)
   ·have hk2 : k < l.length := by omega
    rw [List.drop_eq_getElem_cons hk2, schK] at hs
    simp only [↓sx0, sxE, encs, sevalprocAttr]
    refine IxW.nat hk2 ?_
    simp only [↓sx0, sxE, encs, sevalprocAttr]
    repeat ((with_reducible refine Vc.go ?_ fun _ => ?_); (focus (first | omega | (simp only [InK]; omega) | (simp [InK]; done) | (simp [InK]; omega))); simp only [↓sx0, sxE, encs, sevalprocAttr])
    refine CallI.fn (withinB_s l[k].front 1 (2 * l.length)) (by simp only [sx3, encs, sxR, sevalprocAttr] <;> (try simp) <;> (try rfl)) ?_
    simp only [↓sx0, sxE, encs, sevalprocAttr]
    refine BrW.dec (fun g1 => ?_) (fun g1 => ?_)
    ·simp only [↓sx0, sxE, encs, sevalprocAttr]
     repeat ((with_reducible refine Vc.go ?_ fun _ => ?_); (focus (first | omega | (simp only [InK]; omega) | (simp [InK]; done) | (simp [InK]; omega))); simp only [↓sx0, sxE, encs, sevalprocAttr])
     refine CallI.fn (withinB_s l[k].back 1 (2 * l.length)) (by simp only [sx3, encs, sxR, sevalprocAttr] <;> (try simp) <;> (try rfl)) ?_
     simp only [↓sx0, sxE, encs, sevalprocAttr]
     refine BrW.dec (fun g2 => ?_) (fun g2 => ?_)
     ·simp only [↓sx0, sxE, encs, sevalprocAttr]
      refine CallI.fn (isTurn_s l[k].fturn) (by simp only [sx3, encs, sxR, sevalprocAttr] <;> (try simp) <;> (try rfl)) ?_
      simp only [↓sx0, sxE, encs, sevalprocAttr]
      refine BrW.dec (fun g3 => ?_) (fun g3 => ?_)
      ·simp only [↓sx0, sxE, encs, sevalprocAttr]
       refine CallI.fn (isTurn_s l[k].bturn) (by simp only [sx3, encs, sxR, sevalprocAttr] <;> (try simp) <;> (try rfl)) ?_
       simp only [↓sx0, sxE, encs, sevalprocAttr]
       refine BrW.dec (fun g4 => ?_) (fun g4 => ?_)
       ·simp only [↓sx0, sxE, encs, sevalprocAttr]
        have hb : ¬ clOk l.length l[k] = false := by rw [Bool.not_eq_false, clOk_iff]; omega
        rw [if_neg hb] at hs
        refine CallI.fn (has_s false (seenK l k) l[k].front (by omega)) (by simp only [sx3, encs, sxR, sevalprocAttr] <;> (try simp) <;> (try rfl)) ?_
        simp only [↓sx0, sxE, encs, sevalprocAttr]
        refine BrW.dec (fun g5 => ?_) (fun g5 => ?_)
        ·simp only [↓sx0, sxE, encs, sevalprocAttr]
         rw [if_pos (.inl g5)] at hs
         refine EndW.fn ?_ ?_ <;> simp only [sx4, encs, kpLL_map, sxR, sevalprocAttr] <;> (try simp [schS, he0, hln0, hs]) <;> (try omega)
        ·simp only [↓sx0, sxE, encs, sevalprocAttr]
         refine CallI.fn (has_s false (seenK l k) l[k].back (by omega)) (by simp only [sx3, encs, sxR, sevalprocAttr] <;> (try simp) <;> (try rfl)) ?_
         simp only [↓sx0, sxE, encs, sevalprocAttr]
         refine BrW.dec (fun g6 => ?_) (fun g6 => ?_)
         ·simp only [↓sx0, sxE, encs, sevalprocAttr]
          rw [if_pos (.inr (.inl g6))] at hs
          refine EndW.fn ?_ ?_ <;> simp only [sx4, encs, kpLL_map, sxR, sevalprocAttr] <;> (try simp [schS, he0, hln0, hs]) <;> (try omega)
         ·simp only [↓sx0, sxE, encs, sevalprocAttr]
          refine BrW.dec (fun g7 => ?_) (fun g7 => ?_)
          ·simp only [↓sx0, sxE, encs, sevalprocAttr]
           rw [if_pos (.inr (.inr g7))] at hs
           refine EndW.fn ?_ ?_ <;> simp only [sx4, encs, kpLL_map, sxR, sevalprocAttr] <;> (try simp [schS, he0, hln0, hs]) <;> (try omega)
          ·simp only [↓sx0, sxE, encs, sevalprocAttr]
           rw [if_neg (by simp only [g5, g6, g7, or_self, not_false_eq_true])] at hs
           (with_reducible refine Vc.go ?_ fun _ => ?_); focus (first | omega | (simp only [InK]; omega) | (simp [InK]; done) | (simp [InK]; omega))
           simp only [↓sx0, sxE, encs, sevalprocAttr]
           (with_reducible refine Vc.go ?_ fun _ => ?_); focus (first | omega | (simp only [InK]; omega) | (simp [InK]; done) | (simp [InK]; omega))
           simp only [↓sx0, sxE, encs, sevalprocAttr]
           refine ⟨k + 1, StLe.auto (by simp only [sx2, encs, sxR, sevalprocAttr] <;> (try simp [seenK_succ hk2, encs]) <;> (try omega)), ?_, ?_⟩
           ·exact ⟨hk2, by rw [seenK_succ hk2]; exact hs⟩
           ·omega
       ·simp only [↓sx0, sxE, encs, sevalprocAttr]
        have hb : clOk l.length l[k] = false := by rw [← Bool.not_eq_true, clOk_iff]; omega
        rw [if_pos hb] at hs
        refine EndW.fn ?_ ?_ <;> simp only [sx4, encs, kpLL_map, sxR, sevalprocAttr] <;> (try simp [schS, he0, hln0, hs]) <;> (try omega)
      ·simp only [↓sx0, sxE, encs, sevalprocAttr]
       have hb : clOk l.length l[k] = false := by rw [← Bool.not_eq_true, clOk_iff]; omega
       rw [if_pos hb] at hs
       refine EndW.fn ?_ ?_ <;> simp only [sx4, encs, kpLL_map, sxR, sevalprocAttr] <;> (try simp [schS, he0, hln0, hs]) <;> (try omega)
     ·simp only [↓sx0, sxE, encs, sevalprocAttr]
      have hb : clOk l.length l[k] = false := by rw [← Bool.not_eq_true, clOk_iff]; omega
      rw [if_pos hb] at hs
      refine EndW.fn ?_ ?_ <;> simp only [sx4, encs, kpLL_map, sxR, sevalprocAttr] <;> (try simp [schS, he0, hln0, hs]) <;> (try omega)
    ·simp only [↓sx0, sxE, encs, sevalprocAttr]
     have hb : clOk l.length l[k] = false := by rw [← Bool.not_eq_true, clOk_iff]; omega
     rw [if_pos hb] at hs
     refine EndW.fn ?_ ?_ <;> simp only [sx4, encs, kpLL_map, sxR, sevalprocAttr] <;> (try simp [schS, he0, hln0, hs]) <;> (try omega)
   ·simp only [↓sx0, sxE, encs, sevalprocAttr]
    have hke : k = l.length := by omega
    subst hke
    rw [List.drop_length, schK] at hs
    refine EndW.fn ?_ ?_ <;> simp only [sx4, encs, kpLL_map, sxR, sevalprocAttr] <;> (try simp [schS, he0, hln0, hs]) <;> (try omega)
end Go.Proofs.YtgiegokdcmkfeaaGreatDoor
/-
 Chapter 6, walks: right schemes (the program).
-/
namespace Go.Proofs.YtgiegokdcmkfeaaGreatDoor
open Go Go.Vx
set_option maxRecDepth 20000
def eB (b : Bool) : List D := [.v (.bool b)]
def bl (n : Nat) (seen : List Int) : List Bool := (List.range (2 * n + 1)).map fun (j : Nat) => decide ((j : Int) ∈ seen)
theorem bl_len (n : Nat) (seen : List Int) : (bl n seen).length = 2 * n + 1 := by simp [bl]
theorem bl_get (n : Nat) (seen : List Int) {j : Int} (h0 : 0 ≤ j) (h1 : j ≤ 2 * n) : (bl n seen)[j.toNat]? = some (decide (j ∈ seen)) := by
 obtain ⟨i, rfl⟩ : ∃ i : Nat, j = i := ⟨j.toNat, by omega⟩
 simp [bl, List.getElem?_range (show i < 2 * n + 1 by omega)]
theorem bl_set (n : Nat) (seen : List Int) {a : Int} (h0 : 0 ≤ a) (_h1 : a ≤ 2 * n) : (bl n seen).set a.toNat true = bl n (seen ++ [a]) := by
 refine List.ext_getElem (by simp [bl]) fun i h2 h3 => ?_
 rw [List.getElem_set]
 simp only [bl, List.getElem_map, List.getElem_range, List.mem_append, List.mem_singleton]
 by_cases h : a.toNat = i
 ·rw [if_pos h, eq_comm, decide_eq_true_iff]; exact .inr (by omega)
 ·rw [if_neg h]; congr 1; simp only [eq_iff_iff]; constructor
  ·exact .inl
  ·rintro (h | h)
   ·exact h
   ·omega
theorem bl_mark (n : Nat) (seen : List Int) {a b : Int} (h0 : 0 ≤ a) (h1 : a ≤ 2 * n) (h2 : 0 ≤ b) (h3 : b ≤ 2 * n) :
  (((bl n seen).map eB).modify a.toNat (modE · 0 [.v (.bool true)])).modify b.toNat (modE · 0 [.v (.bool true)]) = (bl n (seen ++ [a, b])).map eB := by
 have e1 : ((bl n seen).map eB).modify a.toNat (modE · 0 [.v (.bool true)]) = (bl n (seen ++ [a])).map eB := by
  rw [← bl_set n seen h0 h1]; exact modify_map (bl_get n seen h0 h1) true rfl
 have e2 : ((bl n (seen ++ [a])).map eB).modify b.toNat (modE · 0 [.v (.bool true)]) = (bl n (seen ++ [a] ++ [b])).map eB := by
  rw [← bl_set n (seen ++ [a]) h2 h3]; exact modify_map (bl_get n (seen ++ [a]) h2 h3) true rfl
 rw [e1, e2, List.append_assoc]; rfl
theorem checkScheme_s (b : Bool) (c r : Int) (l : List Cell) : Ctr Tryz.prog 69 [.agg [(.v (.int .i64 c)), (.v (.int .i64 r)), .sl b 4 (l.map eC)]] (fun rr => rr = ⟨.tup [(.v (.int .i64 ((schS c r l).1))), (.v (.int .i64 ((schS c r l).2)))], []⟩) := by
 have encs := And.intro encs (fun b => show eB b = [.v (.bool b)] from rfl)
 refine Ctr.of (rs := [.tmp 2, .tmp 3]) Tok true Tryz.func69 rfl rfl rfl rfl (by simp [ofDL]) (fun w0 kp => ?_)
 simp only [↓sx0, sxE, encs, sevalprocAttr]
 refine CallI.fn (checkSheet_s c r) (by simp only [sx3, encs, sxR, sevalprocAttr] <;> (try simp) <;> (try rfl)) ?_
 simp only [↓sx0, sxE, encs, sevalprocAttr]
 refine BrW.dec (fun he => ?_) (fun he => ?_)
 ·simp only [↓sx0, sxE, encs, sevalprocAttr]
  refine EndW.fn ?_ ?_ <;> simp only [sx4, encs, kpLL_map, sxR, sevalprocAttr] <;> (try simp [schS, he]) <;> (try omega)
 ·simp only [↓sx0, sxE, encs, sevalprocAttr]
  have he0 : sheetErr c r = 0 := Decidable.not_not.1 he
  have hsh := sheet_ok he0
  have b1 : c * r ≤ 8 * 8 := Int.mul_le_mul hsh.2.1 hsh.2.2.2 (by omega) (by omega)
  have b2 : 0 ≤ c * r := Int.mul_nonneg (by omega) (by omega)
  (with_reducible refine Vc.go ?_ fun _ => ?_); focus (first | omega | (simp only [InK]; omega) | (simp [InK]; done) | (simp [InK]; omega))
  simp only [↓sx0, sxE, encs, sevalprocAttr]
  refine BrW.dec (fun hln => ?_) (fun hln => ?_)
  ·simp only [↓sx0, sxE, encs, sevalprocAttr]
   refine EndW.fn ?_ ?_ <;> simp only [sx4, encs, kpLL_map, sxR, sevalprocAttr] <;> (try simp [schS, he0, hln]) <;> (try omega)
  ·simp only [↓sx0, sxE, encs, sevalprocAttr]
   have hln0 := Decidable.not_not.1 hln
   repeat ((with_reducible refine Vc.go ?_ fun _ => ?_); (focus (first | omega | (simp only [InK]; omega) | (simp [InK]; done) | (simp [InK]; omega))); simp only [↓sx0, sxE, encs, sevalprocAttr])
   rw [← hln0]
   have hrep : List.replicate (2 * (l.length : Int) + 1).toNat [D.v (.bool false)] = (bl l.length (seenK l 0)).map eB := by
    rw [show (2 * (l.length : Int) + 1).toNat = 2 * l.length + 1 by omega]
    refine List.ext_getElem (by simp [bl]) fun i h1 h2 => ?_
    simp [bl, seenK_zero, eB]
   rw [hrep]
   refine LoopW.comp [5, 6, 32, 33, 34] (by simp only [sx2, encs, sxR, sevalprocAttr] <;> (try simp) <;> (try omega)) ?_
   simp only [sx2, sxR, sevalprocAttr]
   refine LoopW.up Tok (fun k : Nat => [(34, (.v (.int .i64 k)))]) (fun k => []) (fun k => [(0, (bl l.length (seenK l k)).map eB)]) (fun k => []) (fun k => k ≤ l.length ∧ schK l.length [] 0 l = schK l.length (seenK l k) k (l.drop k)) (fun k => l.length - k) (0) (by simp only [sx2, encs, sxR, sevalprocAttr] <;> (try simp) <;> (try omega)) ?_ ?_
   ·exact ⟨by omega, by simp [seenK_zero]⟩
   rintro k ⟨hk, hs⟩
   simp only [↓sx0, sxE, encs, sevalprocAttr]
   refine BrW.dec (fun hlt => ?_) (fun hlt => ?_)
   ·have hk2 : k < l.length := by omega
    rw [List.drop_eq_getElem_cons hk2, schK] at hs
    simp only [↓sx0, sxE, encs, sevalprocAttr]
    refine IxW.nat hk2 ?_
    simp only [↓sx0, sxE, encs, sevalprocAttr]
    repeat ((with_reducible refine Vc.go ?_ fun _ => ?_); (focus (first | omega | (simp only [InK]; omega) | (simp [InK]; done) | (simp [InK]; omega))); simp only [↓sx0, sxE, encs, sevalprocAttr])
    refine CallI.fn (within_s l[k].front 1 (2 * l.length)) (by simp only [sx3, encs, sxR, sevalprocAttr] <;> (try simp) <;> (try rfl)) ?_
    simp only [↓sx0, sxE, encs, sevalprocAttr]
    refine BrW.dec (fun g1 => ?_) (fun g1 => ?_)
    ·simp only [↓sx0, sxE, encs, sevalprocAttr]
     repeat ((with_reducible refine Vc.go ?_ fun _ => ?_); (focus (first | omega | (simp only [InK]; omega) | (simp [InK]; done) | (simp [InK]; omega))); simp only [↓sx0, sxE, encs, sevalprocAttr])
     refine CallI.fn (within_s l[k].back 1 (2 * l.length)) (by simp only [sx3, encs, sxR, sevalprocAttr] <;> (try simp) <;> (try rfl)) ?_
     simp only [↓sx0, sxE, encs, sevalprocAttr]
     refine BrW.dec (fun g2 => ?_) (fun g2 => ?_)
     ·simp only [↓sx0, sxE, encs, sevalprocAttr]
      refine CallI.fn (within_s l[k].fturn 0 1) (by simp only [sx3, encs, sxR, sevalprocAttr] <;> (try simp) <;> (try rfl)) ?_
      simp only [↓sx0, sxE, encs, sevalprocAttr]
      refine BrW.dec (fun g3 => ?_) (fun g3 => ?_)
      ·simp only [↓sx0, sxE, encs, sevalprocAttr]
       refine CallI.fn (within_s l[k].bturn 0 1) (by simp only [sx3, encs, sxR, sevalprocAttr] <;> (try simp) <;> (try rfl)) ?_
       simp only [↓sx0, sxE, encs, sevalprocAttr]
       refine BrW.dec (fun g4 => ?_) (fun g4 => ?_)
       ·simp only [↓sx0, sxE, encs, sevalprocAttr]
        have hb : ¬ clOk l.length l[k] = false := by rw [Bool.not_eq_false, clOk_iff]; omega
        rw [if_neg hb] at hs
        have q1 := bl_get l.length (seenK l k) (j := l[k].front) (by omega) (by omega)
        have q2 := bl_get l.length (seenK l k) (j := l[k].back) (by omega) (by omega)
        (with_reducible refine Vc.go ?_ fun _ => ?_); focus (first | omega | (simp only [InK]; omega) | (simp [bl_len, InK]; done) | (simp [bl_len, InK]; omega))
        simp only [↓sx0, sxE, encs, sevalprocAttr]
        refine IxW.map _ (by omega) q1 ?_
        simp only [↓sx0, sxE, encs, sevalprocAttr]
        refine BrW.dec (fun g5 => ?_) (fun g5 => ?_)
        ·simp only [↓sx0, sxE, encs, sevalprocAttr]
         rw [if_pos (.inl g5)] at hs
         refine EndW.fn ?_ ?_ <;> simp only [sx4, encs, kpLL_map, sxR, sevalprocAttr] <;> (try simp [schS, he0, hln0, hs]) <;> (try omega)
        ·simp only [↓sx0, sxE, encs, sevalprocAttr]
         (with_reducible refine Vc.go ?_ fun _ => ?_); focus (first | omega | (simp only [InK]; omega) | (simp [bl_len, InK]; done) | (simp [bl_len, InK]; omega))
         simp only [↓sx0, sxE, encs, sevalprocAttr]
         refine IxW.map _ (by omega) q2 ?_
         simp only [↓sx0, sxE, encs, sevalprocAttr]
         refine BrW.dec (fun g6 => ?_) (fun g6 => ?_)
         ·simp only [↓sx0, sxE, encs, sevalprocAttr]
          rw [if_pos (.inr (.inl g6))] at hs
          refine EndW.fn ?_ ?_ <;> simp only [sx4, encs, kpLL_map, sxR, sevalprocAttr] <;> (try simp [schS, he0, hln0, hs]) <;> (try omega)
         ·simp only [↓sx0, sxE, encs, sevalprocAttr]
          refine BrW.dec (fun g7 => ?_) (fun g7 => ?_)
          ·simp only [↓sx0, sxE, encs, sevalprocAttr]
           rw [if_pos (.inr (.inr g7))] at hs
           refine EndW.fn ?_ ?_ <;> simp only [sx4, encs, kpLL_map, sxR, sevalprocAttr] <;> (try simp [schS, he0, hln0, hs]) <;> (try omega)
          ·simp only [↓sx0, sxE, encs, sevalprocAttr]
           rw [if_neg (by simp only [g5, g6, g7, or_self, not_false_eq_true])] at hs
           refine DrawW.plan Tok mixed (.q 0 <| .q 1 <| .q 2 <| .q 3 <| .q 4 <| .q 5 <| .q 6 <| .e 7 [5] <| .q 8 <| .e 9 [] <| .done) (by kernel_rfl) (by kernel_rfl) ?_
           simp only [↓sx0, sxE, encs, sevalprocAttr]
           repeat ((with_reducible refine Vc.go ?_ fun _ => ?_); (focus (first | omega | (simp only [InK]; omega) | (simp [bl_len, InK]; done) | (simp [bl_len, InK]; omega))); simp only [↓sx0, sxE, encs, sevalprocAttr])
           have hm : (((bl l.length (seenK l k)).map eB).modify (l[k].front).toNat (modE · 0 [D.v (.bool true)])).modify (l[k].back).toNat (modE · 0 [D.v (.bool true)]) = (bl l.length (seenK l (k + 1))).map eB := by
            rw [seenK_succ hk2]; exact bl_mark _ _ (by omega) (by omega) (by omega) (by omega)
           rw [hm]
           refine ⟨k + 1, StLe.auto (by simp only [sx2, encs, sxR, sevalprocAttr] <;> (try simp) <;> (try omega)), ?_, ?_⟩
           ·exact ⟨hk2, by rw [seenK_succ hk2]; exact hs⟩
           ·omega
       ·simp only [↓sx0, sxE, encs, sevalprocAttr]
        have hb : clOk l.length l[k] = false := by rw [← Bool.not_eq_true, clOk_iff]; omega
        rw [if_pos hb] at hs
        refine EndW.fn ?_ ?_ <;> simp only [sx4, encs, kpLL_map, sxR, sevalprocAttr] <;> (try simp [schS, he0, hln0, hs]) <;> (try omega)
      ·simp only [↓sx0, sxE, encs, sevalprocAttr]
       have hb : clOk l.length l[k] = false := by rw [← Bool.not_eq_true, clOk_iff]; omega
       rw [if_pos hb] at hs
       refine EndW.fn ?_ ?_ <;> simp only [sx4, encs, kpLL_map, sxR, sevalprocAttr] <;> (try simp [schS, he0, hln0, hs]) <;> (try omega)
     ·simp only [↓sx0, sxE, encs, sevalprocAttr]
      have hb : clOk l.length l[k] = false := by rw [← Bool.not_eq_true, clOk_iff]; omega
      rw [if_pos hb] at hs
      refine EndW.fn ?_ ?_ <;> simp only [sx4, encs, kpLL_map, sxR, sevalprocAttr] <;> (try simp [schS, he0, hln0, hs]) <;> (try omega)
    ·simp only [↓sx0, sxE, encs, sevalprocAttr]
     have hb : clOk l.length l[k] = false := by rw [← Bool.not_eq_true, clOk_iff]; omega
     rw [if_pos hb] at hs
     refine EndW.fn ?_ ?_ <;> simp only [sx4, encs, kpLL_map, sxR, sevalprocAttr] <;> (try simp [schS, he0, hln0, hs]) <;> (try omega)
   ·simp only [↓sx0, sxE, encs, sevalprocAttr]
    have hke : k = l.length := by omega
    subst hke
    rw [List.drop_length, schK] at hs
    refine EndW.fn ?_ ?_ <;> simp only [sx4, encs, kpLL_map, sxR, sevalprocAttr] <;> (try simp [schS, he0, hln0, hs]) <;> (try omega)
end Go.Proofs.YtgiegokdcmkfeaaGreatDoor
/-
 Chapter 6, walks: both views of a scheme, and the law of schemes.
-/
namespace Go.Proofs.YtgiegokdcmkfeaaGreatDoor
open Go Go.Vx
set_option maxRecDepth 20000
def frPage (c : Nat) (l : List Cell) (k q : Nat) : Page := ⟨(l.getD (q * c + k) zC).front, (l.getD (q * c + k) zC).fturn⟩
theorem check_s (b : Bool) (c r : Int) (l : List Cell) : Ctr Tryz.prog 30 [.agg [(.v (.int .i64 c)), (.v (.int .i64 r)), .sl b 4 (l.map eC)]] (fun rr => rr = ⟨(.v (.int .i64 ((schS c r l).2))), []⟩) := by
 refine Ctr.of (rs := [.tmp 2]) Tok true Tryz.func30 rfl rfl rfl rfl (by simp [ofDL]) (fun w0 kp => ?_)
 simp only [↓sx0, sxE, encs, sevalprocAttr]
 refine CallI.fn (checkScheme_s b c r l) (by simp only [sx3, encs, sxR, sevalprocAttr] <;> (try simp) <;> (try rfl)) ?_
 simp only [↓sx0, sxE, encs, sevalprocAttr]
 refine EndW.fn ?_ ?_ <;> simp only [sx4, encs, kpLL_map, sxR, sevalprocAttr] <;> (try simp) <;> (try omega)
theorem sch_fine {c r : Int} {l : List Cell} (h : (schS c r l).2 = 0) : ∃ cn rn : Nat, c = cn ∧ r = rn ∧ 1 ≤ cn ∧ cn ≤ 8 ∧ 1 ≤ rn ∧ rn ≤ 8 ∧ l.length = rn * cn ∧ sheetErr c r = 0 := by
 unfold schS at h
 by_cases h1 : sheetErr c r = 0
 ·have hs := sheet_ok h1
  by_cases h2 : (l.length : Int) = c * r
  ·refine ⟨c.toNat, r.toNat, by omega, by omega, by omega, by omega, by omega, by omega, ?_, h1⟩
   have : (l.length : Int) = ((r.toNat * c.toNat : Nat) : Int) := by
    rw [h2]; push_cast; rw [Int.toNat_of_nonneg (by omega), Int.toNat_of_nonneg (by omega)]; exact Int.mul_comm _ _
   exact_mod_cast this
  ·simp only [h1, h2, ne_eq, not_true_eq_false, not_false_eq_true, if_false, if_true] at h; omega
 ·simp only [h1, ne_eq, not_false_eq_true, if_true] at h
def vwS (g : Nat → List Cell → Nat → Nat → Page) (c r : Int) (l : List Cell) : Int × Int × List Page := if (schS c r l).2 ≠ 0 then (0, 0, []) else (c, r, grid c.toNat r.toNat (g c.toNat l))
def frOf (x : Cell) : Page := ⟨x.front, x.fturn⟩
def frT (l : List Cell) (k : Nat) : List Page := (l.take k).map frOf
end Go.Proofs.YtgiegokdcmkfeaaGreatDoor
/-
 Chapter 6, walks: the law of schemes.
-/
namespace Go.Proofs.YtgiegokdcmkfeaaGreatDoor
open Go Go.Vx
set_option maxRecDepth 20000
end Go.Proofs.YtgiegokdcmkfeaaGreatDoor
/-
 Chapter 6, walks: widths; what is read of a scheme's text.
-/
namespace Go.Proofs.YtgiegokdcmkfeaaGreatDoor
open Go Go.Vx
set_option maxRecDepth 20000
theorem parse1_s (c r n : Int) (l : List Cell) : Ctr Tryz.prog 42 [(.v (.int .i64 n)), .pt false [(.v (.int .i64 c)), (.v (.int .i64 r)), .sl false 4 (l.map eC)]] (fun rr => rr = ⟨(.v (.bool (decide (n ≠ c)))), []⟩) := by
 refine Ctr.of (rs := [.tmp 3]) Tok true Tryz.func42 rfl rfl rfl rfl (by simp [ofDL]) (fun w0 kp => ?_)
 simp only [↓sx0, sxE, encs, sevalprocAttr]
 refine EndW.fn ?_ ?_ <;> simp only [sx4, encs, kpLL_map, sxR, sevalprocAttr] <;> (try simp) <;> (try omega)
theorem indexW_s (b : Bool) (c r : Int) (cl : List Cell) (l : List Int) (hl : l.length ≤ 1000000000) : Ctr Tryz.prog 82 [.sl b 1 (l.map eI), .clo 42 [.pt false [(.v (.int .i64 c)), (.v (.int .i64 r)), .sl false 4 (cl.map eC)]]] (fun rr => rr = ⟨(.v (.int .i64 (ixS (fun n => !decide (n = c)) l))), []⟩) := by
 refine Ctr.of (rs := [.tmp 4]) Tok true Tryz.func82 rfl rfl rfl rfl (by simp [ofDL]) (fun w0 kp => ?_)
 simp only [↓sx0, sxE, encs, sevalprocAttr]
 refine LoopW.comp [0, 1, 7, 8] (by simp only [sx2, encs, sxR, sevalprocAttr] <;> (try simp) <;> (try omega)) ?_
 simp only [sx2, sxR, sevalprocAttr]
 refine LoopW.up Tok (fun k : Nat => [(8, (.v (.int .i64 k)))]) (fun k => []) (fun k => []) (fun k => []) (fun k => k ≤ l.length ∧ ∀ x ∈ l.take k, (!decide (x = c)) = false) (fun k => l.length - k) (0) (by simp only [sx2, encs, sxR, sevalprocAttr] <;> (try simp) <;> (try omega)) ?_ ?_
 ·exact ⟨by omega, by simp⟩
 rintro k ⟨hk, hp⟩
 simp only [↓sx0, sxE, encs, sevalprocAttr]
 refine BrW.dec (fun hlt => ?_) (fun hlt => ?_)
 ·simp only [↓sx0, sxE, encs, sevalprocAttr]
  have hk2 : k < l.length := by omega
  refine IxW.nat hk2 ?_
  simp only [↓sx0, sxE, encs, sevalprocAttr]
  refine CallI.fn (parse1_s c r l[k] cl) (by simp only [sx3, encs, sxR, sevalprocAttr] <;> (try simp) <;> (try rfl)) ?_
  simp only [↓sx0, sxE, encs, sevalprocAttr]
  refine BrW.dec (fun hb => ?_) (fun hb => ?_)
  ·simp only [↓sx0, sxE, encs, sevalprocAttr]
   refine EndW.fn ?_ ?_ <;> simp only [sx4, encs, kpLL_map, sxR, sevalprocAttr] <;> (try simp [ixS_at (p := fun n => !decide (n = c)) hk2 hp (by simpa using hb)]) <;> (try omega)
  ·simp only [↓sx0, sxE, encs, sevalprocAttr]
   (with_reducible refine Vc.go ?_ fun _ => ?_); focus (first | omega | (simp only [InK]; omega) | (simp [InK]; done) | (simp [InK]; omega))
   simp only [↓sx0, sxE, encs, sevalprocAttr]
   refine ⟨k + 1, StLe.auto (by simp only [sx2, encs, sxR, sevalprocAttr] <;> (try simp) <;> (try omega)), ?_, ?_⟩
   ·refine ⟨hk2, fun x hx => ?_⟩
    rw [List.take_succ_eq_append_getElem hk2, List.mem_append, List.mem_singleton] at hx
    rcases hx with hx | rfl
    ·exact hp x hx
    ·simpa using hb
   ·omega
 ·simp only [↓sx0, sxE, encs, sevalprocAttr]
  have hke : k = l.length := by omega
  subst hke
  rw [List.take_length] at hp
  refine EndW.fn ?_ ?_ <;> simp only [sx4, encs, kpLL_map, sxR, sevalprocAttr] <;> (try simp [ixS_no (p := fun n => !decide (n = c)) hp]) <;> (try omega)
theorem containsW_s (b : Bool) (c r : Int) (cl : List Cell) (l : List Int) (hl : l.length ≤ 1000000000) : Ctr Tryz.prog 41 [.sl b 1 (l.map eI), .clo 42 [.pt false [(.v (.int .i64 c)), (.v (.int .i64 r)), .sl false 4 (cl.map eC)]]] (fun rr => rr = ⟨(.v (.bool (l.any fun n => !decide (n = c)))), []⟩) := by
 refine Ctr.of (rs := [.tmp 4]) Tok true Tryz.func41 rfl rfl rfl rfl (by simp [ofDL]) (fun w0 kp => ?_)
 simp only [↓sx0, sxE, encs, sevalprocAttr]
 refine CallI.fn (indexW_s b c r cl l hl) (by simp only [sx3, encs, sxR, sevalprocAttr] <;> (try simp) <;> (try rfl)) ?_
 simp only [↓sx0, sxE, encs, sevalprocAttr]
 refine EndW.fn ?_ ?_ <;> simp only [sx4, encs, kpLL_map, sxR, sevalprocAttr] <;> (try simp [ixS_any]) <;> (try omega)
/-- a head line. -/
def hedK (num : List UInt8 → Int × Bool) (w : List UInt8) : (Int × Int) × Bool :=
 match cutL 32 [] w with
 | [a, b] => if (num a).2 = true ∧ (num b).2 = true then (((num a).1, (num b).1), true) else ((0, 0), false)
 | _ => ((0, 0), false)
abbrev SchR := (Int × Int × List Cell) × Int × Int
def noneR (n e : Int) : SchR := ((0, 0, []), n, e)
/-- at the end of a text. -/
def finS (c r : Int) (cells : List Cell) (ws : List Int) : SchR :=
 if (ws.length : Int) ≠ r ∨ (ws.any fun n => !decide (n = c)) = true then noneR 0 10 else if (schS c r cells).2 = 0 then ((c, r, cells), 0, 0) else noneR 0 (schS c r cells).2
/-- lines of cells, from number i on. -/
def schL (num : List UInt8 → Int × Bool) (c r : Int) : Int → List Cell → List Int → List (List UInt8) → SchR
 | _, _, _, [] => noneR 0 0
 | i, cells, ws, [l] => if l = [] then finS c r cells ws else noneR i 7
 | i, cells, ws, p :: q :: ps => if (rowG num (cutL 32 [] p) []).2 = true then schL num c r (i + 1) (cells ++ (rowG num (cutL 32 [] p) []).1) (ws ++ [((rowG num (cutL 32 [] p) []).1.length : Int)]) (q :: ps) else noneR i 7
def schG (num : List UInt8 → Int × Bool) : List (List UInt8) → SchR
 | p :: q :: ps => if (hedK num p).2 = true then schL num (hedK num p).1.1 (hedK num p).1.2 2 [] [] (q :: ps) else noneR 1 7
 | _ => noneR 1 7
/-- what Parse answers. -/
def parS (num : List UInt8 → Int × Bool) (t : List UInt8) : SchR := if 60000 < t.length then noneR 0 8 else schG num (cutL 10 [] t)
/-- what stands behind so many right lines. -/
def stN (num : List UInt8 → Int × Bool) (ps : List (List UInt8)) : Nat → Int × Int × List Cell × List Int
 | 0 => (0, 0, [], [])
 | 1 => ((hedK num (ps.getD 0 [])).1.1, (hedK num (ps.getD 0 [])).1.2, [], [])
 | n + 2 => ((stN num ps (n + 1)).1, (stN num ps (n + 1)).2.1, (stN num ps (n + 1)).2.2.1 ++ (rowG num (cutL 32 [] (ps.getD (n + 1) [])) []).1, (stN num ps (n + 1)).2.2.2 ++ [((rowG num (cutL 32 [] (ps.getD (n + 1) [])) []).1.length : Int)])
def JS (num : List UInt8 → Int × Bool) (ps : List (List UInt8)) (n : Nat) : Prop :=
 n < ps.length ∧ (n = 0 ∨ schG num ps = schL num (stN num ps n).1 (stN num ps n).2.1 (n + 1) (stN num ps n).2.2.1 (stN num ps n).2.2.2 (ps.drop n)) ∧ (stN num ps n).2.2.1.length ≤ n * 100001 ∧ (stN num ps n).2.2.2.length ≤ n
theorem rowG_len (num : List UInt8 → Int × Bool) : ∀ (ws : List (List UInt8)) (acc : List Cell), (rowG num ws acc).1.length ≤ acc.length + ws.length
 | [], acc => by simp [rowG]
 | x :: xs, acc => by
  rw [rowG]
  split
  ·have := rowG_len num xs (acc ++ [(celK num x).1])
   simp only [List.length_append, List.length_cons, List.length_nil] at this ⊢; omega
  ·simp
end Go.Proofs.YtgiegokdcmkfeaaGreatDoor
/-
 Chapter 6, walks: a scheme read.
-/
namespace Go.Proofs.YtgiegokdcmkfeaaGreatDoor
open Go Go.Vx
set_option maxRecDepth 20000
theorem finL_get : ∀ {ps : List (List UInt8)} {n : Nat} {x : List UInt8}, (finL ps)[n]? = some x → ∃ p rest, ps.drop n = p :: rest ∧ ((rest = [] ∧ p ≠ [] ∧ x = p) ∨ (∃ q qs, rest = q :: qs ∧ x = p ++ [10]))
 | [], n, x, h => by simp [finL] at h
 | [l], n, x, h => by
  rw [finL] at h
  split at h
  ·simp at h
  ·rename_i hl
   cases n with
   | zero => simp at h; subst h; exact ⟨l, [], rfl, .inl ⟨rfl, hl, rfl⟩⟩
   | succ n => simp at h
 | p :: q :: ps, 0, x, h => by
  rw [finL] at h
  simp at h
  exact ⟨p, q :: ps, rfl, .inr ⟨q, ps, rfl, h.symm⟩⟩
 | p :: q :: ps, n + 1, x, h => by
  rw [finL] at h
  exact finL_get (ps := q :: ps) (n := n) (by simpa using h)
theorem finL_end : ∀ {ps : List (List UInt8)}, (finL ps).length < ps.length → ps.drop (finL ps).length = [[]]
 | [], h => by simp at h
 | [l], h => by
  by_cases hl : l = []
  ·subst hl; rfl
  ·rw [finL, if_neg hl] at h; simp at h
 | p :: q :: ps, h => by
  rw [finL] at h ⊢
  simp only [List.length_cons] at h ⊢
  exact finL_end (ps := q :: ps) (by simpa using h)
theorem cutL_not {c : UInt8} : ∀ {l acc w : List UInt8}, ¬ c ∈ acc → w ∈ cutL c acc l → ¬ c ∈ w
 | [], acc, w, ha, h => by
  simp only [cutL, List.mem_singleton] at h
  rw [h]; exact ha
 | b :: l, acc, w, ha, h => by
  rw [cutL] at h
  split at h
  ·rcases List.mem_cons.1 h with rfl | h
   ·exact ha
   ·exact cutL_not (by simp) h
  ·rename_i hb
   exact cutL_not (fun e => by
    rcases List.mem_append.1 e with e | e
    ·exact ha e
    ·simp at e; exact hb e.symm) h
theorem num4 (w : List UInt8) (hw : w.length ≤ 100000) : CtrK glob Tryz.prog 39 [(.v (.string (bs w))), (.v (.int .i64 4))] (fun rr => rr = ⟨.tup [(.v (.int .i64 ((n4P w).1))), (.v (.bool ((n4P w).2)))], []⟩) := by
 have h := number_s (bs w) 4 (by rw [bs_size]; omega) (by omega)
 rw [bs_toList] at h
 exact h
theorem numR_sp {w : List UInt8} (h : (32 : UInt8) ∈ w) (dg : Nat) (hd : dg ≤ 18) : (numP w dg).2 = false := by
 have h1 := (num_same w dg hd).1
 cases h2 : (numP w dg).2 with
 | false => rfl
 | true =>
  rw [h2] at h1
  have h3 := h1.symm
  exfalso
  unfold numR at h3
  split at h3
  ·rename_i hm
   obtain ⟨c, r, rfl⟩ : ∃ c r, w = c :: r := by cases w with
    | nil => simp at h
    | cons c r => exact ⟨c, r, rfl⟩
   simp at hm; subst hm
   have h4 : (32 : UInt8) ∈ r := by simpa using h
   simp only [List.tail_cons] at h3
   unfold numM at h3
   split at h3
   ·simp at h3
   ·split at h3
    ·rename_i ha
     rw [List.all_eq_true] at ha
     exact absurd (ha 32 h4) (by decide)
    ·simp at h3
  ·split at h3
   ·simp at h3
   ·split at h3
    ·rename_i ha
     rw [List.all_eq_true] at ha
     exact absurd (ha 32 h) (by decide)
    ·simp at h3
theorem cutS_any (p : List UInt8) (hp : p.length ≤ 100000) : ∃ A B bl, A.length ≤ p.length ∧ B.length ≤ p.length ∧ Ctr Tryz.prog 38 [(.v (.string (bs p))), (.v (.string (⟨#[32]⟩)))] (fun rr => rr = ⟨.tup [(.v (.string (bs A))), (.v (.string (bs B))), (.v (.bool (bl)))], []⟩) ∧
  hedK n4P p = if bl = true ∧ (n4P A).2 = true ∧ (n4P B).2 = true then (((n4P A).1, (n4P B).1), true) else ((0, 0), false) := by
 by_cases h : (32 : UInt8) ∈ p
 ·obtain ⟨A, B, rfl, hA⟩ := split_first h
  simp only [List.length_append, List.length_cons] at hp
  refine ⟨A, B, true, by simp, by simp; omega, cutS_hit A B 32 hA (by omega), ?_⟩
  unfold hedK
  rw [cut1_hit hA]
  by_cases hB : (32 : UInt8) ∈ B
  ·have h1 : (n4P B).2 = false := numR_sp hB 4 (by omega)
   obtain ⟨A2, B2, rfl, hA2⟩ := split_first hB
   rw [cut1_hit hA2]
   obtain ⟨q, qs, hq⟩ := cutL_ne 32 B2 []
   rw [hq]
   simp [h1]
  ·rw [cut1_miss hB]
   simp
 ·refine ⟨p, [], false, Nat.le_refl _, by simp, cutS_miss p 32 h, ?_⟩
  unfold hedK
  rw [cut1_miss h]
  simp
end Go.Proofs.YtgiegokdcmkfeaaGreatDoor
/-
 Chapter 6, walks: a scheme read (the program).
-/
namespace Go.Proofs.YtgiegokdcmkfeaaGreatDoor
open Go Go.Vx
set_option maxRecDepth 20000
/-- a line, ended or not. -/
theorem cutSuf_any {ps : List (List UInt8)} {n : Nat} {x : List UInt8} (h : (finL ps)[n]? = some x) (hp : ∀ w ∈ ps, w.length ≤ 1000 ∧ ¬ (10 : UInt8) ∈ w) : ∃ p rest e, ps.drop n = p :: rest ∧ p.length ≤ 1000 ∧ Ctr Tryz.prog 37 [(.v (.string (bs x))), (.v (.string (⟨#[10]⟩)))] (fun rr => rr = ⟨.tup [(.v (.string (bs p))), (.v (.bool (e)))], []⟩) ∧ ((e = false ∧ rest = [] ∧ p ≠ []) ∨ (e = true ∧ ∃ q qs, rest = q :: qs)) := by
 obtain ⟨p, rest, hd, hc⟩ := finL_get h
 have hpm : p ∈ ps := List.mem_of_mem_drop (i := n) (by rw [hd]; simp)
 obtain ⟨h1, h2⟩ := hp p hpm
 rcases hc with ⟨rfl, h3, rfl⟩ | ⟨q, qs, rfl, rfl⟩
 ·exact ⟨x, [], false, hd, h1, cutSuf_no x h3 h2 (by omega), .inl ⟨rfl, rfl, h3⟩⟩
 ·exact ⟨p, q :: qs, true, hd, h1, cutSuf_yes p (by omega), .inr ⟨rfl, q, qs, rfl⟩⟩
theorem schG_one (num : List UInt8 → Int × Bool) (p : List UInt8) : schG num [p] = noneR 1 7 := rfl
theorem stN_0 (num : List UInt8 → Int × Bool) (ps : List (List UInt8)) : stN num ps 0 = (0, 0, [], []) := rfl
set_option maxHeartbeats 16000000 in
theorem parseS_s (s : List UInt8) (hs : (s.length ≤ 60000 ∧ ∀ w ∈ cutL 10 [] s, w.length ≤ 1000) ∨ 60000 < s.length ∧ s.length ≤ 1000000) : CtrK glob Tryz.prog 10 [(.v (.string (bs s)))] (fun rr => rr = ⟨.tup [.agg [(.v (.int .i64 ((parS n4P s).1.1))), (.v (.int .i64 ((parS n4P s).1.2.1))), .sl true 4 ((parS n4P s).1.2.2.map eC)], (.v (.int .i64 ((parS n4P s).2.1))), (.v (.int .i64 ((parS n4P s).2.2)))], []⟩) := by
 have hsz := bs_size s
 have encs := And.intro encs (And.intro lnY_def sxFb)
 refine CtrK.of (rs := [.cell 2 29, .cell 3 3, .cell 4 30]) Tok true Tryz.func10 rfl rfl rfl rfl (by simp [ofDL]) (fun w0 kp hgl => ?_)
 simp only [↓sx0, sxE, encs, sevalprocAttr]
 refine BrW.dec (fun hbig => ?_) (fun hbig => ?_)
 ·rw [show parS n4P s = noneR 0 8 by rw [parS, if_pos (by omega)]]
  simp only [↓sx0, sxE, encs, sevalprocAttr]
  refine EndW.fn ?_ ?_ <;> simp only [sx4, encs, kpLL_map, sxR, sevalprocAttr] <;> (try simp [noneR]) <;> (try omega)
 ·have hs : s.length ≤ 60000 ∧ ∀ w ∈ cutL 10 [] s, w.length ≤ 1000 := by
   rcases hs with hs | hs
   ·exact hs
   ·omega
  obtain ⟨hs, hs2⟩ := hs
  rw [show parS n4P s = schG n4P (cutL 10 [] s) by rw [parS, if_neg (by omega)]]
  simp only [↓sx0, sxE, encs, sevalprocAttr]
  refine CallI.inl (rs := [.tmp 2]) Tok Tryz.func36 rfl rfl rfl rfl (by simp) (fun ρ σ μ fr lp => ?_)
  simp only [↓sx0, sxE, encs, sevalprocAttr]
  have hit := linesIt_s s (by omega)
  obtain ⟨ps, hps⟩ : ∃ ps, ps = cutL 10 [] s := ⟨_, rfl⟩
  have hln : ∀ w ∈ ps, w.length ≤ 1000 ∧ ¬ (10 : UInt8) ∈ w := fun w hw => by
   rw [hps] at hw
   exact ⟨hs2 w hw, cutL_not (by simp) hw⟩
  have hlns : lnsL s = finL ps := by rw [lnsL, hps]
  have hpl : ps.length ≤ s.length + 1 := by rw [hps, cutL_len]; have := List.count_le_length (a := (10 : UInt8)) (l := s); omega
  have hpn : 0 < ps.length := by rw [hps, cutL_len]; omega
  rw [← hps]
  rw [hlns] at hit
  have encs := And.intro encs (stN_0 n4P ps)
  refine RangeW.itB (k := 7) rfl Tok (fun _ => rfl) (fun hro => by first | rfl | exact (by rw [hro] at *; contradiction)) hit [(2, .box 0 0), (3, .box 1 0), (4, .box 2 0), (5, .box 3 0), (6, .box 4 0), (7, .box 5 0), (8, .box 6 0), (26, .clo 74 [.box 7 0])]
   [some ⟨29, [(.v (.int .i64 0)), (.v (.int .i64 0)), .v (.slice none 0 0)]⟩, some ⟨3, [(.v (.int .i64 0))]⟩, some ⟨30, [(.v (.int .i64 0))]⟩, some ⟨29, [(.v (.int .i64 0)), (.v (.int .i64 0)), .v (.slice none 0 0)]⟩, some ⟨29, [(.v (.int .i64 0)), (.v (.int .i64 0)), .row 0]⟩, some ⟨96, [.row 1]⟩, some ⟨3, [(.v (.int .i64 0))]⟩, some ⟨9, [(.v (.string (bs s)))]⟩]
   (fun ys => [some ⟨29, [(.v (.int .i64 0)), (.v (.int .i64 0)), .v (.slice none 0 0)]⟩, some ⟨3, [(.v (.int .i64 0))]⟩, some ⟨30, [(.v (.int .i64 0))]⟩, some ⟨29, [(.v (.int .i64 0)), (.v (.int .i64 0)), .v (.slice none 0 0)]⟩, some ⟨29, [(.v (.int .i64 ((stN n4P ps ys.length).1))), (.v (.int .i64 ((stN n4P ps ys.length).2.1))), .row 0]⟩, some ⟨96, [.row 1]⟩, some ⟨3, [(.v (.int .i64 ((ys.length : Int))))]⟩, none])
   (fun ys => [.own 63 4 ((stN n4P ps ys.length).2.2.1.map eC), .own 3 1 ((stN n4P ps ys.length).2.2.2.map eI)]) (fun ys => JS n4P ps ys.length) ⟨hpn, .inl rfl, by simp [stN], by simp [stN]⟩ (by simp only [sx2, encs, sxR, sevalprocAttr] <;> (try simp) <;> (try omega)) rfl rfl rfl (by simp only [sx2, encs, sxR, List.length_nil] <;> rfl) rfl (by simp [lnY]) ?_ (fun hJall => ?_)
  ·rintro pre d hpre ⟨hn, hJ, hb1, hb2⟩ ρ σ μ ho' hy hs'
   obtain ⟨yd', ro, mks, fr, lp, sz⟩ := ho'
   obtain ⟨qq, hq⟩ := hpre
   have hget : ((finL ps).map lnY)[pre.length]? = some d := by rw [← hq]; simp
   rw [List.getElem?_map] at hget
   obtain ⟨x, hx, rfl⟩ := Option.map_eq_some_iff.1 hget
   obtain ⟨p, rest, e, hdr, hp1, cS, hc⟩ := cutSuf_any hx hln
   have hlen : (pre ++ [lnY x]).length = pre.length + 1 := by simp
   rw [hlen]
   generalize hnn : pre.length = n at *
   have hgd : ps.getD n [] = p := by
    have := congrArg (fun l => l[0]?) hdr
    simp at this
    rw [List.getD_eq_getElem?_getD, this]; rfl
   rw [lnY_def]
   simp only [↓sx0, sxE, encs, sevalprocAttr]
   intro fr' hfr
   repeat ((with_reducible refine Vc.go ?_ fun _ => ?_); (focus (first | omega | (simp only [InK]; omega) | (simp [InK]; done) | (simp [InK]; omega))); simp only [↓sx0, sxE, encs, sevalprocAttr])
   refine CallI.fn (cS) (by simp only [sx3, encs, sxR, sevalprocAttr] <;> (try simp) <;> (try rfl)) ?_
   simp only [↓sx0, sxE, encs, sevalprocAttr]
   rcases Nat.eq_zero_or_pos n with h0 | hpos
   ·subst h0
    obtain ⟨A, B, bl, lA, lB, cC, hhd⟩ := cutS_any p (by omega)
    have cA := num4 A (by omega)
    have cB := num4 B (by omega)
    have h1 : stN n4P ps 1 = ((hedK n4P p).1.1, (hedK n4P p).1.2, [], []) := by rw [stN, hgd]
    have hps0 : ps = p :: rest := by simpa using hdr
    have hG : schG n4P ps = schG n4P (p :: rest) := by rw [← hps0]
    rw [h1]
    generalize n4P A = na at *
    generalize n4P B = nb at *
    refine BrW.yes (by simp) ?_
    simp only [↓sx0, sxE, encs, sevalprocAttr]
    refine CallI.fn (cC) (by simp only [sx3, encs, sxR, sevalprocAttr] <;> (try simp) <;> (try rfl)) ?_
    simp only [↓sx0, sxE, encs, sevalprocAttr]
    refine CallI.fnKI (cA) glob_ok hgl rfl hfr (by simp only [sx3, encs, sxR, sevalprocAttr] <;> (try simp) <;> (try rfl)) ?_
    simp only [↓sx0, sxE, encs, sevalprocAttr]
    rcases hc with ⟨rfl, rfl, hpne⟩ | ⟨rfl, q, qs, rfl⟩
    ·rw [hG, schG_one]
     simp only [↓sx0, sxE, encs, sevalprocAttr]
     refine CallI.fnKI (cB) glob_ok hgl rfl hfr (by simp only [sx3, encs, sxR, sevalprocAttr] <;> (try simp) <;> (try rfl)) ?_
     simp only [↓sx0, sxE, encs, sevalprocAttr]
     (try repeat ((with_reducible refine Vc.go ?_ fun _ => ?_); (focus (first | omega | (simp only [InK]; omega) | (simp [InK]; done) | (simp [InK]; omega))); simp only [↓sx0, sxE, encs, sevalprocAttr]))
     refine DrawW.plan Tok mixed (.q 0 <| .q 1 <| .e 2 [1] <| .e 3 [] <| .e 4 [] <| .done) (by kernel_rfl) (by kernel_rfl) ?_
     simp only [↓sx0, sxE, encs, sevalprocAttr]
     (try repeat ((with_reducible refine Vc.go ?_ fun _ => ?_); (focus (first | omega | (simp only [InK]; omega) | (simp [InK]; done) | (simp [InK]; omega))); simp only [↓sx0, sxE, encs, sevalprocAttr]))
     refine EndW.fn ?_ ?_ <;> simp only [sx4, encs, kpLL_map, sxR, sevalprocAttr] <;> (try simp [noneR]) <;> (try omega)
    ·rw [schG] at hG
     simp only [↓sx0, sxE, encs, sevalprocAttr]
     refine BrW.of (fun h2 => ?_) (fun h2 => ?_)
     ·simp only [↓sx0, sxE, encs, sevalprocAttr]
      refine CallI.fnKI (cB) glob_ok hgl rfl hfr (by simp only [sx3, encs, sxR, sevalprocAttr] <;> (try simp) <;> (try rfl)) ?_
      simp only [↓sx0, sxE, encs, sevalprocAttr]
      refine BrW.of (fun h3 => ?_) (fun h3 => ?_)
      ·simp only [↓sx0, sxE, encs, sevalprocAttr]
       refine BrW.of (fun h4 => ?_) (fun h4 => ?_)
       ·have hhe : hedK n4P p = ((na.1, nb.1), true) := by rw [hhd, if_pos ⟨h2, h3, h4⟩]
        rw [hhe] at hG h1 ⊢
        simp only [↓sx0, sxE, encs, sevalprocAttr]
        refine ⟨⟨?_, .inr ?_, ?_, ?_⟩, ?_⟩
        ·have := congrArg List.length hps0
         simp at this; omega
        ·rw [hG, if_pos rfl, h1, hps0]; rfl
        ·rw [h1]; simp
        ·rw [h1]; simp
        ·simp only [sx2, encs, sxR, sevalprocAttr] <;> (try simp) <;> (try omega)
       ·have hz : (hedK n4P p).2 = false := by rw [hhd, if_neg (by simp [h4])]
        rw [if_neg (by simp [hz])] at hG
        rw [hG]
        simp only [↓sx0, sxE, encs, sevalprocAttr]
        (try repeat ((with_reducible refine Vc.go ?_ fun _ => ?_); (focus (first | omega | (simp only [InK]; omega) | (simp [InK]; done) | (simp [InK]; omega))); simp only [↓sx0, sxE, encs, sevalprocAttr]))
        refine DrawW.plan Tok mixed (.q 0 <| .q 1 <| .e 2 [1] <| .e 3 [] <| .e 4 [] <| .done) (by kernel_rfl) (by kernel_rfl) ?_
        simp only [↓sx0, sxE, encs, sevalprocAttr]
        (try repeat ((with_reducible refine Vc.go ?_ fun _ => ?_); (focus (first | omega | (simp only [InK]; omega) | (simp [InK]; done) | (simp [InK]; omega))); simp only [↓sx0, sxE, encs, sevalprocAttr]))
        refine EndW.fn ?_ ?_ <;> simp only [sx4, encs, kpLL_map, sxR, sevalprocAttr] <;> (try simp [noneR]) <;> (try omega)
      ·have hz : (hedK n4P p).2 = false := by rw [hhd, if_neg (by simp [h3])]
       rw [if_neg (by simp [hz])] at hG
       rw [hG]
       simp only [↓sx0, sxE, encs, sevalprocAttr]
       (try repeat ((with_reducible refine Vc.go ?_ fun _ => ?_); (focus (first | omega | (simp only [InK]; omega) | (simp [InK]; done) | (simp [InK]; omega))); simp only [↓sx0, sxE, encs, sevalprocAttr]))
       refine DrawW.plan Tok mixed (.q 0 <| .q 1 <| .e 2 [1] <| .e 3 [] <| .e 4 [] <| .done) (by kernel_rfl) (by kernel_rfl) ?_
       simp only [↓sx0, sxE, encs, sevalprocAttr]
       (try repeat ((with_reducible refine Vc.go ?_ fun _ => ?_); (focus (first | omega | (simp only [InK]; omega) | (simp [InK]; done) | (simp [InK]; omega))); simp only [↓sx0, sxE, encs, sevalprocAttr]))
       refine EndW.fn ?_ ?_ <;> simp only [sx4, encs, kpLL_map, sxR, sevalprocAttr] <;> (try simp [noneR]) <;> (try omega)
     ·have hz : (hedK n4P p).2 = false := by rw [hhd, if_neg (by simp [h2])]
      rw [if_neg (by simp [hz])] at hG
      rw [hG]
      simp only [↓sx0, sxE, encs, sevalprocAttr]
      refine CallI.fnKI (cB) glob_ok hgl rfl hfr (by simp only [sx3, encs, sxR, sevalprocAttr] <;> (try simp) <;> (try rfl)) ?_
      simp only [↓sx0, sxE, encs, sevalprocAttr]
      (try repeat ((with_reducible refine Vc.go ?_ fun _ => ?_); (focus (first | omega | (simp only [InK]; omega) | (simp [InK]; done) | (simp [InK]; omega))); simp only [↓sx0, sxE, encs, sevalprocAttr]))
      refine DrawW.plan Tok mixed (.q 0 <| .q 1 <| .e 2 [1] <| .e 3 [] <| .e 4 [] <| .done) (by kernel_rfl) (by kernel_rfl) ?_
      simp only [↓sx0, sxE, encs, sevalprocAttr]
      (try repeat ((with_reducible refine Vc.go ?_ fun _ => ?_); (focus (first | omega | (simp only [InK]; omega) | (simp [InK]; done) | (simp [InK]; omega))); simp only [↓sx0, sxE, encs, sevalprocAttr]))
      refine EndW.fn ?_ ?_ <;> simp only [sx4, encs, kpLL_map, sxR, sevalprocAttr] <;> (try simp [noneR]) <;> (try omega)
   ·obtain ⟨m, rfl⟩ : ∃ m, n = m + 1 := ⟨n - 1, by omega⟩
    have cR := rowOf_s p (by omega)
    have hrl := rowG_len n4P (cutL 32 [] p) []
    have hcl := cutL_len 32 p []
    have hcc := List.count_le_length (a := (32 : UInt8)) (l := p)
    have hst2 : stN n4P ps (m + 1 + 1) = ((stN n4P ps (m + 1)).1, (stN n4P ps (m + 1)).2.1, (stN n4P ps (m + 1)).2.2.1 ++ (rowG n4P (cutL 32 [] p) []).1, (stN n4P ps (m + 1)).2.2.2 ++ [((rowG n4P (cutL 32 [] p) []).1.length : Int)]) := by
     rw [stN, hgd]
    have hJ' : schG n4P ps = schL n4P (stN n4P ps (m + 1)).1 (stN n4P ps (m + 1)).2.1 ((m + 1 : Nat) + 1) (stN n4P ps (m + 1)).2.2.1 (stN n4P ps (m + 1)).2.2.2 (p :: rest) := by
     rcases hJ with h | h
     ·omega
     ·rw [h, hdr]
    rw [hst2]
    have hrl2 : (rowG n4P (cutL 32 [] p) []).1.length ≤ 1001 := by simp only [List.length_nil] at hrl; omega
    clear hrl
    rcases hc with ⟨rfl, rfl, hpne⟩ | ⟨rfl, q, qs, rfl⟩
    ·rw [schL, if_neg hpne] at hJ'
     rw [hJ']
     generalize rowG n4P (cutL 32 [] p) [] = rg at *
     generalize stN n4P ps (m + 1) = st at *
     refine BrW.no (by omega) ?_
     simp only [↓sx0, sxE, encs, sevalprocAttr]
     refine CallI.fnKI (cR) glob_ok hgl rfl hfr (by simp only [sx3, encs, sxR, sevalprocAttr] <;> (try simp) <;> (try rfl)) ?_
     simp only [↓sx0, sxE, encs, sevalprocAttr]
     refine DrawW.plan Tok mixed (.q 0 <| .q 1 <| .q 2 <| .q 4 <| .q 5 <| .q 6 <| .e2 3 [4] (.q 9 <| .e 7 [1, 4] <| .e 8 [] <| .e 10 [] <| .e 11 [] <| .done) 7 [1, 4] (.e 3 [4] <| .q 9 <| .e 8 [] <| .e 10 [] <| .e 11 [] <| .done)) (by kernel_rfl) (by kernel_rfl) ?_
     simp only [↓sx0, sxE, encs, sevalprocAttr]
     refine ⟨?_, ?_⟩
     all_goals (
      skip
      repeat ((with_reducible refine Vc.go ?_ fun _ => ?_); (focus (first | omega | (simp only [InK]; omega) | (simp [InK]; done) | (simp [InK]; omega))); simp only [↓sx0, sxE, encs, sevalprocAttr])
      refine DrawW.plan Tok mixed (.q 0 <| .q 1 <| .e 2 [1] <| .e 3 [] <| .e 4 [] <| .done) (by kernel_rfl) (by kernel_rfl) ?_
      simp only [↓sx0, sxE, encs, sevalprocAttr]
      (try repeat ((with_reducible refine Vc.go ?_ fun _ => ?_); (focus (first | omega | (simp only [InK]; omega) | (simp [InK]; done) | (simp [InK]; omega))); simp only [↓sx0, sxE, encs, sevalprocAttr]))
      refine EndW.fn ?_ ?_ <;> simp only [sx4, encs, kpLL_map, sxR, sevalprocAttr] <;> (try simp [noneR]) <;> (try omega))
    ·rw [schL] at hJ'
     generalize rowG n4P (cutL 32 [] p) [] = rg at *
     generalize stN n4P ps (m + 1) = st at *
     refine BrW.no (by omega) ?_
     simp only [↓sx0, sxE, encs, sevalprocAttr]
     refine CallI.fnKI (cR) glob_ok hgl rfl hfr (by simp only [sx3, encs, sxR, sevalprocAttr] <;> (try simp) <;> (try rfl)) ?_
     simp only [↓sx0, sxE, encs, sevalprocAttr]
     refine DrawW.plan Tok mixed (.q 0 <| .q 1 <| .q 2 <| .q 4 <| .q 5 <| .q 6 <| .e2 3 [4] (.q 9 <| .e 7 [1, 4] <| .e 8 [] <| .e 10 [] <| .e 11 [] <| .done) 7 [1, 4] (.e 3 [4] <| .q 9 <| .e 8 [] <| .e 10 [] <| .e 11 [] <| .done)) (by kernel_rfl) (by kernel_rfl) ?_
     simp only [↓sx0, sxE, encs, sevalprocAttr]
     refine ⟨?_, ?_⟩
     all_goals (
      skip
      repeat ((with_reducible refine Vc.go ?_ fun _ => ?_); (focus (first | omega | (simp only [InK]; omega) | (simp [InK]; done) | (simp [InK]; omega))); simp only [↓sx0, sxE, encs, sevalprocAttr])
      refine BrW.of (fun h2 => ?_) (fun h2 => ?_)
      ·rw [if_pos h2] at hJ'
       simp only [↓sx0, sxE, encs, sevalprocAttr]
       refine ⟨⟨?_, .inr ?_, ?_, ?_⟩, ?_⟩
       ·have := congrArg List.length hdr
        simp at this; omega
       ·rw [hJ', ← List.drop_drop, hdr, hst2]; rfl
       ·rw [hst2]; simp; omega
       ·rw [hst2]; simp; omega
       ·simp only [sx2, encs, sxR, sevalprocAttr] <;> (try simp) <;> (try omega)
        rfl
      ·rw [if_neg (by simp [h2])] at hJ'
       rw [hJ']
       simp only [↓sx0, sxE, encs, sevalprocAttr]
       refine DrawW.plan Tok mixed (.q 0 <| .q 1 <| .e 2 [1] <| .e 3 [] <| .e 4 [] <| .done) (by kernel_rfl) (by kernel_rfl) ?_
       simp only [↓sx0, sxE, encs, sevalprocAttr]
       (try repeat ((with_reducible refine Vc.go ?_ fun _ => ?_); (focus (first | omega | (simp only [InK]; omega) | (simp [InK]; done) | (simp [InK]; omega))); simp only [↓sx0, sxE, encs, sevalprocAttr]))
       refine EndW.fn ?_ ?_ <;> simp only [sx4, encs, kpLL_map, sxR, sevalprocAttr] <;> (try simp [noneR]) <;> (try omega))
  ·obtain ⟨hn, hJ, hb1, hb2⟩ := hJall
   rw [List.length_map] at hn hJ hb1 hb2 ⊢
   have hend := finL_end hn
   generalize hnn : (finL ps).length = n at *
   rcases Nat.eq_zero_or_pos n with h0 | hpos
   ·subst h0
    have hps0 : ps = [[]] := by simpa using hend
    rw [hps0, schG_one]
    simp only [↓sx0, sxE, encs, sevalprocAttr]
    refine EndW.fn ?_ ?_ <;> simp only [sx4, encs, kpLL_map, sxR, sevalprocAttr] <;> (try simp [noneR]) <;> (try omega)
   ·have hJ' : schG n4P ps = finS (stN n4P ps n).1 (stN n4P ps n).2.1 (stN n4P ps n).2.2.1 (stN n4P ps n).2.2.2 := by
     rcases hJ with h | h
     ·omega
     ·rw [h, hend, schL, if_pos rfl]
    rw [hJ']
    generalize stN n4P ps n = st at *
    obtain ⟨c, r, cells, ws⟩ := st
    simp only at hb1 hb2 ⊢
    simp only [↓sx0, sxE, encs, sevalprocAttr]
    refine BrW.no (by omega) ?_
    simp only [↓sx0, sxE, encs, sevalprocAttr]
    by_cases hw : (ws.length : Int) = r
    ·refine BrW.no (by simpa using hw) ?_
     simp only [↓sx0, sxE, encs, sevalprocAttr]
     refine CallI.fn (containsW_s false c r cells ws (by omega)) (by simp only [sx3, encs, sxR, sevalprocAttr] <;> (try simp) <;> (try rfl)) ?_
     simp only [↓sx0, sxE, encs, sevalprocAttr]
     refine BrW.of (fun h2 => ?_) (fun h2 => ?_)
     ·rw [finS, if_pos (.inr h2)]
      simp only [↓sx0, sxE, encs, sevalprocAttr]
      refine EndW.fn ?_ ?_ <;> simp only [sx4, encs, kpLL_map, sxR, sevalprocAttr] <;> (try simp [noneR]) <;> (try omega)
     ·rw [finS, if_neg (by simp [hw, h2])]
      simp only [↓sx0, sxE, encs, sevalprocAttr]
      refine CallI.fn (check_s false c r cells) (by simp only [sx3, encs, sxR, sevalprocAttr] <;> (try simp) <;> (try rfl)) ?_
      simp only [↓sx0, sxE, encs, sevalprocAttr]
      refine BrW.dec (fun he => ?_) (fun he => ?_)
      ·rw [if_neg he]
       simp only [↓sx0, sxE, encs, sevalprocAttr]
       refine EndW.fn ?_ ?_ <;> simp only [sx4, encs, kpLL_map, sxR, sevalprocAttr] <;> (try simp [noneR]) <;> (try omega)
      ·rw [if_pos (Decidable.not_not.1 he)]
       simp only [↓sx0, sxE, encs, sevalprocAttr]
       refine EndW.fn ?_ ?_ <;> simp only [sx4, encs, kpLL_map, sxR, sevalprocAttr] <;> (try simp) <;> (try omega)
    ·refine BrW.yes hw ?_
     rw [finS, if_pos (.inl hw)]
     simp only [↓sx0, sxE, encs, sevalprocAttr]
     refine EndW.fn ?_ ?_ <;> simp only [sx4, encs, kpLL_map, sxR, sevalprocAttr] <;> (try simp [noneR]) <;> (try omega)
end Go.Proofs.YtgiegokdcmkfeaaGreatDoor
/-
 Chapter 6, walks: numbers read (reference).
-/
namespace Go.Proofs.YtgiegokdcmkfeaaGreatDoor
open Go Go.Vx
set_option maxRecDepth 20000
def nsR (ws : List (List UInt8)) (cnt : Nat) : List Int × Bool := if (ws.all fun w => (n4R w).2) = true then (ws.map fun w => (n4R w).1, decide (ws.length = cnt)) else ([], false)
def nsT (ws : List (List UInt8)) (k : Nat) : List Int := (ws.take k).map fun w => (n4R w).1
theorem nsT_succ {ws : List (List UInt8)} {k : Nat} (h : k < ws.length) : nsT ws (k + 1) = nsT ws k ++ [(n4R ws[k]).1] := by
 rw [nsT, List.take_succ_eq_append_getElem h, List.map_append]; rfl
theorem nsT_len {ws : List (List UInt8)} {k : Nat} (h : k ≤ ws.length) : (nsT ws k).length = k := by simp [nsT]; omega
set_option maxHeartbeats 4000000 in
theorem numbers_R (b : Bool) (ws : List (List UInt8)) (cnt : Nat) (hw : ∀ w ∈ ws, w.length ≤ 100000) (hl : ws.length ≤ 100001) (hc : cnt ≤ 10) : Ctr Tryz.prog 59 [.sl b 1 (ws.map eT), (.v (.int .i64 ((cnt : Int))))] (fun rr => rr = ⟨.tup [.sl true 1 ((nsR ws cnt).1.map eI), (.v (.bool ((nsR ws cnt).2)))], []⟩) := by
 have encs := And.intro encs (And.intro eT_def (show nsT ws 0 = [] from rfl))
 refine Ctr.of (rs := [.tmp 4, .tmp 5]) Tok true Tryz.func59 rfl rfl rfl rfl (by simp [ofDL]) (fun w0 kp => ?_)
 simp only [↓sx0, sxE, encs, sevalprocAttr]
 refine LoopW.comp [0, 1, 6, 7] (by simp only [sx2, encs, sxR, sevalprocAttr] <;> (try simp) <;> (try omega)) ?_
 simp only [sx2, sxR, sevalprocAttr]
 refine LoopW.up Tok (fun k : Nat => [(6, .row 0), (7, (.v (.int .i64 ((k : Int)))))]) (fun k => []) (fun k => []) (fun k => [.own 3 1 ((nsT ws k).map eI)]) (fun k => k ≤ ws.length ∧ (ws.take k).all (fun w => (n4R w).2) = true) (fun k => ws.length - k) (0) (by simp only [sx2, encs, sxR, sevalprocAttr] <;> (try simp [nsT, encs]) <;> (try omega)) ?_ ?_
 ·exact ⟨by omega, by simp⟩
 rintro k ⟨hk, hall⟩
 have hacc := nsT_len hk
 simp only [↓sx0, sxE, encs, sevalprocAttr]
 refine BrW.dec (fun hlt => ?_) (fun hlt => ?_)
 ·simp only [↓sx0, sxE, encs, sevalprocAttr]
  have hkl : k < ws.length := by omega
  have hsuc := nsT_succ hkl
  refine IxW.nat hkl ?_
  have hwk := hw _ (List.getElem_mem hkl)
  have cN : Ctr Tryz.prog 87 [(.v (.string (bs ws[k]))), (.v (.int .i64 4))] (fun rr => rr = ⟨.tup [(.v (.int .i64 ((n4R ws[k]).1))), (.v (.bool ((n4R ws[k]).2)))], []⟩) := number_R ws[k] 4 (by omega) (by omega)
  simp only [↓sx0, sxE, encs, sevalprocAttr]
  refine CallI.fn (cN) (by simp only [sx3, encs, sxR, sevalprocAttr] <;> (try simp) <;> (try rfl)) ?_
  simp only [↓sx0, sxE, encs, sevalprocAttr]
  refine BrW.of (fun ho => ?_) (fun ho => ?_)
  ·simp only [↓sx0, sxE, encs, sevalprocAttr]
   repeat ((with_reducible refine Vc.go ?_ fun _ => ?_); (focus (first | omega | (simp only [InK]; omega) | (simp [InK]; done) | (simp [InK]; omega))); simp only [↓sx0, sxE, encs, sevalprocAttr])
   refine ⟨k + 1, StLe.auto (by simp only [sx2, encs, sxR, sevalprocAttr] <;> (try simp [hsuc, encs]) <;> (try omega)), ?_, ?_⟩
   ·refine ⟨hkl, ?_⟩
    rw [List.take_succ_eq_append_getElem hkl, List.all_append, hall]; simp [ho]
   ·omega
  ·have hne : ¬ (ws.all fun w => (n4R w).2) = true := fun h => by
    rw [List.all_eq_true] at h
    have := h _ (List.getElem_mem hkl)
    rw [ho] at this; cases this
   rw [show nsR ws cnt = ([], false) by rw [nsR, if_neg hne]]
   simp only [↓sx0, sxE, encs, sevalprocAttr]
   refine EndW.fn ?_ ?_ <;> simp only [sx4, encs, kpLL_map, sxR, sevalprocAttr] <;> (try simp) <;> (try omega)
 ·have hke : k = ws.length := by omega
  subst hke
  rw [List.take_length] at hall
  rw [show nsR ws cnt = (nsT ws ws.length, decide (ws.length = cnt)) by rw [nsR, if_pos hall, nsT, List.take_length]]
  have hd : decide ((ws.length : Int) = (cnt : Int)) = decide (ws.length = cnt) := by
   by_cases h : ws.length = cnt <;> simp [h] <;> omega
  simp only [↓sx0, sxE, encs, sevalprocAttr]
  rw [hacc]
  refine EndW.fn ?_ ?_ <;> simp only [sx4, encs, kpLL_map, sxR, sevalprocAttr] <;> (try simp [hd]) <;> (try omega)
theorem hed_ns (p : List UInt8) : (nsR (cutL 32 [] p) 2).2 = (hedK n4R p).2 ∧ ((hedK n4R p).2 = true → (nsR (cutL 32 [] p) 2).1 = [(hedK n4R p).1.1, (hedK n4R p).1.2]) := by
 unfold hedK nsR
 rcases cutL 32 [] p with _ | ⟨a, _ | ⟨b, _ | ⟨c, r⟩⟩⟩
 ·simp
 ·cases h1 : (n4R a).2 <;> simp [h1]
 ·cases h1 : (n4R a).2 <;> cases h2 : (n4R b).2 <;> simp [h1, h2]
 ·simp only [List.length_cons]
  split <;> simp
theorem cel_ns (x : List UInt8) : (nsR (cutL 47 [] x) 4).2 = (celK n4R x).2 ∧ ((celK n4R x).2 = true → (nsR (cutL 47 [] x) 4).1 = [(celK n4R x).1.front, (celK n4R x).1.fturn, (celK n4R x).1.back, (celK n4R x).1.bturn]) := by
 unfold celK nsR
 rcases cutL 47 [] x with _ | ⟨a, _ | ⟨b, _ | ⟨c, _ | ⟨d, _ | ⟨e, r⟩⟩⟩⟩⟩
 ·simp
 ·cases h1 : (n4R a).2 <;> simp [h1]
 ·cases h1 : (n4R a).2 <;> cases h2 : (n4R b).2 <;> simp [h1, h2]
 ·cases h1 : (n4R a).2 <;> cases h2 : (n4R b).2 <;> cases h3 : (n4R c).2 <;> simp [h1, h2, h3]
 ·cases h1 : (n4R a).2 <;> cases h2 : (n4R b).2 <;> cases h3 : (n4R c).2 <;> cases h4 : (n4R d).2 <;> simp [h1, h2, h3, h4]
 ·simp only [List.length_cons]
  split <;> simp
end Go.Proofs.YtgiegokdcmkfeaaGreatDoor
/-
 Chapter 6, walks: a scheme read (reference).
-/
namespace Go.Proofs.YtgiegokdcmkfeaaGreatDoor
open Go Go.Vx
set_option maxRecDepth 20000
def fitB (ps : List (List UInt8)) (i : Nat) : Bool := (stN n4R ps i).2.2.2.all fun n => decide (n = (stN n4R ps i).1)
theorem stR_0 (ps : List (List UInt8)) : stN n4R ps 0 = (0, 0, [], []) ∧ fitB ps 0 = true ∧ ([] : List Cell).map eC = [] := ⟨rfl, rfl, rfl⟩
theorem schR_one (num : List UInt8 → Int × Bool) (p : List UInt8) : schG num [p] = noneR 1 7 := rfl
set_option maxHeartbeats 16000000 in
theorem parseSR_s (s : List UInt8) (hs : (s.length ≤ 60000 ∧ ∀ w ∈ cutL 10 [] s, w.length ≤ 1000) ∨ 60000 < s.length ∧ s.length ≤ 1000000) : Ctr Tryz.prog 22 [(.v (.string (bs s)))] (fun rr => rr = ⟨.tup [.agg [(.v (.int .i64 ((parS n4R s).1.1))), (.v (.int .i64 ((parS n4R s).1.2.1))), .sl true 4 ((parS n4R s).1.2.2.map eC)], (.v (.int .i64 ((parS n4R s).2.1))), (.v (.int .i64 ((parS n4R s).2.2)))], []⟩) := by
 have hsz := bs_size s
 refine Ctr.of (rs := [.cell 2 29, .tmp 3, .tmp 4]) Tok true Tryz.func22 rfl rfl rfl rfl (by simp [ofDL]) (fun w0 kp => ?_)
 simp only [↓sx0, sxE, encs, sevalprocAttr]
 refine BrW.dec (fun hbig => ?_) (fun hbig => ?_)
 ·rw [show parS n4R s = noneR 0 8 by rw [parS, if_pos (by omega)]]
  simp only [↓sx0, sxE, encs, sevalprocAttr]
  refine EndW.fn ?_ ?_ <;> simp only [sx4, encs, kpLL_map, sxR, sevalprocAttr] <;> (try simp [noneR]) <;> (try omega)
 ·have hs : s.length ≤ 60000 ∧ ∀ w ∈ cutL 10 [] s, w.length ≤ 1000 := by
   rcases hs with hs | hs
   ·exact hs
   ·omega
  obtain ⟨hs, hs2⟩ := hs
  rw [show parS n4R s = schG n4R (cutL 10 [] s) by rw [parS, if_neg (by omega)]]
  have hcut := cut_R s 10 (by omega)
  obtain ⟨ps, hps⟩ : ∃ ps, ps = cutL 10 [] s := ⟨_, rfl⟩
  have hln : ∀ w ∈ ps, w.length ≤ 1000 := fun w hw => by
   rw [hps] at hw
   exact hs2 w hw
  have hpl : ps.length ≤ s.length + 1 := by rw [hps, cutL_len]; have := List.count_le_length (a := (10 : UInt8)) (l := s); omega
  have hpn : 0 < ps.length := by rw [hps, cutL_len]; omega
  rw [← hps] at hcut ⊢
  have encs := And.intro encs (And.intro eT_def (stR_0 ps))
  simp only [↓sx0, sxE, encs, sevalprocAttr]
  refine CallI.fn (hcut) (by simp only [sx3, encs, sxR, sevalprocAttr] <;> (try simp) <;> (try rfl)) ?_
  simp only [↓sx0, sxE, encs, sevalprocAttr]
  refine LoopW.comp [2, 5, 6, 7, 8, 9] (by simp only [sx2, encs, sxR, sevalprocAttr] <;> (try simp) <;> (try omega)) ?_
  simp only [sx2, sxR, sevalprocAttr]
  refine LoopW.up Tok (fun i : Nat => [(8, (.v (.bool (fitB ps i)))), (9, (.v (.int .i64 ((i : Int)))))]) (fun i => [(2, [(.v (.int .i64 ((stN n4R ps i).1))), (.v (.int .i64 ((stN n4R ps i).2.1))), .row 0])]) (fun i => []) (fun i => [.own 63 4 ((stN n4R ps i).2.2.1.map eC)]) (fun i => JS n4R ps i) (fun i => ps.length - i) (0) (by simp only [sx2, encs, sxR, sevalprocAttr] <;> (try simp) <;> (try omega)) ?_ ?_
  ·exact ⟨hpn, .inl rfl, by simp [stN], by simp [stN]⟩
  rintro i ⟨hi, hJ, hb1, hb2⟩
  have hdr : ps.drop i = ps[i] :: ps.drop (i + 1) := List.drop_eq_getElem_cons hi
  have hgd : ps.getD i [] = ps[i] := by rw [List.getD_eq_getElem?_getD, List.getElem?_eq_getElem hi]; rfl
  have hp1 := hln _ (List.getElem_mem hi)
  simp only [↓sx0, sxE, encs, sevalprocAttr]
  repeat ((with_reducible refine Vc.go ?_ fun _ => ?_); (focus (first | omega | (simp only [InK]; omega) | (simp [InK]; done) | (simp [InK]; omega))); simp only [↓sx0, sxE, encs, sevalprocAttr])
  refine BrW.dec (fun hlt => ?_) (fun hlt => ?_)
  ·obtain ⟨q, qs, hq⟩ : ∃ q qs, ps.drop (i + 1) = q :: qs := ⟨_, _, List.drop_eq_getElem_cons (show i + 1 < ps.length by omega)⟩
   rw [hdr, hq] at hJ
   simp only [↓sx0, sxE, encs, sevalprocAttr]
   refine IxW.nat hi ?_
   generalize hpe : ps[i] = p at *
   have hcl := cutL_len 32 p []
   have hcc := List.count_le_length (a := (32 : UInt8)) (l := p)
   have hmem := cutL_mem 32 p []
   simp only [List.length_nil, Nat.zero_add] at hmem
   simp only [↓sx0, sxE, encs, sevalprocAttr]
   refine CallI.fn (cut_R p 32 (by omega)) (by simp only [sx3, encs, sxR, sevalprocAttr] <;> (try simp) <;> (try rfl)) ?_
   simp only [↓sx0, sxE, encs, sevalprocAttr]
   rcases Nat.eq_zero_or_pos i with h0 | hpos
   ·subst h0
    have cN := numbers_R true (cutL 32 [] p) 2 (fun w hw => by have := hmem w hw; omega) (by omega) (by omega)
    have hns := hed_ns p
    have hps0 : ps = p :: q :: qs := by have := hdr; rw [hq] at this; simpa using this
    have h1 : stN n4R ps 1 = ((hedK n4R p).1.1, (hedK n4R p).1.2, [], []) := by rw [stN, hgd]
    have h2 : fitB ps 1 = true := by rw [fitB, h1]; rfl
    have hG : schG n4R ps = schG n4R (p :: q :: qs) := by rw [← hps0]
    rw [schG] at hG
    generalize nsR (cutL 32 [] p) 2 = ns at *
    obtain ⟨nl, no⟩ := ns
    simp only at hns cN
    refine BrW.yes (by simp) ?_
    simp only [↓sx0, sxE, encs, sevalprocAttr]
    refine CallI.fn (cN) (by simp only [sx3, encs, sxR, sevalprocAttr] <;> (try simp) <;> (try rfl)) ?_
    simp only [↓sx0, sxE, encs, sevalprocAttr]
    refine BrW.of (fun ho => ?_) (fun ho => ?_)
    ·have hh : (hedK n4R p).2 = true := by rw [← hns.1]; exact ho
     have hnl := hns.2 hh
     rw [if_pos hh] at hG
     obtain ⟨x, y⟩ : ∃ x y, x = (hedK n4R p).1.1 ∧ y = (hedK n4R p).1.2 := ⟨_, _, rfl, rfl⟩
     subst hnl
     simp only [↓sx0, sxE, encs, sevalprocAttr]
     refine DrawW.plan Tok mixed (.q 0 <| .q 1 <| .q 2 <| .q 3 <| .q 4 <| .q 5 <| .q 6 <| .e 7 [5] <| .q 8 <| .e 9 [] <| .done) (by kernel_rfl) (by kernel_rfl) ?_
     simp only [↓sx0, sxE, encs, sevalprocAttr]
     refine ⟨by omega, _, rfl, ?_⟩
     simp only [↓sx0, sxE, encs, sevalprocAttr]
     refine ⟨by omega, _, rfl, ?_⟩
     simp only [↓sx0, sxE, encs, sevalprocAttr]
     repeat ((with_reducible refine Vc.go ?_ fun _ => ?_); (focus (first | omega | (simp only [InK]; omega) | (simp [InK]; done) | (simp [InK]; omega))); simp only [↓sx0, sxE, encs, sevalprocAttr])
     refine ⟨1, StLe.auto (by simp only [sx2, encs, sxR, sevalprocAttr] <;> (try simp [h1, h2, encs]) <;> (try omega)), ?_, ?_⟩
     ·refine ⟨by rw [hps0]; simp, .inr ?_, by rw [h1]; simp, by rw [h1]; simp⟩
      rw [hG, h1, hps0]; rfl
     ·omega
    ·have hh : ¬ (hedK n4R p).2 = true := by rw [← hns.1, ho]; simp
     rw [if_neg hh] at hG
     rw [hG]
     simp only [↓sx0, sxE, encs, sevalprocAttr]
     refine EndW.fn ?_ ?_ <;> simp only [sx4, encs, kpLL_map, sxR, sevalprocAttr] <;> (try simp [noneR]) <;> (try omega)
   ·obtain ⟨m, rfl⟩ : ∃ m, i = m + 1 := ⟨i - 1, by omega⟩
    have hst2 : stN n4R ps (m + 1 + 1) = ((stN n4R ps (m + 1)).1, (stN n4R ps (m + 1)).2.1, (stN n4R ps (m + 1)).2.2.1 ++ (rowG n4R (cutL 32 [] p) []).1, (stN n4R ps (m + 1)).2.2.2 ++ [((rowG n4R (cutL 32 [] p) []).1.length : Int)]) := by
     rw [stN, hgd]
    have hJ' : schG n4R ps = schL n4R (stN n4R ps (m + 1)).1 (stN n4R ps (m + 1)).2.1 ((m + 1 : Nat) + 1) (stN n4R ps (m + 1)).2.2.1 (stN n4R ps (m + 1)).2.2.2 (p :: q :: qs) := by
     rcases hJ with h | h
     ·omega
     ·rw [h]
    rw [schL] at hJ'
    have hf2 : fitB ps (m + 1 + 1) = (fitB ps (m + 1) && decide (((rowG n4R (cutL 32 [] p) []).1.length : Int) = (stN n4R ps (m + 1)).1)) := by
     rw [fitB, fitB, hst2]; simp
    generalize hfm : fitB ps (m + 1) = fm at *
    generalize hstm : stN n4R ps (m + 1) = st at *
    obtain ⟨c, r, cells, ws⟩ := st
    simp only at hb1 hb2 hJ' hst2 hf2 ⊢
    obtain ⟨w, hw⟩ : ∃ w, w = cutL 32 [] p := ⟨_, rfl⟩
    rw [← hw] at hcl hmem hJ' hst2 hf2 ⊢
    refine BrW.no (by omega) ?_
    simp only [↓sx0, sxE, encs, sevalprocAttr]
    refine LoopW.comp [2, 5, 6, 7, 8, 9, 10, 13] (by simp only [sx2, encs, sxR, sevalprocAttr] <;> (try simp) <;> (try omega)) ?_
    simp only [sx2, sxR, sevalprocAttr]
    refine LoopW.up Tok (fun k : Nat => [(13, (.v (.int .i64 ((k : Int)))))]) (fun k => [(2, [(.v (.int .i64 c)), (.v (.int .i64 r)), .row 0])]) (fun k => [(0, (cells ++ rowN n4R w k).map eC)]) (fun k => []) (fun k => k ≤ w.length ∧ rowG n4R w [] = rowG n4R (w.drop k) (rowN n4R w k)) (fun k => w.length - k) (0) (by simp only [sx2, encs, sxR, sevalprocAttr] <;> (try simp [rowN, encs]) <;> (try omega)) ?_ ?_
    ·exact ⟨by omega, rfl⟩
    rintro k ⟨hk, hR⟩
    have hrl := rowN_len (num := n4R) hk
    simp only [↓sx0, sxE, encs, sevalprocAttr]
    refine BrW.dec (fun hkl => ?_) (fun hkl => ?_)
    ·have hkl : k < w.length := by omega
     have hdk : w.drop k = w[k] :: w.drop (k + 1) := List.drop_eq_getElem_cons hkl
     have hsuc := rowN_succ (num := n4R) hdk
     rw [hdk, rowG] at hR
     have hwk := hmem _ (List.getElem_mem hkl)
     simp only [↓sx0, sxE, encs, sevalprocAttr]
     refine IxW.nat hkl ?_
     generalize w[k] = x at *
     have hm2 := cutL_mem 47 x []
     have hl2 := cutL_len 47 x []
     have hc2 := List.count_le_length (a := (47 : UInt8)) (l := x)
     simp only [List.length_nil, Nat.zero_add] at hm2
     have cN := numbers_R true (cutL 47 [] x) 4 (fun w hw => by have := hm2 w hw; omega) (by omega) (by omega)
     have hns := cel_ns x
     generalize nsR (cutL 47 [] x) 4 = ns at *
     obtain ⟨nl, no⟩ := ns
     simp only at hns cN
     simp only [↓sx0, sxE, encs, sevalprocAttr]
     refine CallI.fn (cut_R x 47 (by omega)) (by simp only [sx3, encs, sxR, sevalprocAttr] <;> (try simp) <;> (try rfl)) ?_
     simp only [↓sx0, sxE, encs, sevalprocAttr]
     refine CallI.fn (cN) (by simp only [sx3, encs, sxR, sevalprocAttr] <;> (try simp) <;> (try rfl)) ?_
     simp only [↓sx0, sxE, encs, sevalprocAttr]
     refine BrW.of (fun ho => ?_) (fun ho => ?_)
     ·have hh : (celK n4R x).2 = true := by rw [← hns.1]; exact ho
      have hnl := hns.2 hh
      subst hnl
      rw [if_pos hh] at hR
      generalize celK n4R x = cel at *
      simp only [↓sx0, sxE, encs, sevalprocAttr]
      refine DrawW.plan Tok mixed (.q 0 <| .q 1 <| .q 2 <| .q 3 <| .q 4 <| .q 5 <| .q 6 <| .q 7 <| .q 8 <| .q 9 <| .q 10 <| .q 11 <| .q 12 <| .q 13 <| .q 14 <| .e 15 [1] <| .e 16 [] <| .q 17 <| .e 18 [] <| .done) (by kernel_rfl) (by kernel_rfl) ?_
      simp only [↓sx0, sxE, encs, sevalprocAttr]
      refine ⟨by omega, _, rfl, ?_⟩
      simp only [↓sx0, sxE, encs, sevalprocAttr]
      refine ⟨by omega, _, rfl, ?_⟩
      simp only [↓sx0, sxE, encs, sevalprocAttr]
      refine ⟨by omega, _, rfl, ?_⟩
      simp only [↓sx0, sxE, encs, sevalprocAttr]
      refine ⟨by omega, _, rfl, ?_⟩
      simp only [↓sx0, sxE, encs, sevalprocAttr]
      repeat ((with_reducible refine Vc.go ?_ fun _ => ?_); (focus (first | omega | (simp only [InK]; omega) | (simp [InK]; done) | (simp [InK]; omega))); simp only [↓sx0, sxE, encs, sevalprocAttr])
      refine ⟨k + 1, StLe.auto (by simp only [sx2, encs, sxR, sevalprocAttr] <;> (try simp [hsuc, encs]) <;> (try omega)), ?_, ?_⟩
      ·exact ⟨by omega, by rw [hR, hsuc]⟩
      ·omega
     ·have hh : ¬ (celK n4R x).2 = true := by rw [← hns.1, ho]; simp
      rw [if_neg hh] at hR
      rw [hR, if_neg (by simp)] at hJ'
      rw [hJ']
      simp only [↓sx0, sxE, encs, sevalprocAttr]
      repeat ((with_reducible refine Vc.go ?_ fun _ => ?_); (focus (first | omega | (simp only [InK]; omega) | (simp [InK]; done) | (simp [InK]; omega))); simp only [↓sx0, sxE, encs, sevalprocAttr])
      refine EndW.fn ?_ ?_ <;> simp only [sx4, encs, kpLL_map, sxR, sevalprocAttr] <;> (try simp [noneR]) <;> (try omega)
    ·have hke : k = w.length := by omega
     subst hke
     rw [List.drop_length, rowG] at hR
     rw [hR] at hJ' hst2 hf2
     rw [if_pos rfl] at hJ'
     simp only [hrl] at hJ' hst2 hf2
     have fin : ∀ hi2 : m + 1 + 1 < ps.length, JS n4R ps (m + 1 + 1) := fun hi2 => by
      refine ⟨hi2, .inr ?_, by rw [hst2]; simp; omega, by rw [hst2]; simp; omega⟩
      rw [hJ', hst2, hq]; rfl
     simp only [↓sx0, sxE, encs, sevalprocAttr]
     refine BrW.of (fun hf => ?_) (fun hf => ?_)
     ·rw [hf, Bool.true_and] at hf2
      simp only [↓sx0, sxE, encs, sevalprocAttr]
      repeat ((with_reducible refine Vc.go ?_ fun _ => ?_); (focus (first | omega | (simp only [InK]; omega) | (simp [InK]; done) | (simp [InK]; omega))); simp only [↓sx0, sxE, encs, sevalprocAttr])
      refine ⟨m + 1 + 1, StLe.auto (by simp only [sx2, encs, sxR, sevalprocAttr] <;> (try simp [hst2, hf2, encs]) <;> (try omega)), ?_, ?_⟩
      ·exact fin (by omega)
      ·omega
     ·rw [hf, Bool.false_and] at hf2
      simp only [↓sx0, sxE, encs, sevalprocAttr]
      repeat ((with_reducible refine Vc.go ?_ fun _ => ?_); (focus (first | omega | (simp only [InK]; omega) | (simp [InK]; done) | (simp [InK]; omega))); simp only [↓sx0, sxE, encs, sevalprocAttr])
      refine ⟨m + 1 + 1, StLe.auto (by simp only [sx2, encs, sxR, sevalprocAttr] <;> (try simp [hst2, hf2, encs]) <;> (try omega)), ?_, ?_⟩
      ·exact fin (by omega)
      ·omega
  ·have hie : i + 1 = ps.length := by omega
   have hla : ps.drop (i + 1) = [] := List.drop_eq_nil_of_le (by omega)
   rw [hdr, hla] at hJ
   have hps : (ps.length : Int) = (i : Int) + 1 := by omega
   have hfi : fitB ps i = (stN n4R ps i).2.2.2.all fun n => decide (n = (stN n4R ps i).1) := rfl
   have hG0 : i = 0 → schG n4R ps = noneR 1 7 := fun h => by
    subst h
    have : ps = [ps[0]] := by
     have := hdr; rw [hla] at this; simpa using this
    rw [this]; exact schR_one _ _
   have hwl : (stN n4R ps i).2.2.2.length + 1 = i ∨ i = 0 := by
    clear hJ hb1 hb2 hfi hdr hla hgd hG0
    have key : ∀ j, (stN n4R ps (j + 1)).2.2.2.length = j := fun j => by
     induction j with
     | zero => rfl
     | succ j ih => rw [stN]; simp [ih]
    cases i with
    | zero => exact .inr rfl
    | succ j => exact .inl (by rw [key j])
   simp only [↓sx0, sxE, encs, sevalprocAttr]
   repeat ((with_reducible refine Vc.go ?_ fun _ => ?_); (focus (first | omega | (simp only [InK]; omega) | (simp [InK]; done) | (simp [InK]; omega))); simp only [↓sx0, sxE, encs, sevalprocAttr])
   refine ⟨by omega, eT ps[i], (by rw [show ((ps.length : Int) - 1).toNat = i by omega, List.getElem?_map, List.getElem?_eq_getElem hi]; rfl), ?_⟩
   generalize ps[i] = last at *
   generalize hfm : fitB ps i = fm at *
   generalize stN n4R ps i = st at *
   obtain ⟨c, r, cells, ws⟩ := st
   simp only at hb1 hb2 hJ hfi hwl ⊢
   simp only [↓sx0, sxE, encs, sevalprocAttr]
   refine BrW.dec (fun hem => ?_) (fun hem => ?_)
   ·have hne : last ≠ [] := fun e => hem (by rw [e]; rfl)
    have hR : schG n4R ps = noneR ((i : Int) + 1) 7 := by
     rcases hJ with h | h
     ·rw [hG0 h, h]; rfl
     ·rw [h, schL, if_neg hne]
    rw [hR]
    simp only [↓sx0, sxE, encs, sevalprocAttr]
    refine EndW.fn ?_ ?_ <;> simp only [sx4, encs, kpLL_map, sxR, sevalprocAttr] <;> (try simp [noneR, hps]) <;> (try omega)
   ·have hem : last = [] := by
     have := Decidable.not_not.1 hem
     rw [show (⟨#[]⟩ : ByteArray) = bs [] from rfl, bs_inj] at this; exact this
    simp only [↓sx0, sxE, encs, sevalprocAttr]
    refine BrW.dec (fun h1 => ?_) (fun h1 => ?_)
    ·rw [hG0 (by omega)]
     simp only [↓sx0, sxE, encs, sevalprocAttr]
     refine EndW.fn ?_ ?_ <;> simp only [sx4, encs, kpLL_map, sxR, sevalprocAttr] <;> (try simp [noneR, h1]) <;> (try omega)
    ·have hR : schG n4R ps = finS c r cells ws := by
      rcases hJ with h | h
      ·omega
      ·rw [h, schL, if_pos hem]
     have hany : (ws.any fun n => !decide (n = c)) = !fm := by
      rw [hfi, List.not_all_eq_any_not]
     rw [hR]
     simp only [↓sx0, sxE, encs, sevalprocAttr]
     refine BrW.of (fun hf => ?_) (fun hf => ?_)
     ·simp only [↓sx0, sxE, encs, sevalprocAttr]
      repeat ((with_reducible refine Vc.go ?_ fun _ => ?_); (focus (first | omega | (simp only [InK]; omega) | (simp [InK]; done) | (simp [InK]; omega))); simp only [↓sx0, sxE, encs, sevalprocAttr])
      refine BrW.dec (fun h2 => ?_) (fun h2 => ?_)
      ·rw [finS, if_pos (.inl (by omega))]
       simp only [↓sx0, sxE, encs, sevalprocAttr]
       refine EndW.fn ?_ ?_ <;> simp only [sx4, encs, kpLL_map, sxR, sevalprocAttr] <;> (try simp [noneR]) <;> (try omega)
      ·rw [finS, if_neg (by rw [hany, hf]; simp; omega)]
       simp only [↓sx0, sxE, encs, sevalprocAttr]
       refine CallI.fn (checkSchemeR_s false c r cells (by omega)) (by simp only [sx3, encs, sxR, sevalprocAttr] <;> (try simp) <;> (try rfl)) ?_
       simp only [↓sx0, sxE, encs, sevalprocAttr]
       refine BrW.dec (fun he => ?_) (fun he => ?_)
       ·rw [if_neg he]
        simp only [↓sx0, sxE, encs, sevalprocAttr]
        refine EndW.fn ?_ ?_ <;> simp only [sx4, encs, kpLL_map, sxR, sevalprocAttr] <;> (try simp [noneR]) <;> (try omega)
       ·rw [if_pos (Decidable.not_not.1 he)]
        simp only [↓sx0, sxE, encs, sevalprocAttr]
        refine EndW.fn ?_ ?_ <;> simp only [sx4, encs, kpLL_map, sxR, sevalprocAttr] <;> (try simp) <;> (try omega)
     ·rw [finS, if_pos (.inr (by rw [hany, hf]; rfl))]
      simp only [↓sx0, sxE, encs, sevalprocAttr]
      refine EndW.fn ?_ ?_ <;> simp only [sx4, encs, kpLL_map, sxR, sevalprocAttr] <;> (try simp [noneR]) <;> (try omega)
end Go.Proofs.YtgiegokdcmkfeaaGreatDoor
/-
 Chapter 6, walks: pieces of a slice, one after the other; texts joined.
-/
namespace Go.Proofs.YtgiegokdcmkfeaaGreatDoor
open Go Go.Vx
set_option maxRecDepth 20000
theorem joinC_T (b : Bool) (W : List (List UInt8)) (c : UInt8) (hN : W.length ≤ 1000000) (hlen : (Lib.join W [c]).length ≤ 140737488355328) : Ctr Tryz.prog 34 [.sl b 1 (W.map eT), (.v (.string (⟨#[c]⟩)))] (fun rr => rr = ⟨(.v (.string (bs (Lib.join W [c])))), []⟩) := by
 have e : (W.map bs).map (·.data.toList) = W := by
  rw [List.map_map]
  conv => rhs; rw [← List.map_id W]
  exact List.map_congr_left fun x _ => bs_toList x
 have h := join_s b (W.map bs) ⟨#[c]⟩ (by simpa using hN) (by rw [e]; exact hlen)
 rw [e, List.map_map] at h
 exact h
theorem ItCtr.toB {P : Program} {f : FuncId} {ty : TypeId} {cells lb : List SV} {xs : List (List SV)} (h : ItCtr P f lb xs) (himm : immVL lb = true) : ItCtrB P f ty cells lb xs :=
 ⟨h.1, fun w μ mp yd b0 cs vs hμ h1 h2 hb hr hlb hmb hμb hok hJ => h.2 w μ mp yd vs hμ h1 h2 (rels_imm (g := gBx μ w b0) (g' := gMu μ w) (fun _ _ _ hc => hc) lb _ himm hlb) hok
  (hok.frame _ _ _ _ _ w _ hJ (fun _ _ => rfl) (Nat.le_refl _) rfl rfl rfl fun b hb2 => by
   simp only [Bool.and_eq_true] at hb2; exact hb2.1)⟩
def ckC (l : List Cell) (n : Nat) : List SV := [.pt true [.sl true 4 (l.map eC)], .pt true [(.v (.int .i64 ((n : Int))))]]
def ckP (l : List Cell) (n k : Nat) : List Cell := (l.drop (k * n)).take n
def ckY (l : List Cell) (n k : Nat) : List SV := [.sl true 4 ((ckP l n k).map eC)]
def ckL (l : List Cell) (n k : Nat) : List (List SV) := (List.range k).map (ckY l n)
theorem ckL_succ (l : List Cell) (n k : Nat) : ckL l n (k + 1) = ckL l n k ++ [ckY l n k] := by simp [ckL, List.range_succ]
theorem ckL_le {l : List Cell} {n j k : Nat} (h : j ≤ k) : ckL l n j <+: ckL l n k := by
 obtain ⟨d, rfl⟩ := Nat.le.dest h
 exact ⟨(List.map (j + ·) (List.range d)).map (ckY l n), by simp [ckL, List.range_add]⟩
theorem chunk_s (l : List Cell) (n : Nat) (hn : 0 < n) : Ctr Tryz.prog 33 [.sl true 4 (l.map eC), (.v (.int .i64 ((n : Int))))] (fun rr => rr = ⟨.clo 72 (ckC l n), []⟩) := by
 have encs := And.intro encs (show ∀ l n, ckC l n = [.pt true [.sl true 4 (l.map eC)], .pt true [(.v (.int .i64 ((n : Int))))]] from fun _ _ => rfl)
 refine Ctr.ofB (rs := [.tmp 4]) Tok Tryz.func33 rfl rfl rfl rfl (by simp [ofDL]) (fun w0 kp => ?_)
 simp only [↓sx0, sxE, encs, sevalprocAttr]
 refine BrW.no (by omega) ?_
 simp only [↓sx0, sxE, encs, sevalprocAttr]
 simp only [endY, boxV, boxL, bxPs, bxPs.bx1, bxD, assB, ptB, bxV, bxL, toDL, toD, consO, vD, oneV, dedN, addN, memN, sxL, sx2, encs, sxR, sevalprocAttr]
 exact EndW.fn (by simp only [sx4, encs, kpLL_map, sxR, sevalprocAttr] <;> (try simp) <;> (try omega)) (by simp only [sx4, encs, kpLL_map, sxR, sevalprocAttr] <;> (try simp) <;> (try omega))
set_option maxHeartbeats 4000000 in
theorem chunkIt_s (l : List Cell) (n r : Nat) (hn : 0 < n) (hn2 : n ≤ 1000) (hr : r ≤ 1000) (hl : l.length = r * n) : ItCtr Tryz.prog 72 (ckC l n) (ckL l n r) := by
 have encs := And.intro encs (And.intro (show ∀ l n, ckC l n = [.pt true [.sl true 4 (l.map eC)], .pt true [(.v (.int .i64 ((n : Int))))]] from fun _ _ => rfl) sxFb)
 have hrn : r * n ≤ 1000 * 1000 := Nat.mul_le_mul hr hn2
 refine ItCtr.of Tok Tryz.func72 rfl rfl rfl rfl (by simp [ofDL, encs]) (fun w0 kp yd hok => ?_)
 simp only [↓sx0, sxE, encs, sevalprocAttr]
 repeat ((with_reducible refine Vc.go ?_ fun _ => ?_); (focus (first | omega | (simp only [InK]; omega) | (simp [InK]; done) | (simp [InK]; omega))); simp only [↓sx0, sxE, encs, sevalprocAttr])
 refine LoopW.comp [0, 1, 2, 4] (by simp only [sx2, encs, sxR, sevalprocAttr] <;> (try simp) <;> (try omega)) ?_
 simp only [sx2, sxR, sevalprocAttr]
 refine LoopW.upG Tok (fun k : Nat => [(4, (.v (.int .i64 (((k * n : Nat) : Int)))))]) (fun k => []) (fun k => []) (fun k => []) (fun k => ckL l n k) (fun k => k ≤ r) (fun k => r - k) (0) (by simp only [sx2, encs, sxR, sevalprocAttr] <;> (try simp [ckL, encs]) <;> (try omega)) ?_ ?_
 ·omega
 rintro k hk
 have hkn : k * n ≤ r * n := Nat.mul_le_mul_right n hk
 simp only [↓sx0, sxE, encs, sevalprocAttr]
 refine BrW.dec (fun hlt => ?_) (fun hlt => ?_)
 ·have hkr : k < r := by
   apply Classical.byContradiction
   intro h
   have : k = r := by omega
   subst this; omega
  have hk1 : (k + 1) * n ≤ r * n := Nat.mul_le_mul_right n hkr
  have hk2 : (k + 1) * n = k * n + n := Nat.succ_mul k n
  simp only [↓sx0, sxE, encs, sevalprocAttr]
  refine DrawW.plan Tok mixed (.q 0 <| .q 1 <| .q 2 <| .q 3 <| .q 4 <| .q 5 <| .q 6 <| .done) (by kernel_rfl) (by kernel_rfl) ?_
  simp only [↓sx0, sxE, encs, sevalprocAttr]
  repeat ((with_reducible refine Vc.go ?_ fun _ => ?_); (focus (first | omega | (simp only [InK]; omega) | (simp [InK]; done) | (simp [InK]; omega))); simp only [↓sx0, sxE, encs, sevalprocAttr])
  have hval : ∀ a b, a = n → b = k * n → List.take a (List.drop b (l.map eC)) = (ckP l n k).map eC := by
   rintro _ _ rfl rfl
   rw [ckP, List.map_take, List.map_drop]
  rw [hval _ _ (by rw [List.length_drop, List.length_map, hl]; omega) (by omega)]
  have hb : ckY l n k = [.sl true 4 ((ckP l n k).map eC)] := rfl
  have hm : ckL l n k ++ [[.sl true 4 ((ckP l n k).map eC)]] <+: ckL l n r := by rw [← hb, ← ckL_succ]; exact ckL_le hkr
  have hs := ckL_succ l n k
  rw [hb] at hs
  generalize (ckP l n k).map eC = y at hm hs ⊢
  refine YldI.of (ys := ckL l n k) hok rfl rfl (by simp only [sx2, sxA, encs, sxR, sevalprocAttr] <;> rfl) (by simp only [sx2, sxA, encs, sxR, sevalprocAttr] <;> rfl) rfl rfl rfl (hm) ?_ ?_
  ·simp only [↓sx0, sxE, encs, sevalprocAttr]
   repeat ((with_reducible refine Vc.go ?_ fun _ => ?_); (focus (first | omega | (simp only [InK]; omega) | (simp [InK]; done) | (simp [InK]; omega))); simp only [↓sx0, sxE, encs, sevalprocAttr])
   refine ⟨k + 1, StLe.auto (by simp only [sx2, encs, sxR, sevalprocAttr] <;> (try simp [hs, Int.add_mul, encs]) <;> (try omega)), ?_, ?_⟩
   ·omega
   ·omega
  ·simp only [↓sx0, sxE, encs, sevalprocAttr]
   intro h
   cases h
 ·simp only [↓sx0, sxE, encs, sevalprocAttr]
  have hke : k = r := by
   apply Classical.byContradiction
   intro h
   have hk1 : (k + 1) * n ≤ r * n := Nat.mul_le_mul_right n (by omega)
   have hk2 : (k + 1) * n = k * n + n := Nat.succ_mul k n
   omega
  subst hke
  intro _
  rfl
end Go.Proofs.YtgiegokdcmkfeaaGreatDoor
/-
 Chapter 6, walks: a scheme written (the program).
-/
namespace Go.Proofs.YtgiegokdcmkfeaaGreatDoor
open Go Go.Vx
set_option maxRecDepth 20000
def I64 (n : Int) : Prop := -9223372036854775808 ≤ n ∧ n ≤ 9223372036854775807
def CelI (x : Cell) : Prop := I64 x.front ∧ I64 x.fturn ∧ I64 x.back ∧ I64 x.bturn
theorem itoa_len {n : Int} (h : -9223372036854775808 ≤ n ∧ n ≤ 9223372036854775807) : (Lib.itoa n).length ≤ 21 := by
 unfold Lib.itoa
 split
 ·have := dec_len 19 n.natAbs (by omega)
  simp only [List.length_cons]; omega
 ·have := dec_len 19 n.toNat (by omega)
  omega
/-- the text of a cell. -/
def celT (x : Cell) : List UInt8 := Lib.join [Lib.itoa x.front, Lib.itoa x.fturn, Lib.itoa x.back, Lib.itoa x.bturn] [47]
def rowT (l : List Cell) : List UInt8 := Lib.join (l.map celT) [32] ++ [10]
def hedT (c r : Int) : List UInt8 := Lib.itoa c ++ 32 :: (Lib.itoa r ++ [10])
def rowsT (l : List Cell) (n k : Nat) : List UInt8 := ((List.range k).map fun j => rowT (ckP l n j)).flatten
theorem rowsT_succ (l : List Cell) (n k : Nat) : rowsT l n (k + 1) = rowsT l n k ++ rowT (ckP l n k) := by simp [rowsT, List.range_succ]
/-- the text of a scheme. -/
def schT (c r : Nat) (l : List Cell) : List UInt8 := hedT c r ++ rowsT l c r
theorem joinC_len (c : UInt8) : ∀ (W : List (List UInt8)) (m : Nat), (∀ w ∈ W, w.length ≤ m) → (Lib.join W [c]).length ≤ (m + 1) * W.length
 | [], m, _ => by simp [Lib.join]
 | [w], m, h => by rw [Lib.join_one]; have := h w (by simp); simp; omega
 | w :: v :: r, m, h => by
  have hj : Lib.join (w :: v :: r) [c] = w ++ c :: Lib.join (v :: r) [c] := by
   rw [Lib.join_cons, Lib.join_cons]; simp [Lib.joinTail]
  have ih := joinC_len c (v :: r) m fun x hx => h x (List.mem_cons_of_mem _ hx)
  have := h w (by simp)
  rw [hj]
  simp only [List.length_append, List.length_cons] at ih ⊢
  have h3 : (m + 1) * (r.length + 1 + 1) = (m + 1) * (r.length + 1) + (m + 1) := Nat.mul_succ _ _
  omega
theorem celT_len {x : Cell} (h : CelI x) : (celT x).length ≤ 88 := by
 obtain ⟨h1, h2, h3, h4⟩ := h
 refine Nat.le_trans (joinC_len 47 _ 21 fun w hw => ?_) (by simp)
 simp only [List.mem_cons, List.not_mem_nil, or_false] at hw
 rcases hw with rfl | rfl | rfl | rfl
 ·exact itoa_len h1
 ·exact itoa_len h2
 ·exact itoa_len h3
 ·exact itoa_len h4
theorem rowT_len {l : List Cell} (h : ∀ x ∈ l, CelI x) : (rowT l).length ≤ 89 * l.length + 1 := by
 have := joinC_len 32 (l.map celT) 88 fun w hw => by
  obtain ⟨x, hx, rfl⟩ := List.mem_map.1 hw
  exact celT_len (h x hx)
 rw [List.length_map] at this
 simp only [rowT, List.length_append, List.length_singleton]; omega
theorem ckP_mem {l : List Cell} {n k : Nat} {x : Cell} (h : x ∈ ckP l n k) : x ∈ l := List.mem_of_mem_drop (List.mem_of_mem_take h)
theorem ckP_len (l : List Cell) (n k : Nat) : (ckP l n k).length ≤ n := by simp [ckP]; omega
theorem rowsT_len {l : List Cell} {n : Nat} (h : ∀ x ∈ l, CelI x) : ∀ k, (rowsT l n k).length ≤ (89 * n + 1) * k
 | 0 => by simp [rowsT]
 | k + 1 => by
  have ih := rowsT_len (n := n) h k
  have h1 := rowT_len (l := ckP l n k) fun x hx => h x (ckP_mem hx)
  have h2 := ckP_len l n k
  have h3 : (89 * n + 1) * (k + 1) = (89 * n + 1) * k + (89 * n + 1) := Nat.mul_succ _ _
  rw [rowsT_succ, List.length_append]
  omega
theorem itoa_T (n : Int) (h : I64 n) : CtrK glob Tryz.prog 32 [(.v (.int .i64 n))] (fun rr => rr = ⟨(.v (.string (bs (Lib.itoa n)))), []⟩) := itoa_s n h.1 h.2
/-- what Print answers. -/
def prtS (c r : Int) (l : List Cell) : ByteArray × Int := if (schS c r l).2 = 0 then (bs (schT c.toNat r.toNat l), 0) else (⟨#[]⟩, (schS c r l).2)
end Go.Proofs.YtgiegokdcmkfeaaGreatDoor
