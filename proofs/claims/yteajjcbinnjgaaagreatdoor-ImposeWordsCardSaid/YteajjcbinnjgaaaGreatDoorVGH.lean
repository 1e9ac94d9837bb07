/-
 Chapter 6: folds as texts (the reference).
-/
import Derived.Test.YteajjcbinnjgaaaGreatDoorVGG
import Derived.Test.YteajjcbinnjgaaaGreatDoorVW35
import Derived.Test.YteajjcbinnjgaaaGreatDoorVGC
namespace Go.Proofs.YteajjcbinnjgaaaGreatDoor
open Go Go.Vx
set_option linter.unusedSimpArgs false
set_option linter.unusedVariables false
set_option maxRecDepth 20000
/-- the letter of a fold that is counted. -/
def leF (k : Int) : UInt8 := if k = 1 then 76 else if k = 2 then 82 else if k = 3 then 85 else if k = 4 then 68 else 63
def wrF (f : Fold) : List UInt8 := if f.kind = 5 then [79] else if f.kind = 6 then [84] else leF f.kind :: Lib.itoa f.count
/-- the kind of a letter. -/
def kdF (c : UInt8) : Int := if c = 76 then 1 else if c = 82 then 2 else if c = 85 then 3 else if c = 68 then 4 else 0
def rdF (w : List UInt8) : Fold × Bool :=
 if w = [79] then (⟨5, 0⟩, true) else if w = [84] then (⟨6, 0⟩, true) else
 match w with
 | [] => (⟨0, 0⟩, false)
 | c :: r => if r = [] ∨ kdF c = 0 then (⟨0, 0⟩, false) else (⟨kdF c, (numR r 2).1⟩, (numR r 2).2 && decide (0 ≤ (numR r 2).1))
def ltF (k : Nat) : UInt8 := if k = 1 then 76 else if k = 2 then 82 else if k = 3 then 85 else 68
theorem kdF_lt {k : Nat} (h : 1 ≤ k ∧ k ≤ 4) (c : UInt8) : c = ltF k ↔ kdF c = k := by
 obtain rfl | rfl | rfl | rfl : k = 1 ∨ k = 2 ∨ k = 3 ∨ k = 4 := by omega
 all_goals
  unfold ltF kdF
  refine ⟨fun e => by rw [e]; decide, fun e => ?_⟩
  repeat' split at e
  all_goals first
   | (simp; assumption)
   | omega
theorem ext_let {k : Nat} (h : 1 ≤ k ∧ k ≤ 4) (i j : Nat) (hi : i = k - 1) (hj : j = k) : (⟨#[76, 82, 85, 68, 79, 84]⟩ : ByteArray).extract i j = bs [ltF k] := by
 rw [hi, hj]
 obtain rfl | rfl | rfl | rfl : k = 1 ∨ k = 2 ∨ k = 3 ∨ k = 4 := by omega
 all_goals rfl
theorem ext_head (c : UInt8) (r : List UInt8) (i j : Nat) (hi : i = 0) (hj : j = 1) : (bs (c :: r)).extract i j = bs [c] := bs_ext [] [c] r i j hi (by simp [hj])
theorem ext_tail (c : UInt8) (r : List UInt8) (i j : Nat) (hi : i = 1) (hj : j = r.length + 1) : (bs (c :: r)).extract i j = bs r := by
 have := bs_ext [c] r [] i j (by simp [hi]) (by simp [hj]; omega)
 rw [List.append_nil] at this
 exact this
theorem letters_s : Ctr Tryz.prog 34 [] (fun rr => rr = ⟨(.v (.string (⟨#[76, 82, 85, 68, 79, 84]⟩))), []⟩) := by
 refine Ctr.of (rs := [.tmp 0]) Tok true Tryz.func34 rfl rfl rfl rfl (by simp [ofDL]) (fun w0 kp => ?_)
 simp only [↓sx0, sxE, encs, sevalprocAttr]
 refine EndW.fn ?_ ?_ <;> simp only [sx4, encs, kpLL_map, sxR, sevalprocAttr] <;> (try simp) <;> (try omega)
set_option maxHeartbeats 4000000 in
theorem foldOf_R (w : List UInt8) (hw : w.length ≤ 1000000) : Ctr Tryz.prog 32 [(.v (.string (bs w)))] (fun rr => rr = ⟨.tup [.agg [(.v (.int .i64 ((rdF w).1.kind))), (.v (.int .i64 ((rdF w).1.count)))], (.v (.bool ((rdF w).2)))], []⟩) := by
 have h79 : (⟨#[79]⟩ : ByteArray) = bs [79] := rfl
 have h84 : (⟨#[84]⟩ : ByteArray) = bs [84] := rfl
 refine Ctr.of (rs := [.cell 2 69, .tmp 3]) Tok true Tryz.func32 rfl rfl rfl rfl (by simp [ofDL]) (fun w0 kp => ?_)
 simp only [↓sx0, sxE, encs, sevalprocAttr]
 rw [h79]
 refine BrW.dec (fun h1 => ?_) (fun h1 => ?_)
 ·have h1 := bs_inj.1 h1
  subst h1
  simp only [↓sx0, sxE, encs, sevalprocAttr]
  refine EndW.fn ?_ ?_ <;> simp only [sx4, encs, kpLL_map, sxR, sevalprocAttr] <;> (try simp [rdF]) <;> (try omega)
 ·simp only [↓sx0, sxE, encs, sevalprocAttr]
  rw [h84]
  have h1 : ¬ w = [79] := fun e => h1 (by rw [e])
  refine BrW.dec (fun h2 => ?_) (fun h2 => ?_)
  ·have h2 := bs_inj.1 h2
   subst h2
   simp only [↓sx0, sxE, encs, sevalprocAttr]
   refine EndW.fn ?_ ?_ <;> simp only [sx4, encs, kpLL_map, sxR, sevalprocAttr] <;> (try simp [rdF]) <;> (try omega)
  ·have h2 : ¬ w = [84] := fun e => h2 (by rw [e])
   simp only [↓sx0, sxE, encs, sevalprocAttr]
   have kb : ∀ c, 0 ≤ kdF c ∧ kdF c ≤ 4 := fun c => by unfold kdF; repeat' split <;> omega
   refine LoopW.comp [0, 2, 4] (by simp only [sx2, encs, sxR, sevalprocAttr] <;> (try simp) <;> (try omega)) ?_
   simp only [sx2, sxR, sevalprocAttr]
   refine LoopW.up Tok (fun k : Nat => [(4, (.v (.int .i64 ((k : Int)))))]) (fun k => []) (fun k => []) (fun k => []) (fun k => (1 ≤ k ∧ k ≤ 5) ∧ ∀ c r, w = c :: r → r ≠ [] → kdF c = 0 ∨ (k : Int) ≤ kdF c) (fun k => 5 - k) (1) (by simp only [sx2, encs, sxR, sevalprocAttr] <;> (try simp) <;> (try omega)) ?_ ?_
   ·exact ⟨⟨by omega, by omega⟩, fun c r _ _ => by have := kb c; omega⟩
   rintro k ⟨⟨hk1, hk5⟩, hJ⟩
   simp only [↓sx0, sxE, encs, sevalprocAttr]
   refine BrW.dec (fun hk => ?_) (fun hk => ?_)
   ·simp only [↓sx0, sxE, encs, sevalprocAttr]
    have hsz := bs_size w
    refine DrawW.plan Tok mixed (.q 0 <| .q 1 <| .q 2 <| .q 3 <| .q 4 <| .q 5 <| .q 7 <| .q 8 <| .q 9 <| .e 6 [] <| .q 10 <| .q 11 <| .q 12 <| .done) (by kernel_rfl) (by kernel_rfl) ?_
    simp only [↓sx0, sxE, encs, sevalprocAttr]
    rw [hsz]
    refine BrW.dec (fun hlen => ?_) (fun hlen => ?_)
    ·simp only [↓sx0, sxE, encs, sevalprocAttr]
     repeat ((with_reducible refine Vc.go ?_ fun _ => ?_); (focus (first | omega | (simp only [InK]; omega) | (simp [InK]; done) | (simp [InK]; omega))); simp only [↓sx0, sxE, encs, sevalprocAttr])
     have hs6 : (⟨#[76, 82, 85, 68, 79, 84]⟩ : ByteArray).size = 6 := rfl
     refine CallI.fn (letters_s) (by simp only [sx3, encs, sxR, sevalprocAttr] <;> (try simp) <;> (try rfl)) ?_
     simp only [↓sx0, sxE, encs, sevalprocAttr]
     repeat ((with_reducible refine Vc.go ?_ fun _ => ?_); (focus (first | omega | (simp only [InK]; omega) | (simp [InK]; done) | (simp [InK]; omega))); simp only [↓sx0, sxE, encs, sevalprocAttr])
     obtain ⟨c, r, rfl⟩ : ∃ c r, w = c :: r := by
      cases w with
      | nil => simp at hlen
      | cons c r => exact ⟨c, r, rfl⟩
     have hlc : (c :: r).length = r.length + 1 := rfl
     rw [ext_let (k := k) (by omega) _ _ (by omega) (by omega), ext_head c r _ _ (by omega) (by omega)]
     refine BrW.dec (fun hm => ?_) (fun hm => ?_)
     ·have hm := bs_inj.1 hm
      simp only [List.cons.injEq, and_true] at hm
      have hkd := (kdF_lt (k := k) (by omega) c).1 hm
      have hrn : ¬ r = [] := fun e => by subst e; simp at hlen
      have hne : ¬ (r = [] ∨ kdF c = 0) := by
       rintro (h | h)
       ·exact hrn h
       ·omega
      have hv : rdF (c :: r) = (⟨(k : Int), (numR r 2).1⟩, (numR r 2).2 && decide (0 ≤ (numR r 2).1)) := by
       unfold rdF
       rw [if_neg h1, if_neg h2]
       simp only
       rw [if_neg hne, hkd]
      simp only [↓sx0, sxE, encs, sevalprocAttr]
      repeat ((with_reducible refine Vc.go ?_ fun _ => ?_); (focus (first | omega | (simp only [InK]; omega) | (simp [InK]; done) | (simp [InK]; omega))); simp only [↓sx0, sxE, encs, sevalprocAttr])
      rw [ext_tail c r _ _ rfl (by omega)]
      refine CallI.fn (number_R r 2 (by omega) (by omega)) (by simp only [sx3, encs, sxR, sevalprocAttr] <;> (try simp) <;> (try rfl)) ?_
      simp only [↓sx0, sxE, encs, sevalprocAttr]
      refine BrW.of (fun hb => ?_) (fun hb => ?_)
      ·simp only [↓sx0, sxE, encs, sevalprocAttr]
       rw [hb, Bool.true_and] at hv
       refine EndW.fn ?_ ?_ <;> simp only [sx4, encs, kpLL_map, sxR, sevalprocAttr] <;> (try simp [hv]) <;> (try omega)
      ·simp only [↓sx0, sxE, encs, sevalprocAttr]
       rw [hb, Bool.false_and] at hv
       refine EndW.fn ?_ ?_ <;> simp only [sx4, encs, kpLL_map, sxR, sevalprocAttr] <;> (try simp [hv]) <;> (try omega)
     ·have hm : ¬ kdF c = k := fun e => hm (by rw [(kdF_lt (k := k) (by omega) c).2 e])
      simp only [↓sx0, sxE, encs, sevalprocAttr]
      repeat ((with_reducible refine Vc.go ?_ fun _ => ?_); (focus (first | omega | (simp only [InK]; omega) | (simp [InK]; done) | (simp [InK]; omega))); simp only [↓sx0, sxE, encs, sevalprocAttr])
      refine ⟨k + 1, StLe.auto (by simp only [sx2, encs, sxR, sevalprocAttr] <;> (try simp) <;> (try omega)), ?_, ?_⟩
      ·refine ⟨by omega, fun c' r' e hr' => ?_⟩
       have := hJ c' r' e hr'
       have : kdF c' = kdF c := by rw [(List.cons.inj e).1]
       omega
      ·omega
    ·simp only [↓sx0, sxE, encs, sevalprocAttr]
     repeat ((with_reducible refine Vc.go ?_ fun _ => ?_); (focus (first | omega | (simp only [InK]; omega) | (simp [InK]; done) | (simp [InK]; omega))); simp only [↓sx0, sxE, encs, sevalprocAttr])
     refine ⟨k + 1, StLe.auto (by simp only [sx2, encs, sxR, sevalprocAttr] <;> (try simp) <;> (try omega)), ?_, ?_⟩
     ·refine ⟨by omega, fun c' r' e hr' => ?_⟩
      subst e
      exfalso
      cases r' with
      | nil => exact hr' rfl
      | cons x y => simp only [List.length_cons] at hlen; omega
     ·omega
   ·simp only [↓sx0, sxE, encs, sevalprocAttr]
    have hv : rdF w = (⟨0, 0⟩, false) := by
     unfold rdF
     rw [if_neg h1, if_neg h2]
     cases w with
     | nil => rfl
     | cons c r =>
      simp only
      by_cases hr : r = []
      ·rw [if_pos (.inl hr)]
      ·have := hJ c r rfl hr
       have := kb c
       rw [if_pos (.inr (by omega))]
    refine EndW.fn ?_ ?_ <;> simp only [sx4, encs, kpLL_map, sxR, sevalprocAttr] <;> (try simp [hv]) <;> (try omega)
end Go.Proofs.YteajjcbinnjgaaaGreatDoor
/-
 Chapter 6: folds read (the reference).
-/
namespace Go.Proofs.YteajjcbinnjgaaaGreatDoor
open Go Go.Vx
set_option linter.unusedSimpArgs false
set_option linter.unusedVariables false
set_option maxRecDepth 20000
/-- what ParseFolds answers, by what reads a word. -/
def prsG (rd : List UInt8 → Fold × Bool) (s : List UInt8) : List Fold × Int :=
 if s = [] then ([], 0) else if 12 < (cutL 32 [] s).length then ([], 8) else if (cutL 32 [] s).all (fun w => (rd w).2) = true then ((cutL 32 [] s).map fun w => (rd w).1, 0) else ([], 7)
theorem cutL_sum (c : UInt8) : ∀ (l acc : List UInt8) (w : List UInt8), w ∈ cutL c acc l → w.length ≤ acc.length + l.length
 | [], acc, w, h => by simp only [cutL, List.mem_singleton] at h; subst h; simp
 | b :: l, acc, w, h => by
  rw [cutL] at h
  split at h
  ·rcases List.mem_cons.1 h with e | e
   ·subst e; simp
   ·have := cutL_sum c l [] w e
    simp only [List.length_nil, List.length_cons] at this ⊢; omega
  ·have := cutL_sum c l (acc ++ [b]) w h
   simp only [List.length_append, List.length_cons, List.length_nil] at this ⊢; omega
theorem all_take_succ {α : Type} {l : List α} {f : α → Bool} {k : Nat} (hk : k < l.length) (h : (l.take k).all f = true) (h2 : f l[k] = true) : (l.take (k + 1)).all f = true := by
 rw [List.take_succ_eq_append_getElem hk, List.all_append, h]; simp [h2]
def rdL (rd : List UInt8 → Fold × Bool) (W : List (List UInt8)) (k : Nat) : List Fold := (W.take k).map fun w => (rd w).1
theorem rdL_zero (rd : List UInt8 → Fold × Bool) (W : List (List UInt8)) : rdL rd W 0 = [] := rfl
theorem rdL_succ (rd : List UInt8 → Fold × Bool) {W : List (List UInt8)} {k : Nat} (h : k < W.length) : rdL rd W (k + 1) = rdL rd W k ++ [(rd W[k]).1] := by rw [rdL, List.take_succ_eq_append_getElem h, List.map_append]; rfl
set_option maxHeartbeats 4000000 in
theorem parse_R (s : List UInt8) (hs : s.length ≤ 1000000) : Ctr Tryz.prog 9 [(.v (.string (bs s)))] (fun rr => rr = ⟨.tup [.sl true 2 ((prsG rdF s).1.map eF), (.v (.int .i64 ((prsG rdF s).2)))], []⟩) := by
 have encs := And.intro encs (And.intro eT_def (show ∀ f, eF f = [(.v (.int .i64 f.kind)), (.v (.int .i64 f.count))] from fun _ => rfl))
 refine Ctr.of (rs := [.tmp 2, .tmp 3]) Tok true Tryz.func9 rfl rfl rfl rfl (by simp [ofDL]) (fun w0 kp => ?_)
 simp only [↓sx0, sxE, encs, sevalprocAttr]
 rw [show (⟨#[]⟩ : ByteArray) = bs [] from rfl]
 refine BrW.dec (fun h0 => ?_) (fun h0 => ?_)
 ·have h0 := bs_inj.1 h0
  subst h0
  simp only [↓sx0, sxE, encs, sevalprocAttr]
  refine EndW.fn ?_ ?_ <;> simp only [sx4, encs, kpLL_map, sxR, sevalprocAttr] <;> (try simp [prsG]) <;> (try omega)
 ·have h0 : ¬ s = [] := fun e => h0 (by rw [e])
  simp only [↓sx0, sxE, encs, sevalprocAttr]
  refine CallI.fn (cut_R s 32 hs) (by simp only [sx3, encs, sxR, sevalprocAttr] <;> (try simp) <;> (try rfl)) ?_
  simp only [↓sx0, sxE, encs, sevalprocAttr]
  refine BrW.dec (fun h1 => ?_) (fun h1 => ?_)
  ·simp only [↓sx0, sxE, encs, sevalprocAttr]
   have hv : prsG rdF s = ([], 8) := by rw [prsG, if_neg h0, if_pos (by omega)]
   refine EndW.fn ?_ ?_ <;> simp only [sx4, encs, kpLL_map, sxR, sevalprocAttr] <;> (try simp [hv]) <;> (try omega)
  ·simp only [↓sx0, sxE, encs, sevalprocAttr]
   have hn : ¬ 12 < (cutL 32 [] s).length := by omega
   refine LoopW.comp [4, 5, 6] (by simp only [sx2, encs, sxR, sevalprocAttr] <;> (try simp) <;> (try omega)) ?_
   simp only [sx2, sxR, sevalprocAttr]
   refine LoopW.up Tok (fun k : Nat => [(5, .row 0), (6, (.v (.int .i64 ((k : Int)))))]) (fun k => []) (fun k => []) (fun k => [.own 69 2 ((rdL rdF (cutL 32 [] s) k).map eF)]) (fun k => k ≤ (cutL 32 [] s).length ∧ ((cutL 32 [] s).take k).all (fun w => (rdF w).2) = true) (fun k => (cutL 32 [] s).length - k) (0) (by simp only [sx2, encs, sxR, sevalprocAttr] <;> (try simp [rdL_zero, encs]) <;> (try omega)) ?_ ?_
   ·exact ⟨Nat.zero_le _, by simp⟩
   rintro k ⟨hk, ha⟩
   simp only [↓sx0, sxE, encs, sevalprocAttr]
   refine BrW.dec (fun hlt => ?_) (fun hlt => ?_)
   ·simp only [↓sx0, sxE, encs, sevalprocAttr]
    have hlt : k < (cutL 32 [] s).length := by omega
    refine IxW.nat hlt ?_
    simp only [↓sx0, sxE, encs, sevalprocAttr]
    have hwl := cutL_sum 32 s [] _ (List.getElem_mem hlt)
    simp only [List.length_nil] at hwl
    refine CallI.fn (foldOf_R (cutL 32 [] s)[k] (by omega)) (by simp only [sx3, encs, sxR, sevalprocAttr] <;> (try simp) <;> (try rfl)) ?_
    simp only [↓sx0, sxE, encs, sevalprocAttr]
    refine BrW.of (fun hb => ?_) (fun hb => ?_)
    ·simp only [↓sx0, sxE, encs, sevalprocAttr]
     have hkl : (rdL rdF (cutL 32 [] s) k).length = k := by rw [rdL, List.length_map, List.length_take]; omega
     repeat ((with_reducible refine Vc.go ?_ fun _ => ?_); (focus (first | omega | (simp only [InK]; omega) | (simp [InK]; done) | (simp [InK]; omega))); simp only [↓sx0, sxE, encs, sevalprocAttr])
     have htk := rdL_succ rdF hlt
     refine ⟨k + 1, StLe.auto (by simp only [sx2, encs, sxR, sevalprocAttr] <;> (try simp [htk, encs]) <;> (try omega)), ?_, ?_⟩
     ·exact ⟨hlt, all_take_succ hlt ha hb⟩
     ·omega
    ·simp only [↓sx0, sxE, encs, sevalprocAttr]
     have hv : prsG rdF s = ([], 7) := by
      rw [prsG, if_neg h0, if_neg hn, if_neg (fun h => by
       rw [List.all_eq_true] at h
       rw [h _ (List.getElem_mem hlt)] at hb
       cases hb)]
     refine EndW.fn ?_ ?_ <;> simp only [sx4, encs, kpLL_map, sxR, sevalprocAttr] <;> (try simp [hv]) <;> (try omega)
   ·simp only [↓sx0, sxE, encs, sevalprocAttr]
    have hke : k = (cutL 32 [] s).length := by omega
    subst hke
    rw [List.take_length] at ha
    have hv : prsG rdF s = (rdL rdF (cutL 32 [] s) (cutL 32 [] s).length, 0) := by rw [prsG, if_neg h0, if_neg hn, if_pos ha, rdL, List.take_length]
    refine EndW.fn ?_ ?_ <;> simp only [sx4, encs, kpLL_map, sxR, sevalprocAttr] <;> (try simp [hv]) <;> (try omega)
end Go.Proofs.YteajjcbinnjgaaaGreatDoor
/-
 Chapter 6: folds read (the program).
-/
namespace Go.Proofs.YteajjcbinnjgaaaGreatDoor
open Go Go.Vx
set_option linter.unusedSimpArgs false
set_option linter.unusedVariables false
set_option maxRecDepth 20000
def ixF (c : UInt8) : Int := Lib.indexByte [63, 76, 82, 85, 68] c
def rdP (w : List UInt8) : Fold × Bool :=
 if w = [79] then (⟨5, 0⟩, true) else if w = [84] then (⟨6, 0⟩, true) else
 match w with
 | [] => (⟨0, 0⟩, false)
 | c :: r => (⟨ixF c, (numP r 2).1⟩, decide (0 < ixF c) && (numP r 2).2 && decide (0 ≤ (numP r 2).1))
set_option maxHeartbeats 4000000 in
theorem foldOf_s (w : List UInt8) (hw : w.length ≤ 1000000) : CtrK glob Tryz.prog 30 [(.v (.string (bs w)))] (fun rr => rr = ⟨.tup [.agg [(.v (.int .i64 ((rdP w).1.kind))), (.v (.int .i64 ((rdP w).1.count)))], (.v (.bool ((rdP w).2)))], []⟩) := by
 have h79 : (⟨#[79]⟩ : ByteArray) = bs [79] := rfl
 have h84 : (⟨#[84]⟩ : ByteArray) = bs [84] := rfl
 refine CtrK.of (rs := [.cell 2 69, .tmp 3]) Tok true Tryz.func30 rfl rfl rfl rfl (by simp [ofDL]) (fun w0 kp hgl => ?_)
 simp only [↓sx0, sxE, encs, sevalprocAttr]
 rw [h79]
 refine BrW.dec (fun h1 => ?_) (fun h1 => ?_)
 ·have h1 := bs_inj.1 h1
  subst h1
  simp only [↓sx0, sxE, encs, sevalprocAttr]
  refine EndW.fn ?_ ?_ <;> simp only [sx4, encs, kpLL_map, sxR, sevalprocAttr] <;> (try simp [rdP]) <;> (try omega)
 ·simp only [↓sx0, sxE, encs, sevalprocAttr]
  rw [h84]
  have h1 : ¬ w = [79] := fun e => h1 (by rw [e])
  refine BrW.dec (fun h2 => ?_) (fun h2 => ?_)
  ·have h2 := bs_inj.1 h2
   subst h2
   simp only [↓sx0, sxE, encs, sevalprocAttr]
   refine EndW.fn ?_ ?_ <;> simp only [sx4, encs, kpLL_map, sxR, sevalprocAttr] <;> (try simp [rdP]) <;> (try omega)
  ·have h2 : ¬ w = [84] := fun e => h2 (by rw [e])
   simp only [↓sx0, sxE, encs, sevalprocAttr]
   rw [show (⟨#[]⟩ : ByteArray) = bs [] from rfl]
   refine BrW.dec (fun h0 => ?_) (fun h0 => ?_)
   ·have h0 := bs_inj.1 h0
    subst h0
    simp only [↓sx0, sxE, encs, sevalprocAttr]
    refine EndW.fn ?_ ?_ <;> simp only [sx4, encs, kpLL_map, sxR, sevalprocAttr] <;> (try simp [rdP]) <;> (try omega)
   ·obtain ⟨c, r, rfl⟩ : ∃ c r, w = c :: r := by
     cases w with
     | nil => exact absurd rfl h0
     | cons c r => exact ⟨c, r, rfl⟩
    have hlc : (c :: r).length = r.length + 1 := rfl
    have hsz := bs_size (c :: r)
    simp only [↓sx0, sxE, encs, sevalprocAttr]
    have hs7 : (⟨#[63, 76, 82, 85, 68, 84, 79]⟩ : ByteArray).size = 7 := rfl
    have hi := indexByte_s (bs [63, 76, 82, 85, 68]) (c.toNat : Int)
    rw [bs_toList, show ((c.toNat : Int)).toNat.toUInt8 = c from UInt8.ofNat_toNat, show Lib.indexByte [63, 76, 82, 85, 68] c = ixF c from rfl] at hi
    have hv : rdP (c :: r) = (⟨ixF c, (numP r 2).1⟩, decide (0 < ixF c) && (numP r 2).2 && decide (0 ≤ (numP r 2).1)) := by
     unfold rdP
     rw [if_neg h1, if_neg h2]
    have hn := number_s (bs r) 2 (by rw [bs_size]; omega) (by decide)
    rw [bs_toList] at hn
    refine DrawW.plan Tok mixed (.q 0 <| .q 1 <| .e 2 [] <| .e 3 [] <| .q 4 <| .done) (by kernel_rfl) (by kernel_rfl) ?_
    simp only [↓sx0, sxE, encs, sevalprocAttr]
    repeat ((with_reducible refine Vc.go ?_ fun _ => ?_); (focus (first | omega | (simp only [InK]; omega) | (simp [InK]; done) | (simp [InK]; omega))); simp only [↓sx0, sxE, encs, sevalprocAttr])
    refine sIx_0 ?_
    simp only [↓sx0, sxE, encs, sevalprocAttr]
    rw [show (⟨#[63, 76, 82, 85, 68, 84, 79]⟩ : ByteArray).extract 0 5 = bs [63, 76, 82, 85, 68] from rfl]
    refine CallI.fn (hi) (by simp only [sx3, encs, sxR, sevalprocAttr] <;> (try simp) <;> (try rfl)) ?_
    simp only [↓sx0, sxE, encs, sevalprocAttr]
    repeat ((with_reducible refine Vc.go ?_ fun _ => ?_); (focus (first | omega | (simp only [InK]; omega) | (simp [InK]; done) | (simp [InK]; omega))); simp only [↓sx0, sxE, encs, sevalprocAttr])
    rw [ext_tail c r _ _ rfl (by omega)]
    refine CallI.fnK (hn) glob_ok hgl rfl (by simp only [sx3, encs, sxR, sevalprocAttr] <;> (try simp) <;> (try rfl)) ?_
    simp only [↓sx0, sxE, encs, sevalprocAttr]
    refine BrW.dec (fun hpos => ?_) (fun hpos => ?_)
    ·simp only [↓sx0, sxE, encs, sevalprocAttr]
     refine BrW.of (fun hb => ?_) (fun hb => ?_)
     ·simp only [↓sx0, sxE, encs, sevalprocAttr]
      refine EndW.fn ?_ ?_ <;> simp only [sx4, encs, kpLL_map, sxR, sevalprocAttr] <;> (try simp [hv, hb, hpos]) <;> (try omega)
     ·simp only [↓sx0, sxE, encs, sevalprocAttr]
      refine EndW.fn ?_ ?_ <;> simp only [sx4, encs, kpLL_map, sxR, sevalprocAttr] <;> (try simp [hv, hb, hpos]) <;> (try omega)
    ·simp only [↓sx0, sxE, encs, sevalprocAttr]
     refine EndW.fn ?_ ?_ <;> simp only [sx4, encs, kpLL_map, sxR, sevalprocAttr] <;> (try simp [hv, hpos]) <;> (try omega)
end Go.Proofs.YteajjcbinnjgaaaGreatDoor
/-
 Chapter 6: folds read (the program).
-/
namespace Go.Proofs.YteajjcbinnjgaaaGreatDoor
open Go Go.Vx
set_option linter.unusedSimpArgs false
set_option linter.unusedVariables false
set_option maxRecDepth 20000
theorem split_T (s : List UInt8) (hs : s.length ≤ 1000000) : CtrK glob Tryz.prog 29 [(.v (.string (bs s))), (.v (.string (⟨#[32]⟩)))] (fun rr => rr = ⟨.row 0, [.own 9 1 ((cutL 32 [] s).map eT)]⟩) := by
 have h := split_s (bs s) 32 (by rw [bs_size]; omega)
 have e := split_cut 32 (bs s)
 rw [bs_toList] at e
 rw [show (cutL 32 [] s).map eT = (Lib.splitB ⟨#[32]⟩ 0 (Lib.countB (bs s) ⟨#[32]⟩) (bs s)).map fun x => [.v (.string x)] by
  rw [← e, List.map_map]
  exact List.map_congr_left fun x _ => by simp only [Function.comp, eT, bs_data]]
 exact h
set_option maxHeartbeats 4000000 in
theorem parse_s (s : List UInt8) (hs : s.length ≤ 1000000) : CtrK glob Tryz.prog 8 [(.v (.string (bs s)))] (fun rr => rr = ⟨.tup [.sl true 2 ((prsG rdP s).1.map eF), (.v (.int .i64 ((prsG rdP s).2)))], []⟩) := by
 have encs := And.intro encs (And.intro eT_def (show ∀ f, eF f = [(.v (.int .i64 f.kind)), (.v (.int .i64 f.count))] from fun _ => rfl))
 refine CtrK.of (rs := [.tmp 2, .tmp 3]) Tok true Tryz.func8 rfl rfl rfl rfl (by simp [ofDL]) (fun w0 kp hgl => ?_)
 simp only [↓sx0, sxE, encs, sevalprocAttr]
 rw [show (⟨#[]⟩ : ByteArray) = bs [] from rfl]
 refine BrW.dec (fun h0 => ?_) (fun h0 => ?_)
 ·have h0 := bs_inj.1 h0
  subst h0
  simp only [↓sx0, sxE, encs, sevalprocAttr]
  refine EndW.fn ?_ ?_ <;> simp only [sx4, encs, kpLL_map, sxR, sevalprocAttr] <;> (try simp [prsG]) <;> (try omega)
 ·have h0 : ¬ s = [] := fun e => h0 (by rw [e])
  simp only [↓sx0, sxE, encs, sevalprocAttr]
  refine CallI.ctrK (split_T s (by omega)) glob_ok hgl rfl (by simp only [sx3, encs, sxR, sevalprocAttr] <;> (try simp) <;> (try rfl)) ?_
  rintro _ rfl
  simp only [↓sx0, sxE, encs, sevalprocAttr]
  refine BrW.dec (fun h1 => ?_) (fun h1 => ?_)
  ·simp only [↓sx0, sxE, encs, sevalprocAttr]
   have hv : prsG rdP s = ([], 8) := by rw [prsG, if_neg h0, if_pos (by omega)]
   refine EndW.fn ?_ ?_ <;> simp only [sx4, encs, kpLL_map, sxR, sevalprocAttr] <;> (try simp [hv]) <;> (try omega)
  ·simp only [↓sx0, sxE, encs, sevalprocAttr]
   have hn : ¬ 12 < (cutL 32 [] s).length := by omega
   refine LoopW.comp [5, 17, 18, 19] (by simp only [sx2, encs, sxR, sevalprocAttr] <;> (try simp) <;> (try omega)) ?_
   simp only [sx2, sxR, sevalprocAttr]
   refine LoopW.up Tok (fun k : Nat => [(5, .row 1), (19, (.v (.int .i64 ((k : Int)))))]) (fun k => []) (fun k => []) (fun k => [.own 69 2 ((rdL rdP (cutL 32 [] s) k).map eF)]) (fun k => k ≤ (cutL 32 [] s).length ∧ ((cutL 32 [] s).take k).all (fun w => (rdP w).2) = true) (fun k => (cutL 32 [] s).length - k) (0) (by simp only [sx2, encs, sxR, sevalprocAttr] <;> (try simp [rdL_zero, encs]) <;> (try omega)) ?_ ?_
   ·exact ⟨Nat.zero_le _, by simp⟩
   rintro k ⟨hk, ha⟩
   simp only [↓sx0, sxE, encs, sevalprocAttr]
   refine BrW.dec (fun hlt => ?_) (fun hlt => ?_)
   ·simp only [↓sx0, sxE, encs, sevalprocAttr]
    have hlt : k < (cutL 32 [] s).length := by omega
    repeat ((with_reducible refine Vc.go ?_ fun _ => ?_); (focus (first | omega | (simp only [InK]; omega) | (simp [InK]; done) | (simp [InK]; omega))); simp only [↓sx0, sxE, encs, sevalprocAttr])
    refine IxW.nat hlt ?_
    simp only [↓sx0, sxE, encs, sevalprocAttr]
    have hwl := cutL_sum 32 s [] _ (List.getElem_mem hlt)
    simp only [List.length_nil] at hwl
    refine CallI.fnK (foldOf_s (cutL 32 [] s)[k] (by omega)) glob_ok hgl rfl (by simp only [sx3, encs, sxR, sevalprocAttr] <;> (try simp) <;> (try rfl)) ?_
    simp only [↓sx0, sxE, encs, sevalprocAttr]
    refine BrW.of (fun hb => ?_) (fun hb => ?_)
    ·simp only [↓sx0, sxE, encs, sevalprocAttr]
     have hkl : (rdL rdP (cutL 32 [] s) k).length = k := by rw [rdL, List.length_map, List.length_take]; omega
     repeat ((with_reducible refine Vc.go ?_ fun _ => ?_); (focus (first | omega | (simp only [InK]; omega) | (simp [InK]; done) | (simp [InK]; omega))); simp only [↓sx0, sxE, encs, sevalprocAttr])
     have htk := rdL_succ rdP hlt
     refine ⟨k + 1, StLe.auto (by simp only [sx2, encs, sxR, sevalprocAttr] <;> (try simp [htk, encs]) <;> (try omega)), ?_, ?_⟩
     ·exact ⟨hlt, all_take_succ hlt ha hb⟩
     ·omega
    ·simp only [↓sx0, sxE, encs, sevalprocAttr]
     have hv : prsG rdP s = ([], 7) := by
      rw [prsG, if_neg h0, if_neg hn, if_neg (fun h => by
       rw [List.all_eq_true] at h
       rw [h _ (List.getElem_mem hlt)] at hb
       cases hb)]
     refine EndW.fn ?_ ?_ <;> simp only [sx4, encs, kpLL_map, sxR, sevalprocAttr] <;> (try simp [hv]) <;> (try omega)
   ·simp only [↓sx0, sxE, encs, sevalprocAttr]
    have hke : k = (cutL 32 [] s).length := by omega
    subst hke
    rw [List.take_length] at ha
    have hv : prsG rdP s = (rdL rdP (cutL 32 [] s) (cutL 32 [] s).length, 0) := by rw [prsG, if_neg h0, if_neg hn, if_pos ha, rdL, List.take_length]
    refine EndW.fn ?_ ?_ <;> simp only [sx4, encs, kpLL_map, sxR, sevalprocAttr] <;> (try simp [hv]) <;> (try omega)
end Go.Proofs.YteajjcbinnjgaaaGreatDoor
/-
 Chapter 6: folds written (the reference).
-/
namespace Go.Proofs.YteajjcbinnjgaaaGreatDoor
open Go Go.Vx
set_option linter.unusedSimpArgs false
set_option linter.unusedVariables false
set_option maxRecDepth 20000
def InC (f : Fold) : Prop := -9223372036854775808 ≤ f.count ∧ f.count ≤ 9223372036854775807
def fmtK (l : List Fold) (k : Nat) : List UInt8 := Lib.join ((l.take k).map wrF) [32]
theorem join_snoc (xs : List (List UInt8)) (y sep : List UInt8) : Lib.join (xs ++ [y]) sep = if xs = [] then y else Lib.join xs sep ++ sep ++ y := by
 cases xs with
 | nil => rw [if_pos rfl]; exact Lib.join_one y sep
 | cons x r => rw [if_neg (by simp), List.cons_append, Lib.join_cons, Lib.join_cons]; simp [Lib.joinTail]
theorem fmtK_zero (l : List Fold) : fmtK l 0 = [] := rfl
theorem fmtK_succ {l : List Fold} {k : Nat} (h : k < l.length) : fmtK l (k + 1) = if k = 0 then wrF l[k] else fmtK l k ++ [32] ++ wrF l[k] := by
 rw [fmtK, List.take_succ_eq_append_getElem h, List.map_append, List.map_singleton, join_snoc]
 by_cases hk : k = 0
 ·subst hk; simp
 ·rw [if_neg hk, if_neg (by
   intro e
   have := congrArg List.length e
   rw [List.length_map, List.length_take] at this
   simp only [List.length_nil] at this
   omega)]; rfl
theorem itoa_len {n : Int} (h : -9223372036854775808 ≤ n ∧ n ≤ 9223372036854775807) : (Lib.itoa n).length ≤ 21 := by
 rw [Lib.itoa]
 split
 ·have := dec_len 19 n.natAbs (by omega)
  simp only [List.length_cons]; omega
 ·have := dec_len 19 n.toNat (by omega)
  omega
theorem wrF_len {f : Fold} (h : InC f) : (wrF f).length ≤ 22 := by
 have := itoa_len h
 unfold wrF
 repeat' split
 all_goals (simp only [List.length_cons, List.length_nil]; try omega)
theorem fmtK_len {l : List Fold} (h : ∀ f ∈ l, InC f) : ∀ k, k ≤ l.length → (fmtK l k).length ≤ 23 * k
 | 0, _ => by rw [fmtK_zero]; simp
 | k + 1, hk => by
  have ih := fmtK_len h k (by omega)
  have hw := wrF_len (h _ (List.getElem_mem (show k < l.length by omega)))
  rw [fmtK_succ (by omega)]
  split
  ·omega
  ·simp only [List.length_append, List.length_cons, List.length_nil]; omega
def lt6 (k : Int) : UInt8 := if k = 1 then 76 else if k = 2 then 82 else if k = 3 then 85 else if k = 4 then 68 else if k = 5 then 79 else 84
theorem ext_lt6 {k : Int} (h : 1 ≤ k ∧ k ≤ 6) (i j : Nat) (hi : i = (k - 1).toNat) (hj : j = k.toNat) : (⟨#[76, 82, 85, 68, 79, 84]⟩ : ByteArray).extract i j = bs [lt6 k] := by
 rw [hi, hj]
 obtain rfl | rfl | rfl | rfl | rfl | rfl : k = 1 ∨ k = 2 ∨ k = 3 ∨ k = 4 ∨ k = 5 ∨ k = 6 := by omega
 all_goals rfl
theorem lt6_79 {k : Int} (h : 1 ≤ k ∧ k ≤ 6) : lt6 k = 79 ↔ k = 5 := by
 obtain rfl | rfl | rfl | rfl | rfl | rfl : k = 1 ∨ k = 2 ∨ k = 3 ∨ k = 4 ∨ k = 5 ∨ k = 6 := by omega
 all_goals decide
theorem lt6_84 {k : Int} (h : 1 ≤ k ∧ k ≤ 6) : lt6 k = 84 ↔ k = 6 := by
 obtain rfl | rfl | rfl | rfl | rfl | rfl : k = 1 ∨ k = 2 ∨ k = 3 ∨ k = 4 ∨ k = 5 ∨ k = 6 := by omega
 all_goals decide
theorem lt6_le {k : Int} (h : 1 ≤ k ∧ k ≤ 4) : lt6 k = leF k := by
 obtain rfl | rfl | rfl | rfl : k = 1 ∨ k = 2 ∨ k = 3 ∨ k = 4 := by omega
 all_goals decide
theorem leF_no {k : Int} (h : ¬ (1 ≤ k ∧ k ≤ 6)) : leF k = 63 := by
 unfold leF
 rw [if_neg (by omega), if_neg (by omega), if_neg (by omega), if_neg (by omega)]
set_option maxHeartbeats 4000000 in
theorem format_R (b : Bool) (l : List Fold) (hl : l.length ≤ 20) (hc : ∀ f ∈ l, InC f) : Ctr Tryz.prog 10 [.sl b 2 (l.map eF)] (fun rr => rr = ⟨(.v (.string (bs (fmtK l l.length)))), []⟩) := by
 have encs := And.intro encs (show ∀ f, eF f = [(.v (.int .i64 f.kind)), (.v (.int .i64 f.count))] from fun _ => rfl)
 refine Ctr.of (rs := [.tmp 2]) Tok true Tryz.func10 rfl rfl rfl rfl (by simp [ofDL]) (fun w0 kp => ?_)
 simp only [↓sx0, sxE, encs, sevalprocAttr]
 refine LoopW.comp [0, 3, 4] (by simp only [sx2, encs, sxR, sevalprocAttr] <;> (try simp) <;> (try omega)) ?_
 simp only [sx2, sxR, sevalprocAttr]
 refine LoopW.up Tok (fun k : Nat => [(3, (.v (.string (bs (fmtK l k))))), (4, (.v (.int .i64 ((k : Int)))))]) (fun k => []) (fun k => []) (fun k => []) (fun k => k ≤ l.length) (fun k => l.length - k) (0) (by simp only [sx2, encs, sxR, sevalprocAttr] <;> (try simp [fmtK_zero, bs_nil, encs]) <;> (try omega)) ?_ ?_
 ·exact Nat.zero_le _
 rintro k hk
 have hkl := fmtK_len hc k hk
 have hsz := bs_size (fmtK l k)
 simp only [↓sx0, sxE, encs, sevalprocAttr]
 refine BrW.dec (fun hlt => ?_) (fun hlt => ?_)
 ·have hlt : k < l.length := by omega
  have hif := hc _ (List.getElem_mem hlt)
  have hsc := fmtK_succ hlt
  simp only [↓sx0, sxE, encs, sevalprocAttr]
  have h79 : (⟨#[79]⟩ : ByteArray) = bs [79] := rfl
  have h84 : (⟨#[84]⟩ : ByteArray) = bs [84] := rfl
  have h32 : (⟨#[32]⟩ : ByteArray) = bs [32] := rfl
  have hz1 : (⟨#[32]⟩ : ByteArray).size = 1 := rfl
  have hs6 : (⟨#[76, 82, 85, 68, 79, 84]⟩ : ByteArray).size = 6 := rfl
  have h79 : (⟨#[79]⟩ : ByteArray) = bs [79] := rfl
  have h84 : (⟨#[84]⟩ : ByteArray) = bs [84] := rfl
  have h32 : (⟨#[32]⟩ : ByteArray) = bs [32] := rfl
  have hz1 : (⟨#[32]⟩ : ByteArray).size = 1 := rfl
  have hs6 : (⟨#[76, 82, 85, 68, 79, 84]⟩ : ByteArray).size = 6 := rfl
  have h79 : (⟨#[79]⟩ : ByteArray) = bs [79] := rfl
  have h63 : (⟨#[63]⟩ : ByteArray) = bs [63] := rfl
  have h84 : (⟨#[84]⟩ : ByteArray) = bs [84] := rfl
  have h32 : (⟨#[32]⟩ : ByteArray) = bs [32] := rfl
  have hz1 : (⟨#[32]⟩ : ByteArray).size = 1 := rfl
  have hs6 : (⟨#[76, 82, 85, 68, 79, 84]⟩ : ByteArray).size = 6 := rfl
  have h79 : (⟨#[79]⟩ : ByteArray) = bs [79] := rfl
  have h63 : (⟨#[63]⟩ : ByteArray) = bs [63] := rfl
  have h84 : (⟨#[84]⟩ : ByteArray) = bs [84] := rfl
  have h32 : (⟨#[32]⟩ : ByteArray) = bs [32] := rfl
  have hz1 : (⟨#[32]⟩ : ByteArray).size = 1 := rfl
  have hs6 : (⟨#[76, 82, 85, 68, 79, 84]⟩ : ByteArray).size = 6 := rfl
  have h79 : (⟨#[79]⟩ : ByteArray) = bs [79] := rfl
  have h63 : (⟨#[63]⟩ : ByteArray) = bs [63] := rfl
  have h84 : (⟨#[84]⟩ : ByteArray) = bs [84] := rfl
  have h32 : (⟨#[32]⟩ : ByteArray) = bs [32] := rfl
  have hz1 : (⟨#[32]⟩ : ByteArray).size = 1 := rfl
  have hs6 : (⟨#[76, 82, 85, 68, 79, 84]⟩ : ByteArray).size = 6 := rfl
  refine BrW.dec (fun hz => ?_) (fun hz => ?_)
  ·rw [if_neg (by omega)] at hsc
   simp only [↓sx0, sxE, encs, sevalprocAttr]
   repeat ((with_reducible refine Vc.go ?_ fun _ => ?_); (focus (first | omega | (simp only [InK]; omega) | (simp [InK]; done) | (simp [InK]; omega))); simp only [↓sx0, sxE, encs, sevalprocAttr])
   rw [h32, bs_add]
   have hPl : (fmtK l k ++ [32]).length ≤ 23 * k + 1 := by rw [List.length_append]; simp only [List.length_cons, List.length_nil]; omega
   have hPz := bs_size (fmtK l k ++ [32])
   generalize fmtK l k ++ [32] = P at hsc hPl hPz ⊢
   refine IxW.nat hlt ?_
   simp only [↓sx0, sxE, encs, sevalprocAttr]
   refine CallI.fn (withinB_s l[k].kind 1 6) (by simp only [sx3, encs, sxR, sevalprocAttr] <;> (try simp) <;> (try rfl)) ?_
   simp only [↓sx0, sxE, encs, sevalprocAttr]
   refine BrW.dec (fun hw => ?_) (fun hw => ?_)
   ·simp only [↓sx0, sxE, encs, sevalprocAttr]
    refine DrawW.plan Tok mixed (.q 1 <| .q 2 <| .q 3 <| .q 4 <| .q 5 <| .q 6 <| .q 7 <| .q 8 <| .q 9 <| .q 10 <| .q 11 <| .e 0 [5, 11] <| .q 12 <| .q 13 <| .done) (by kernel_rfl) (by kernel_rfl) ?_
    simp only [↓sx0, sxE, encs, sevalprocAttr]
    refine IxW.nat hlt ?_
    simp only [↓sx0, sxE, encs, sevalprocAttr]
    repeat ((with_reducible refine Vc.go ?_ fun _ => ?_); (focus (first | omega | (simp only [InK]; omega) | (simp [InK]; done) | (simp [InK]; omega))); simp only [↓sx0, sxE, encs, sevalprocAttr])
    refine IxW.nat hlt ?_
    simp only [↓sx0, sxE, encs, sevalprocAttr]
    refine CallI.fn (letters_s) (by simp only [sx3, encs, sxR, sevalprocAttr] <;> (try simp) <;> (try rfl)) ?_
    simp only [↓sx0, sxE, encs, sevalprocAttr]
    repeat ((with_reducible refine Vc.go ?_ fun _ => ?_); (focus (first | omega | (simp only [InK]; omega) | (simp [InK]; done) | (simp [InK]; omega))); simp only [↓sx0, sxE, encs, sevalprocAttr])
    rw [ext_lt6 hw _ _ rfl rfl]
    have hs1 : (bs [lt6 l[k].kind]).size = 1 := bs_size _
    repeat ((with_reducible refine Vc.go ?_ fun _ => ?_); (focus (first | omega | (simp only [InK]; omega) | (simp [InK]; done) | (simp [InK]; omega))); simp only [↓sx0, sxE, encs, sevalprocAttr])
    rw [bs_add]
    have hz2 : (bs (P ++ [lt6 l[k].kind])).size = P.length + 1 := by rw [bs_size]; simp
    have hz3 : (bs (Lib.itoa l[k].count)).size ≤ 21 := by rw [bs_size]; exact itoa_len hif
    refine BrW.dec (fun h5 => ?_) (fun h5 => ?_)
    ·have h5 : ¬ l[k].kind = 5 := fun e => h5 (by rw [(lt6_79 hw).2 e]; rfl)
     simp only [↓sx0, sxE, encs, sevalprocAttr]
     refine BrW.dec (fun h6 => ?_) (fun h6 => ?_)
     ·have h6 : ¬ l[k].kind = 6 := fun e => h6 (by rw [(lt6_84 hw).2 e]; rfl)
      simp only [↓sx0, sxE, encs, sevalprocAttr]
      refine IxW.nat hlt ?_
      simp only [↓sx0, sxE, encs, sevalprocAttr]
      refine CallI.fn (decimal_s l[k].count hif.1 hif.2) (by simp only [sx3, encs, sxR, sevalprocAttr] <;> (try simp) <;> (try rfl)) ?_
      simp only [↓sx0, sxE, encs, sevalprocAttr]
      repeat ((with_reducible refine Vc.go ?_ fun _ => ?_); (focus (first | omega | (simp only [InK]; omega) | (simp [InK]; done) | (simp [InK]; omega))); simp only [↓sx0, sxE, encs, sevalprocAttr])
      rw [bs_add]
      repeat ((with_reducible refine Vc.go ?_ fun _ => ?_); (focus (first | omega | (simp only [InK]; omega) | (simp [InK]; done) | (simp [InK]; omega))); simp only [↓sx0, sxE, encs, sevalprocAttr])
      have hW : fmtK l (k + 1) = P ++ [lt6 l[k].kind] ++ Lib.itoa l[k].count := by
       rw [hsc, wrF, if_neg h5, if_neg h6, lt6_le (by omega)]; simp
      refine ⟨k + 1, StLe.auto (by simp only [sx2, encs, sxR, sevalprocAttr] <;> (try simp [hW, encs]) <;> (try omega)), ?_, ?_⟩
      all_goals omega
     ·have h6 : l[k].kind = 6 := (lt6_84 hw).1 (by
       have h6 := Decidable.not_not.1 h6
       rw [h84] at h6
       simpa using bs_inj.1 h6)
      simp only [↓sx0, sxE, encs, sevalprocAttr]
      repeat ((with_reducible refine Vc.go ?_ fun _ => ?_); (focus (first | omega | (simp only [InK]; omega) | (simp [InK]; done) | (simp [InK]; omega))); simp only [↓sx0, sxE, encs, sevalprocAttr])
      have hW : fmtK l (k + 1) = P ++ [lt6 l[k].kind] := by
       rw [hsc, wrF, if_neg h5, if_pos h6, h6]; rfl
      refine ⟨k + 1, StLe.auto (by simp only [sx2, encs, sxR, sevalprocAttr] <;> (try simp [hW, encs]) <;> (try omega)), ?_, ?_⟩
      all_goals omega
    ·have h5 : l[k].kind = 5 := (lt6_79 hw).1 (by
      have h5 := Decidable.not_not.1 h5
      rw [h79] at h5
      simpa using bs_inj.1 h5)
     simp only [↓sx0, sxE, encs, sevalprocAttr]
     repeat ((with_reducible refine Vc.go ?_ fun _ => ?_); (focus (first | omega | (simp only [InK]; omega) | (simp [InK]; done) | (simp [InK]; omega))); simp only [↓sx0, sxE, encs, sevalprocAttr])
     have hW : fmtK l (k + 1) = P ++ [lt6 l[k].kind] := by
      rw [hsc, wrF, if_pos h5, h5]; rfl
     refine ⟨k + 1, StLe.auto (by simp only [sx2, encs, sxR, sevalprocAttr] <;> (try simp [hW, encs]) <;> (try omega)), ?_, ?_⟩
     all_goals omega
   ·simp only [↓sx0, sxE, encs, sevalprocAttr]
    have hs1 : (⟨#[63]⟩ : ByteArray).size = 1 := rfl
    repeat ((with_reducible refine Vc.go ?_ fun _ => ?_); (focus (first | omega | (simp only [InK]; omega) | (simp [InK]; done) | (simp [InK]; omega))); simp only [↓sx0, sxE, encs, sevalprocAttr])
    rw [h63, bs_add]
    have hz2 : (bs (P ++ [63])).size = P.length + 1 := by rw [bs_size]; simp
    have hz3 : (bs (Lib.itoa l[k].count)).size ≤ 21 := by rw [bs_size]; exact itoa_len hif
    refine BrW.yes (by rw [h79, bs_inj]; simp) ?_
    simp only [↓sx0, sxE, encs, sevalprocAttr]
    refine BrW.yes (by rw [h84, bs_inj]; simp) ?_
    simp only [↓sx0, sxE, encs, sevalprocAttr]
    refine IxW.nat hlt ?_
    simp only [↓sx0, sxE, encs, sevalprocAttr]
    refine CallI.fn (decimal_s l[k].count hif.1 hif.2) (by simp only [sx3, encs, sxR, sevalprocAttr] <;> (try simp) <;> (try rfl)) ?_
    simp only [↓sx0, sxE, encs, sevalprocAttr]
    repeat ((with_reducible refine Vc.go ?_ fun _ => ?_); (focus (first | omega | (simp only [InK]; omega) | (simp [InK]; done) | (simp [InK]; omega))); simp only [↓sx0, sxE, encs, sevalprocAttr])
    rw [bs_add]
    repeat ((with_reducible refine Vc.go ?_ fun _ => ?_); (focus (first | omega | (simp only [InK]; omega) | (simp [InK]; done) | (simp [InK]; omega))); simp only [↓sx0, sxE, encs, sevalprocAttr])
    have hW : fmtK l (k + 1) = P ++ [63] ++ Lib.itoa l[k].count := by
     rw [hsc, wrF, if_neg (by omega), if_neg (by omega), leF_no hw]; simp
    refine ⟨k + 1, StLe.auto (by simp only [sx2, encs, sxR, sevalprocAttr] <;> (try simp [hW, encs]) <;> (try omega)), ?_, ?_⟩
    all_goals omega
  ·have hsc : fmtK l (k + 1) = fmtK l k ++ wrF l[k] := by
    have h0 : fmtK l k = [] := by rw [show k = 0 by omega]; rfl
    rw [hsc, if_pos (by omega), h0]; rfl
   have hPl : (fmtK l k).length ≤ 23 * k + 1 := by omega
   have hPz := bs_size (fmtK l k)
   generalize fmtK l k = P at hsc hPl hPz ⊢
   simp only [↓sx0, sxE, encs, sevalprocAttr]
   refine IxW.nat hlt ?_
   simp only [↓sx0, sxE, encs, sevalprocAttr]
   refine CallI.fn (withinB_s l[k].kind 1 6) (by simp only [sx3, encs, sxR, sevalprocAttr] <;> (try simp) <;> (try rfl)) ?_
   simp only [↓sx0, sxE, encs, sevalprocAttr]
   refine BrW.dec (fun hw => ?_) (fun hw => ?_)
   ·simp only [↓sx0, sxE, encs, sevalprocAttr]
    refine DrawW.plan Tok mixed (.q 1 <| .q 2 <| .q 3 <| .q 4 <| .q 5 <| .q 6 <| .q 7 <| .q 8 <| .q 9 <| .q 10 <| .q 11 <| .e 0 [5, 11] <| .q 12 <| .q 13 <| .done) (by kernel_rfl) (by kernel_rfl) ?_
    simp only [↓sx0, sxE, encs, sevalprocAttr]
    refine IxW.nat hlt ?_
    simp only [↓sx0, sxE, encs, sevalprocAttr]
    repeat ((with_reducible refine Vc.go ?_ fun _ => ?_); (focus (first | omega | (simp only [InK]; omega) | (simp [InK]; done) | (simp [InK]; omega))); simp only [↓sx0, sxE, encs, sevalprocAttr])
    refine IxW.nat hlt ?_
    simp only [↓sx0, sxE, encs, sevalprocAttr]
    refine CallI.fn (letters_s) (by simp only [sx3, encs, sxR, sevalprocAttr] <;> (try simp) <;> (try rfl)) ?_
    simp only [↓sx0, sxE, encs, sevalprocAttr]
    repeat ((with_reducible refine Vc.go ?_ fun _ => ?_); (focus (first | omega | (simp only [InK]; omega) | (simp [InK]; done) | (simp [InK]; omega))); simp only [↓sx0, sxE, encs, sevalprocAttr])
    rw [ext_lt6 hw _ _ rfl rfl]
    have hs1 : (bs [lt6 l[k].kind]).size = 1 := bs_size _
    repeat ((with_reducible refine Vc.go ?_ fun _ => ?_); (focus (first | omega | (simp only [InK]; omega) | (simp [InK]; done) | (simp [InK]; omega))); simp only [↓sx0, sxE, encs, sevalprocAttr])
    rw [bs_add]
    have hz2 : (bs (P ++ [lt6 l[k].kind])).size = P.length + 1 := by rw [bs_size]; simp
    have hz3 : (bs (Lib.itoa l[k].count)).size ≤ 21 := by rw [bs_size]; exact itoa_len hif
    refine BrW.dec (fun h5 => ?_) (fun h5 => ?_)
    ·have h5 : ¬ l[k].kind = 5 := fun e => h5 (by rw [(lt6_79 hw).2 e]; rfl)
     simp only [↓sx0, sxE, encs, sevalprocAttr]
     refine BrW.dec (fun h6 => ?_) (fun h6 => ?_)
     ·have h6 : ¬ l[k].kind = 6 := fun e => h6 (by rw [(lt6_84 hw).2 e]; rfl)
      simp only [↓sx0, sxE, encs, sevalprocAttr]
      refine IxW.nat hlt ?_
      simp only [↓sx0, sxE, encs, sevalprocAttr]
      refine CallI.fn (decimal_s l[k].count hif.1 hif.2) (by simp only [sx3, encs, sxR, sevalprocAttr] <;> (try simp) <;> (try rfl)) ?_
      simp only [↓sx0, sxE, encs, sevalprocAttr]
      repeat ((with_reducible refine Vc.go ?_ fun _ => ?_); (focus (first | omega | (simp only [InK]; omega) | (simp [InK]; done) | (simp [InK]; omega))); simp only [↓sx0, sxE, encs, sevalprocAttr])
      rw [bs_add]
      repeat ((with_reducible refine Vc.go ?_ fun _ => ?_); (focus (first | omega | (simp only [InK]; omega) | (simp [InK]; done) | (simp [InK]; omega))); simp only [↓sx0, sxE, encs, sevalprocAttr])
      have hW : fmtK l (k + 1) = P ++ [lt6 l[k].kind] ++ Lib.itoa l[k].count := by
       rw [hsc, wrF, if_neg h5, if_neg h6, lt6_le (by omega)]; simp
      refine ⟨k + 1, StLe.auto (by simp only [sx2, encs, sxR, sevalprocAttr] <;> (try simp [hW, encs]) <;> (try omega)), ?_, ?_⟩
      all_goals omega
     ·have h6 : l[k].kind = 6 := (lt6_84 hw).1 (by
       have h6 := Decidable.not_not.1 h6
       rw [h84] at h6
       simpa using bs_inj.1 h6)
      simp only [↓sx0, sxE, encs, sevalprocAttr]
      repeat ((with_reducible refine Vc.go ?_ fun _ => ?_); (focus (first | omega | (simp only [InK]; omega) | (simp [InK]; done) | (simp [InK]; omega))); simp only [↓sx0, sxE, encs, sevalprocAttr])
      have hW : fmtK l (k + 1) = P ++ [lt6 l[k].kind] := by
       rw [hsc, wrF, if_neg h5, if_pos h6, h6]; rfl
      refine ⟨k + 1, StLe.auto (by simp only [sx2, encs, sxR, sevalprocAttr] <;> (try simp [hW, encs]) <;> (try omega)), ?_, ?_⟩
      all_goals omega
    ·have h5 : l[k].kind = 5 := (lt6_79 hw).1 (by
      have h5 := Decidable.not_not.1 h5
      rw [h79] at h5
      simpa using bs_inj.1 h5)
     simp only [↓sx0, sxE, encs, sevalprocAttr]
     repeat ((with_reducible refine Vc.go ?_ fun _ => ?_); (focus (first | omega | (simp only [InK]; omega) | (simp [InK]; done) | (simp [InK]; omega))); simp only [↓sx0, sxE, encs, sevalprocAttr])
     have hW : fmtK l (k + 1) = P ++ [lt6 l[k].kind] := by
      rw [hsc, wrF, if_pos h5, h5]; rfl
     refine ⟨k + 1, StLe.auto (by simp only [sx2, encs, sxR, sevalprocAttr] <;> (try simp [hW, encs]) <;> (try omega)), ?_, ?_⟩
     all_goals omega
   ·simp only [↓sx0, sxE, encs, sevalprocAttr]
    have hs1 : (⟨#[63]⟩ : ByteArray).size = 1 := rfl
    repeat ((with_reducible refine Vc.go ?_ fun _ => ?_); (focus (first | omega | (simp only [InK]; omega) | (simp [InK]; done) | (simp [InK]; omega))); simp only [↓sx0, sxE, encs, sevalprocAttr])
    rw [h63, bs_add]
    have hz2 : (bs (P ++ [63])).size = P.length + 1 := by rw [bs_size]; simp
    have hz3 : (bs (Lib.itoa l[k].count)).size ≤ 21 := by rw [bs_size]; exact itoa_len hif
    refine BrW.yes (by rw [h79, bs_inj]; simp) ?_
    simp only [↓sx0, sxE, encs, sevalprocAttr]
    refine BrW.yes (by rw [h84, bs_inj]; simp) ?_
    simp only [↓sx0, sxE, encs, sevalprocAttr]
    refine IxW.nat hlt ?_
    simp only [↓sx0, sxE, encs, sevalprocAttr]
    refine CallI.fn (decimal_s l[k].count hif.1 hif.2) (by simp only [sx3, encs, sxR, sevalprocAttr] <;> (try simp) <;> (try rfl)) ?_
    simp only [↓sx0, sxE, encs, sevalprocAttr]
    repeat ((with_reducible refine Vc.go ?_ fun _ => ?_); (focus (first | omega | (simp only [InK]; omega) | (simp [InK]; done) | (simp [InK]; omega))); simp only [↓sx0, sxE, encs, sevalprocAttr])
    rw [bs_add]
    repeat ((with_reducible refine Vc.go ?_ fun _ => ?_); (focus (first | omega | (simp only [InK]; omega) | (simp [InK]; done) | (simp [InK]; omega))); simp only [↓sx0, sxE, encs, sevalprocAttr])
    have hW : fmtK l (k + 1) = P ++ [63] ++ Lib.itoa l[k].count := by
     rw [hsc, wrF, if_neg (by omega), if_neg (by omega), leF_no hw]; simp
    refine ⟨k + 1, StLe.auto (by simp only [sx2, encs, sxR, sevalprocAttr] <;> (try simp [hW, encs]) <;> (try omega)), ?_, ?_⟩
    all_goals omega
 ·simp only [↓sx0, sxE, encs, sevalprocAttr]
  have hke : k = l.length := by omega
  subst hke
  refine EndW.fn ?_ ?_ <;> simp only [sx4, encs, kpLL_map, sxR, sevalprocAttr] <;> (try simp) <;> (try omega)
end Go.Proofs.YteajjcbinnjgaaaGreatDoor
/-
 Chapter 6: folds written (the program).
-/
namespace Go.Proofs.YteajjcbinnjgaaaGreatDoor
open Go Go.Vx
set_option linter.unusedSimpArgs false
set_option linter.unusedVariables false
set_option maxRecDepth 20000
theorem join_T (b : Bool) (W : List (List UInt8)) (hN : W.length ≤ 1000000) (hlen : (Lib.join W [32]).length ≤ 140737488355328) : Ctr Tryz.prog 28 [.sl b 1 (W.map eT), (.v (.string (⟨#[32]⟩)))] (fun rr => rr = ⟨(.v (.string (bs (Lib.join W [32])))), []⟩) := by
 have e : (W.map bs).map (·.data.toList) = W := by
  rw [List.map_map]
  conv => rhs; rw [← List.map_id W]
  exact List.map_congr_left fun x _ => bs_toList x
 have h := join_s b (W.map bs) ⟨#[32]⟩ (by simpa using hN) (by rw [e]; exact hlen)
 rw [e, List.map_map] at h
 exact h
def wrL (l : List Fold) (k : Nat) : List (List UInt8) := (l.take k).map wrF
theorem wrL_zero (l : List Fold) : wrL l 0 = [] := rfl
theorem wrL_succ {l : List Fold} {k : Nat} (h : k < l.length) : wrL l (k + 1) = wrL l k ++ [wrF l[k]] := by rw [wrL, List.take_succ_eq_append_getElem h, List.map_append]; rfl
theorem ext_7 {k : Int} (h : 1 ≤ k ∧ k ≤ 4) (i j : Nat) (hi : i = k.toNat) (hj : j = (k + 1).toNat) : (⟨#[63, 76, 82, 85, 68, 84, 79]⟩ : ByteArray).extract i j = bs [leF k] := by
 rw [hi, hj]
 obtain rfl | rfl | rfl | rfl : k = 1 ∨ k = 2 ∨ k = 3 ∨ k = 4 := by omega
 all_goals rfl
set_option maxHeartbeats 4000000 in
theorem format_s (b : Bool) (l : List Fold) (hl : l.length ≤ 20) (hc : ∀ f ∈ l, InC f) : CtrK glob Tryz.prog 6 [.sl b 2 (l.map eF)] (fun rr => rr = ⟨(.v (.string (bs (fmtK l l.length)))), []⟩) := by
 have encs := And.intro encs (And.intro eT_def (show ∀ f, eF f = [(.v (.int .i64 f.kind)), (.v (.int .i64 f.count))] from fun _ => rfl))
 have hs7 : (⟨#[63, 76, 82, 85, 68, 84, 79]⟩ : ByteArray).size = 7 := rfl
 refine CtrK.of (rs := [.tmp 2]) Tok true Tryz.func6 rfl rfl rfl rfl (by simp [ofDL]) (fun w0 kp hgl => ?_)
 simp only [↓sx0, sxE, encs, sevalprocAttr]
 refine LoopW.comp [3, 6, 7, 8] (by simp only [sx2, encs, sxR, sevalprocAttr] <;> (try simp) <;> (try omega)) ?_
 simp only [sx2, sxR, sevalprocAttr]
 refine LoopW.up Tok (fun k : Nat => [(3, .row 0), (8, (.v (.int .i64 ((k : Int)))))]) (fun k => []) (fun k => []) (fun k => [.own 9 1 ((wrL l k).map eT)]) (fun k => k ≤ l.length) (fun k => l.length - k) (0) (by simp only [sx2, encs, sxR, sevalprocAttr] <;> (try simp [wrL_zero, encs]) <;> (try omega)) ?_ ?_
 ·exact Nat.zero_le _
 rintro k hk
 have hwl : (wrL l k).length = k := by rw [wrL, List.length_map, List.length_take]; omega
 simp only [↓sx0, sxE, encs, sevalprocAttr]
 refine BrW.dec (fun hlt => ?_) (fun hlt => ?_)
 ·have hlt : k < l.length := by omega
  have hif := hc _ (List.getElem_mem hlt)
  have hsc := wrL_succ hlt
  have hsi : (bs (Lib.itoa l[k].count)).size ≤ 21 := by rw [bs_size]; exact itoa_len hif
  simp only [↓sx0, sxE, encs, sevalprocAttr]
  refine IxW.nat hlt ?_
  simp only [↓sx0, sxE, encs, sevalprocAttr]
  refine BrW.dec (fun h5 => ?_) (fun h5 => ?_)
  ·have hW : wrF l[k] = [79] := by rw [wrF, if_pos h5]
   simp only [↓sx0, sxE, encs, sevalprocAttr]
   repeat ((with_reducible refine Vc.go ?_ fun _ => ?_); (focus (first | omega | (simp only [InK]; omega) | (simp [InK]; done) | (simp [InK]; omega))); simp only [↓sx0, sxE, encs, sevalprocAttr])
   rw [show (⟨#[79]⟩ : ByteArray) = bs [79] from rfl]
   refine ⟨k + 1, StLe.auto (by simp only [sx2, encs, sxR, sevalprocAttr] <;> (try simp [hsc, hW, encs]) <;> (try omega)), ?_, ?_⟩
   all_goals omega
  ·simp only [↓sx0, sxE, encs, sevalprocAttr]
   refine BrW.dec (fun h6 => ?_) (fun h6 => ?_)
   ·have hW : wrF l[k] = [84] := by rw [wrF, if_neg h5, if_pos h6]
    simp only [↓sx0, sxE, encs, sevalprocAttr]
    repeat ((with_reducible refine Vc.go ?_ fun _ => ?_); (focus (first | omega | (simp only [InK]; omega) | (simp [InK]; done) | (simp [InK]; omega))); simp only [↓sx0, sxE, encs, sevalprocAttr])
    rw [show (⟨#[84]⟩ : ByteArray) = bs [84] from rfl]
    refine ⟨k + 1, StLe.auto (by simp only [sx2, encs, sxR, sevalprocAttr] <;> (try simp [hsc, hW, encs]) <;> (try omega)), ?_, ?_⟩
    all_goals omega
   ·have hW : wrF l[k] = leF l[k].kind :: Lib.itoa l[k].count := by rw [wrF, if_neg h5, if_neg h6]
    simp only [↓sx0, sxE, encs, sevalprocAttr]
    refine CallI.fn (within_s l[k].kind 1 4) (by simp only [sx3, encs, sxR, sevalprocAttr] <;> (try simp) <;> (try rfl)) ?_
    simp only [↓sx0, sxE, encs, sevalprocAttr]
    refine BrW.dec (fun hw => ?_) (fun hw => ?_)
    ·simp only [↓sx0, sxE, encs, sevalprocAttr]
     refine DrawW.plan Tok mixed (.q 0 <| .q 1 <| .q 2 <| .q 3 <| .q 4 <| .q 5 <| .q 6 <| .q 7 <| .q 8 <| .e 9 [2, 4] <| .q 10 <| .e 11 [] <| .e 12 [] <| .q 13 <| .done) (by kernel_rfl) (by kernel_rfl) ?_
     simp only [↓sx0, sxE, encs, sevalprocAttr]
     repeat ((with_reducible refine Vc.go ?_ fun _ => ?_); (focus (first | omega | (simp only [InK]; omega) | (simp [InK]; done) | (simp [InK]; omega))); simp only [↓sx0, sxE, encs, sevalprocAttr])
     refine CallI.fnK (itoa_s l[k].count hif.1 hif.2) glob_ok hgl rfl (by simp only [sx3, encs, sxR, sevalprocAttr] <;> (try simp) <;> (try rfl)) ?_
     simp only [↓sx0, sxE, encs, sevalprocAttr]
     rw [ext_7 hw _ _ rfl rfl, show (⟨(Lib.itoa l[k].count).toArray⟩ : ByteArray) = bs (Lib.itoa l[k].count) from rfl]
     have hs1 : (bs [leF l[k].kind]).size = 1 := bs_size _
     repeat ((with_reducible refine Vc.go ?_ fun _ => ?_); (focus (first | omega | (simp only [InK]; omega) | (simp [InK]; done) | (simp [InK]; omega))); simp only [↓sx0, sxE, encs, sevalprocAttr])
     rw [bs_add, List.singleton_append]
     refine ⟨k + 1, StLe.auto (by simp only [sx2, encs, sxR, sevalprocAttr] <;> (try simp [hsc, hW, encs]) <;> (try omega)), ?_, ?_⟩
     all_goals omega
    ·simp only [↓sx0, sxE, encs, sevalprocAttr]
     refine DrawW.plan Tok mixed (.q 0 <| .q 1 <| .q 2 <| .q 3 <| .e 4 [] <| .q 5 <| .e 6 [] <| .e 7 [] <| .q 8 <| .done) (by kernel_rfl) (by kernel_rfl) ?_
     simp only [↓sx0, sxE, encs, sevalprocAttr]
     repeat ((with_reducible refine Vc.go ?_ fun _ => ?_); (focus (first | omega | (simp only [InK]; omega) | (simp [InK]; done) | (simp [InK]; omega))); simp only [↓sx0, sxE, encs, sevalprocAttr])
     refine CallI.fnK (itoa_s l[k].count hif.1 hif.2) glob_ok hgl rfl (by simp only [sx3, encs, sxR, sevalprocAttr] <;> (try simp) <;> (try rfl)) ?_
     simp only [↓sx0, sxE, encs, sevalprocAttr]
     have hle : leF l[k].kind = 63 := leF_no (by omega)
     rw [show (⟨#[63, 76, 82, 85, 68, 84, 79]⟩ : ByteArray).extract 0 1 = bs [63] from rfl, show (⟨(Lib.itoa l[k].count).toArray⟩ : ByteArray) = bs (Lib.itoa l[k].count) from rfl]
     have hs1 : (bs [63]).size = 1 := bs_size _
     repeat ((with_reducible refine Vc.go ?_ fun _ => ?_); (focus (first | omega | (simp only [InK]; omega) | (simp [InK]; done) | (simp [InK]; omega))); simp only [↓sx0, sxE, encs, sevalprocAttr])
     rw [bs_add, List.singleton_append]
     refine ⟨k + 1, StLe.auto (by simp only [sx2, encs, sxR, sevalprocAttr] <;> (try simp [hsc, hW, hle, encs]) <;> (try omega)), ?_, ?_⟩
     all_goals omega
 ·simp only [↓sx0, sxE, encs, sevalprocAttr]
  have hke : k = l.length := by omega
  subst hke
  have hfl := fmtK_len hc l.length (Nat.le_refl _)
  have hj := join_T false (wrL l l.length) (by omega) (by rw [show Lib.join (wrL l l.length) [32] = fmtK l l.length from rfl]; omega)
  rw [show Lib.join (wrL l l.length) [32] = fmtK l l.length from rfl] at hj
  refine CallI.fn (hj) (by simp only [sx3, encs, sxR, sevalprocAttr] <;> (try simp) <;> (try rfl)) ?_
  simp only [↓sx0, sxE, encs, sevalprocAttr]
  refine EndW.fn ?_ ?_ <;> simp only [sx4, encs, kpLL_map, sxR, sevalprocAttr] <;> (try simp) <;> (try omega)
end Go.Proofs.YteajjcbinnjgaaaGreatDoor
/-
 Chapter 6: folds as texts, plain: both read alike; right folds are read back.
-/
namespace Go.Proofs.YteajjcbinnjgaaaGreatDoor
open Go Go.Vx
set_option linter.unusedSimpArgs false
set_option linter.unusedVariables false
set_option maxRecDepth 20000
theorem ixF_kd (c : UInt8) : kdF c = 0 ∧ ixF c ≤ 0 ∨ 0 < kdF c ∧ ixF c = kdF c := by
 by_cases h0 : c = 63
 ·subst h0; exact .inl (by decide)
 ·by_cases h1 : c = 76
  ·subst h1; exact .inr (by decide)
  ·by_cases h2 : c = 82
   ·subst h2; exact .inr (by decide)
   ·by_cases h3 : c = 85
    ·subst h3; exact .inr (by decide)
    ·by_cases h4 : c = 68
     ·subst h4; exact .inr (by decide)
     ·refine .inl ⟨by rw [kdF, if_neg h1, if_neg h2, if_neg h3, if_neg h4], ?_⟩
      rw [ixF, byte_no _ (by simp [h0, h1, h2, h3, h4])]
      decide
theorem rd_same (w : List UInt8) : (rdP w).2 = (rdF w).2 ∧ ((rdF w).2 = true → rdP w = rdF w) := by
 unfold rdP rdF
 by_cases h1 : w = [79]
 ·rw [if_pos h1, if_pos h1]; exact ⟨rfl, fun _ => rfl⟩
 rw [if_neg h1, if_neg h1]
 by_cases h2 : w = [84]
 ·rw [if_pos h2, if_pos h2]; exact ⟨rfl, fun _ => rfl⟩
 rw [if_neg h2, if_neg h2]
 cases w with
 | nil => exact ⟨rfl, fun _ => rfl⟩
 | cons c r =>
  simp only
  obtain ⟨n1, n2⟩ := num_same r 2 (by decide)
  by_cases hr : r = [] ∨ kdF c = 0
  ·rw [if_pos hr]
   refine ⟨?_, fun h => by cases h⟩
   rcases hr with hr | hr
   ·subst hr
    rw [n1]
    simp [numR]
   ·rcases ixF_kd c with ⟨_, h⟩ | ⟨h, _⟩
    ·rw [show decide (0 < ixF c) = false by simp; omega]; rfl
    ·omega
  ·rw [if_neg hr]
   rcases ixF_kd c with ⟨h, _⟩ | ⟨h, he⟩
   ·exact absurd (.inr h) hr
   ·rw [he, n1, show decide (0 < kdF c) = true by simpa using h, Bool.true_and]
    cases hb : (numR r 2).2 with
    | false => exact ⟨rfl, fun h => by cases h⟩
    | true =>
     rw [n2 hb]
     exact ⟨rfl, fun _ => rfl⟩
theorem prs_same (s : List UInt8) : prsG rdP s = prsG rdF s := by
 unfold prsG
 split
 ·rfl
 split
 ·rfl
 have ha : (fun w => (rdP w).2) = fun w => (rdF w).2 := funext fun w => (rd_same w).1
 rw [ha]
 split
 ·rename_i h
  rw [List.all_eq_true] at h
  rw [List.map_congr_left fun w hw => by rw [(rd_same w).2 (h w hw)]]
 ·rfl
/-- a fold that may be right. -/
def OkF (x : Fold) : Prop := (x.kind = 5 ∨ x.kind = 6) ∧ x.count = 0 ∨ (1 ≤ x.kind ∧ x.kind ≤ 4) ∧ 1 ≤ x.count ∧ x.count ≤ 8
theorem foldP_small {p : PileS} {x : Fold} (h : foldErrS p x = 0) (hp : p.cols ≤ 8 ∧ p.rows ≤ 8) : OkF x ∧ (foldP p x).cols ≤ 8 ∧ (foldP p x).rows ≤ 8 := by
 have h' := h
 unfold foldErrS at h
 have hs : foldSide p x ≤ 8 := by unfold foldSide; split <;> omega
 by_cases hk : 1 ≤ x.kind ∧ x.kind ≤ 6
 rotate_left
 ·rw [if_pos hk] at h; omega
 rw [if_neg (fun hh => hh hk)] at h
 by_cases h56 : x.kind = 5 ∨ x.kind = 6
 ·simp only [if_pos h56] at h
  by_cases h0 : x.count = 0
  rotate_left
  ·rw [if_pos h0] at h; omega
  refine ⟨.inl ⟨h56, h0⟩, ?_⟩
  unfold foldP
  rw [if_neg (by omega)]
  rcases h56 with h5 | h6
  ·rw [if_pos h5]; exact hp
  ·rw [if_neg (by omega), if_pos h6]; exact hp
 ·simp only [if_neg h56] at h
  by_cases h1 : x.count < 1
  ·rw [if_pos h1] at h; omega
  rw [if_neg h1] at h
  by_cases h3 : ¬ (x.kind = 5 ∨ x.kind = 6) ∧ (foldSide p x : Int) - x.count < x.count
  ·rw [if_pos h3] at h; omega
  have hc : ¬ ((foldSide p x : Int) - x.count < x.count) := fun hh => h3 ⟨h56, hh⟩
  refine ⟨.inr ⟨by omega, by omega, by omega⟩, ?_⟩
  unfold foldP
  rw [if_neg (by omega), if_neg (by omega), if_neg (by omega)]
  simp only
  constructor
  ·split <;> omega
  ·split <;> omega
theorem run_bad : ∀ (l : List Fold) (p q : PileS) (i k : Nat) (e : Int), foldRun p i l = (q, some (k, e)) → e ≠ 0
 | [], _, _, _, _, _, h => by rw [foldRun] at h; cases h
 | x :: l, p, q, i, k, e, h => by
  rw [foldRun] at h
  by_cases hn : foldErrS p x ≠ 0
  ·rw [if_pos hn] at h
   have h2 := (Prod.mk.inj h).2
   have := Option.some.inj h2
   have := (Prod.mk.inj this).2
   omega
  ·rw [if_neg hn] at h
   exact run_bad l _ q _ k e h
theorem run_ok : ∀ (l : List Fold) (p q : PileS) (i : Nat), p.cols ≤ 8 ∧ p.rows ≤ 8 → foldRun p i l = (q, none) → ∀ x ∈ l, OkF x
 | [], _, _, _, _, _ => by simp
 | x :: l, p, q, i, hp, h => by
  rw [foldRun] at h
  split at h
  ·cases h
  ·rename_i hn
   have hn := Decidable.not_not.1 hn
   obtain ⟨h1, h2⟩ := foldP_small hn hp
   intro y hy
   rcases List.mem_cons.1 hy with rfl | hy
   ·exact h1
   ·exact run_ok l _ q _ h2 h y hy
theorem folded_small {c r : Int} {l : List Fold} (h : (foldedS c r l).2.2 = 0) : l.length ≤ 12 ∧ ∀ x ∈ l, OkF x := by
 unfold foldedS at h
 split at h
 ·exact absurd h (by assumption)
 rename_i h1
 have hs : 1 ≤ c ∧ c ≤ 8 ∧ 1 ≤ r ∧ r ≤ 8 := by
  unfold sheetErr at h1
  omega
 split at h
 ·cases h
 rename_i h2
 refine ⟨by omega, ?_⟩
 split at h
 ·rename_i p i e he
  exact absurd h (run_bad l _ _ _ _ _ he)
 ·rename_i p he
  exact run_ok l _ _ _ ⟨by simp only [flatP]; omega, by simp only [flatP]; omega⟩ he
theorem itoa_1 {n : Int} (h : 0 ≤ n ∧ n < 10) : Lib.itoa n = [UInt8.ofNat (48 + n.toNat)] := by
 rw [Lib.itoa, if_neg (by omega), Lib.decDigits, dif_pos (by omega)]
theorem wr_small {k n : Int} (hk : 1 ≤ k ∧ k ≤ 4) (hn : 1 ≤ n ∧ n ≤ 8) : rdF [leF k, UInt8.ofNat (48 + n.toNat)] = (⟨k, n⟩, true) ∧ ¬ (32 : UInt8) ∈ [leF k, UInt8.ofNat (48 + n.toNat)] := by
 obtain rfl | rfl | rfl | rfl : k = 1 ∨ k = 2 ∨ k = 3 ∨ k = 4 := by omega
 all_goals
  obtain rfl | rfl | rfl | rfl | rfl | rfl | rfl | rfl : n = 1 ∨ n = 2 ∨ n = 3 ∨ n = 4 ∨ n = 5 ∨ n = 6 ∨ n = 7 ∨ n = 8 := by omega
  all_goals exact ⟨by decide, by decide⟩
theorem wr_back {f : Fold} (h : OkF f) : rdF (wrF f) = (f, true) ∧ ¬ (32 : UInt8) ∈ wrF f ∧ wrF f ≠ [] := by
 obtain ⟨k, n⟩ := f
 rcases h with ⟨h1, h2⟩ | ⟨h1, h2, h3⟩
 ·simp only at h1 h2
  subst h2
  rcases h1 with rfl | rfl
  ·exact ⟨by decide, by decide, by decide⟩
  ·exact ⟨by decide, by decide, by decide⟩
 ·simp only at h1 h2 h3
  have hw : wrF ⟨k, n⟩ = [leF k, UInt8.ofNat (48 + n.toNat)] := by
   rw [wrF, if_neg (by simp only; omega), if_neg (by simp only; omega)]
   simp only
   rw [itoa_1 ⟨by omega, by omega⟩]
  rw [hw]
  exact ⟨(wr_small h1 ⟨h2, h3⟩).1, (wr_small h1 ⟨h2, h3⟩).2, by simp⟩
theorem cut_join : ∀ (W : List (List UInt8)), W ≠ [] → (∀ w ∈ W, ¬ (32 : UInt8) ∈ w) → cutL 32 [] (Lib.join W [32]) = W
 | [], h, _ => absurd rfl h
 | [w], _, h => by rw [Lib.join_one, cut_miss _ _ (h w (by simp))]; rfl
 | w :: v :: r, _, h => by
  have ih := cut_join (v :: r) (by simp) (fun x hx => h x (List.mem_cons_of_mem _ hx))
  have hj : Lib.join (w :: v :: r) [32] = w ++ 32 :: Lib.join (v :: r) [32] := by
   rw [Lib.join_cons, Lib.join_cons]; simp [Lib.joinTail]
  rw [hj, cut_hit w [] _ (h w (by simp)), ih]; rfl
/-- right folds are read back. -/
theorem fmt_back {l : List Fold} (h12 : l.length ≤ 12) (h : ∀ x ∈ l, OkF x) : prsG rdF (fmtK l l.length) = (l, 0) := by
 by_cases h0 : l = []
 ·subst h0; rfl
 have hcut : cutL 32 [] (fmtK l l.length) = l.map wrF := by
  rw [fmtK, List.take_length]
  exact cut_join _ (by simpa using h0) (fun w hw => by
   obtain ⟨x, hx, rfl⟩ := List.mem_map.1 hw
   exact (wr_back (h x hx)).2.1)
 have hne : ¬ fmtK l l.length = [] := by
  intro e
  rw [e] at hcut
  obtain ⟨x, r, rfl⟩ : ∃ x r, l = x :: r := by
   cases l with
   | nil => exact absurd rfl h0
   | cons x r => exact ⟨x, r, rfl⟩
  rw [List.map_cons] at hcut
  have h1 := (List.cons.inj (show [[]] = wrF x :: r.map wrF from hcut)).1
  exact (wr_back (h x (by simp))).2.2 h1.symm
 have hall : (l.map wrF).all (fun w => (rdF w).2) = true := by
  rw [List.all_map, List.all_eq_true]
  intro x hx
  show (rdF (wrF x)).2 = true
  rw [(wr_back (h x hx)).1]
 rw [prsG, if_neg hne, hcut, if_neg (by rw [List.length_map]; omega), if_pos hall, List.map_map]
 have hm : l.map ((fun w => (rdF w).1) ∘ wrF) = l := by
  conv => rhs; rw [← List.map_id l]
  exact List.map_congr_left fun x hx => by
   show (rdF (wrF x)).1 = x
   rw [(wr_back (h x hx)).1]
 rw [hm]
end Go.Proofs.YteajjcbinnjgaaaGreatDoor
/-
 Chapter 6: the law of words.
-/
namespace Go.Proofs.YteajjcbinnjgaaaGreatDoor
open Go Go.Vx
set_option linter.unusedSimpArgs false
set_option linter.unusedVariables false
set_option maxRecDepth 20000
set_option maxHeartbeats 4000000 in
theorem law_words (c r : Int) (l : List Fold) (t : List UInt8) (hc : Cnt l) : CtrK glob Tryz.prog 3 [.agg [(.v (.int .i64 c)), (.v (.int .i64 r))], .sl true 2 (l.map eF), (.v (.string (bs t)))] (fun rr => rr = ⟨(.v (.bool (true))), []⟩) := by
 refine CtrK.of (rs := [.tmp 6]) Tok true Tryz.func3 rfl rfl rfl rfl (by simp [ofDL]) (fun w0 kp hgl => ?_)
 simp only [↓sx0, sxE, encs, sevalprocAttr]
 refine CallI.fn (awake_s) (by simp only [sx3, encs, sxR, sevalprocAttr] <;> (try simp) <;> (try rfl)) ?_
 simp only [↓sx0, sxE, encs, sevalprocAttr]
 refine BrW.dec (fun h1 => ?_) (fun h1 => ?_)
 ·simp only [↓sx0, sxE, encs, sevalprocAttr]
  refine EndW.fn ?_ ?_ <;> simp only [sx4, encs, kpLL_map, sxR, sevalprocAttr] <;> (try simp) <;> (try omega)
 ·simp only [↓sx0, sxE, encs, sevalprocAttr]
  rw [bs_size]
  refine BrW.dec (fun h2 => ?_) (fun h2 => ?_)
  ·simp only [↓sx0, sxE, encs, sevalprocAttr]
   refine EndW.fn ?_ ?_ <;> simp only [sx4, encs, kpLL_map, sxR, sevalprocAttr] <;> (try simp) <;> (try omega)
  ·simp only [↓sx0, sxE, encs, sevalprocAttr]
   refine CallI.ctr (folds_s true l (by omega)) (by simp only [sx3, encs, sxR, sevalprocAttr] <;> (try simp) <;> (try rfl)) ?_
   rintro _ rfl
   simp only [↓sx0, sxE, encs, sevalprocAttr]
   refine CallI.fnK (format_s false l (by omega) hc) glob_ok hgl rfl (by simp only [sx3, encs, sxR, sevalprocAttr] <;> (try simp) <;> (try rfl)) ?_
   simp only [↓sx0, sxE, encs, sevalprocAttr]
   have hp := parse_s t (by omega)
   rw [prs_same] at hp
   have hpl : (prsG rdF t).1.length ≤ 12 := by
    unfold prsG
    repeat' split
    all_goals first
     | (simp only [List.length_nil]; omega)
     | (simp only [List.length_map]; omega)
   refine CallI.fnK (hp) glob_ok hgl rfl (by simp only [sx3, encs, sxR, sevalprocAttr] <;> (try simp) <;> (try rfl)) ?_
   simp only [↓sx0, sxE, encs, sevalprocAttr]
   refine CallI.fn (parse_R t (by omega)) (by simp only [sx3, encs, sxR, sevalprocAttr] <;> (try simp) <;> (try rfl)) ?_
   simp only [↓sx0, sxE, encs, sevalprocAttr]
   refine CallI.fn (format_R true l (by omega) hc) (by simp only [sx3, encs, sxR, sevalprocAttr] <;> (try simp) <;> (try rfl)) ?_
   simp only [↓sx0, sxE, encs, sevalprocAttr]
   refine BrW.no (by simp) ?_
   simp only [↓sx0, sxE, encs, sevalprocAttr]
   refine BrW.no (by simp) ?_
   simp only [↓sx0, sxE, encs, sevalprocAttr]
   refine CallI.fn (sameFolds_s true true (prsG rdF t).1 (prsG rdF t).1 (by omega)) (by simp only [sx3, encs, sxR, sevalprocAttr] <;> (try simp) <;> (try rfl)) ?_
   simp only [↓sx0, sxE, encs, sevalprocAttr]
   refine CallI.fn (checkFoldsR_s true c r l) (by simp only [sx3, encs, sxR, sevalprocAttr] <;> (try simp) <;> (try rfl)) ?_
   simp only [↓sx0, sxE, encs, sevalprocAttr]
   refine BrW.dec (fun h3 => ?_) (fun h3 => ?_)
   ·simp only [↓sx0, sxE, encs, sevalprocAttr]
    refine EndW.fn ?_ ?_ <;> simp only [sx4, encs, kpLL_map, sxR, sevalprocAttr] <;> (try simp) <;> (try omega)
   ·obtain ⟨hl12, hok⟩ := folded_small (Decidable.not_not.1 h3)
    have hfl := fmtK_len hc l.length (Nat.le_refl _)
    have hq := parse_s (fmtK l l.length) (by omega)
    rw [prs_same, fmt_back hl12 hok] at hq
    simp only [↓sx0, sxE, encs, sevalprocAttr]
    refine CallI.fnK (hq) glob_ok hgl rfl (by simp only [sx3, encs, sxR, sevalprocAttr] <;> (try simp) <;> (try rfl)) ?_
    simp only [↓sx0, sxE, encs, sevalprocAttr]
    refine CallI.fn (sameFolds_s true true l l (by omega)) (by simp only [sx3, encs, sxR, sevalprocAttr] <;> (try simp) <;> (try rfl)) ?_
    simp only [↓sx0, sxE, encs, sevalprocAttr]
    refine EndW.fn ?_ ?_ <;> simp only [sx4, encs, kpLL_map, sxR, sevalprocAttr] <;> (try simp) <;> (try omega)
end Go.Proofs.YteajjcbinnjgaaaGreatDoor
