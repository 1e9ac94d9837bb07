/-
 Chapter 8, walks: lists of marks.
-/
import Derived.Test.YthkkcemefngeiaaGreatVGE
namespace Go.Proofs.YthkkcemefngeiaaGreat
open Go Go.Vx
set_option linter.unusedSimpArgs false
set_option linter.unusedVariables false
set_option maxRecDepth 20000
def brB (m : Mk) : Bool := decide (m.old.size ≤ 40 ∧ m.new.size ≤ 40)
def lenB (n : Nat) : Bool := decide (n ≤ 8) || (decide (60 < n) && decide (n ≤ 62))
def fewB (l : List Mk) : Bool := lenB l.length && l.all brB
theorem all_take_succ {α : Type} {p : α → Bool} {l : List α} {k : Nat} (h : k < l.length) (h1 : (l.take k).all p = true) (h2 : p l[k] = true) : (l.take (k + 1)).all p = true := by
 rw [List.take_succ_eq_append_getElem h, List.all_append, h1]; simp [h2]
def AllMk (l : List Mk) : Prop := ∀ m ∈ l, MkSz m
/-- the error of marks. -/
def lstE : List Mk → Int
 | [] => 0
 | m :: l => if mkErr m = 0 then lstE l else mkErr m
def lstErr (l : List Mk) : Int := if 60 < l.length then 8 else lstE l
def eML (p : Bool × List Mk) : List D := [.sl p.1 7 (p.2.map eM)]
def lstsErr : List (Bool × List Mk) → Int
 | [] => 0
 | p :: ls => if lstErr p.2 = 0 then lstsErr ls else lstErr p.2
end Go.Proofs.YthkkcemefngeiaaGreat
/-
 Chapter 8, walks: copies of lists.
-/
namespace Go.Proofs.YthkkcemefngeiaaGreat
open Go Go.Vx
set_option linter.unusedSimpArgs false
set_option linter.unusedVariables false
set_option maxRecDepth 20000
theorem copyTexts_s (b : Bool) (l : List ByteArray) (hl : l.length ≤ 1000000) : Ctr Tryz.prog 27 [.sl b 1 (l.map eS)] (fun rr => rr = ⟨.sl true 1 (l.map eS), []⟩) := by
 refine Ctr.of (rs := [.tmp 2]) Tok true Tryz.func27 rfl rfl rfl rfl (by simp [ofDL]) (fun w0 kp => ?_)
 simp only [↓sx0, sxE, encs, sevalprocAttr]
 repeat ((with_reducible refine Vc.go ?_ fun _ => ?_); (focus (first | omega | (simp only [InK]; omega) | (simp [InK]; done) | (simp [InK]; omega))); simp only [↓sx0, sxE, encs, sevalprocAttr])
 refine EndW.fn ?_ ?_ <;> simp only [sx4, encs, kpLL_map, sxR, sevalprocAttr] <;> (try simp) <;> (try omega)
theorem copyInts_s (b : Bool) (l : List Int) (hl : l.length ≤ 1000000) : Ctr Tryz.prog 8 [.sl b 1 (l.map eI)] (fun rr => rr = ⟨.sl true 1 (l.map eI), []⟩) := by
 refine Ctr.of (rs := [.tmp 2]) Tok true Tryz.func8 rfl rfl rfl rfl (by simp [ofDL]) (fun w0 kp => ?_)
 simp only [↓sx0, sxE, encs, sevalprocAttr]
 repeat ((with_reducible refine Vc.go ?_ fun _ => ?_); (focus (first | omega | (simp only [InK]; omega) | (simp [InK]; done) | (simp [InK]; omega))); simp only [↓sx0, sxE, encs, sevalprocAttr])
 refine EndW.fn ?_ ?_ <;> simp only [sx4, encs, kpLL_map, sxR, sevalprocAttr] <;> (try simp) <;> (try omega)
def szB (s : ByteArray) : Bool := decide (s.size ≤ 40)
end Go.Proofs.YthkkcemefngeiaaGreat
/-
 Chapter 8, walks: copies of copies, and whether they are the same.
-/
namespace Go.Proofs.YthkkcemefngeiaaGreat
open Go Go.Vx
set_option linter.unusedSimpArgs false
set_option linter.unusedVariables false
set_option maxRecDepth 20000
theorem copyOf_s (b b2 : Bool) (l : List Pt) (hl : l.length ≤ 1000000) (hw : ∀ p ∈ l, p.words.length ≤ 1000000) : Ctr Tryz.prog 11 [.sl b 2 (l.map (eP b2))] (fun rr => rr = ⟨.sl true 2 (l.map (eP true)), []⟩) := by
 refine Ctr.of (rs := [.tmp 2]) Tok true Tryz.func11 rfl rfl rfl rfl (by simp [ofDL]) (fun w0 kp => ?_)
 simp only [↓sx0, sxE, encs, sevalprocAttr]
 refine LoopW.inv Tok (fun k : Nat => ⟨[(3, .row 0), (4, (.v (.int .i64 k))), (0, .sl b 2 (l.map (eP b2)))], [], [.own 65 2 ((l.take k).map (eP true))]⟩) (fun k => k ≤ l.length) (fun k => l.length - k) 0 (StLe.auto ?_) (Nat.zero_le _) ?_
 ·simp only [List.take_zero, List.map_nil]
  simp only [sx2, encs, sxR, sevalprocAttr] <;> (try simp) <;> (try omega)
 rintro k hk
 simp only [↓sx0, sxE, encs, sevalprocAttr]
 refine BrW.dec (fun hlt => ?_) (fun hlt => ?_)
 ·simp only [↓sx0, sxE, encs, sevalprocAttr]
  have hkl : k < l.length := by omega
  refine DrawW.plan Tok mixed (.q 0 <| .q 1 <| .q 2 <| .q 3 <| .q 4 <| .q 5 <| .q 6 <| .q 7 <| .q 8 <| .q 9 <| .q 10 <| .e 11 [5] <| .q 12 <| .e 13 [] <| .e 14 [] <| .q 15 <| .done) (by kernel_rfl) (by kernel_rfl) ?_
  simp only [↓sx0, sxE, encs, sevalprocAttr]
  refine IxW.nat hkl ?_
  simp only [↓sx0, sxE, encs, sevalprocAttr]
  refine IxW.nat hkl ?_
  simp only [↓sx0, sxE, encs, sevalprocAttr]
  refine CallI.fn (copyTexts_s b2 l[k].words (hw _ (List.getElem_mem hkl))) (by simp only [sx3, encs, sxR, sevalprocAttr] <;> (try simp) <;> (try rfl)) ?_
  simp only [↓sx0, sxE, encs, sevalprocAttr]
  repeat ((with_reducible refine Vc.go ?_ fun _ => ?_); (focus (first | omega | (simp only [InK]; omega) | (simp [InK]; done) | (simp [InK]; omega))); simp only [↓sx0, sxE, encs, sevalprocAttr])
  have hf : (l.take k).map (eP true) ++ [eP true l[k]] = (l.take (k + 1)).map (eP true) := by rw [List.take_succ_eq_append_getElem hkl, List.map_append]; rfl
  refine ⟨k + 1, StLe.auto ?_, by omega, by omega⟩
  simp only [← hf]
  simp only [sx2, encs, sxR, sevalprocAttr] <;> (try simp) <;> (try omega)
 ·simp only [↓sx0, sxE, encs, sevalprocAttr]
  have hke : k = l.length := by omega
  subst hke
  rw [List.take_length]
  have hkp := kpP l
  refine EndW.fn ?_ ?_ <;> simp only [sx4, encs, kpLL_map, sxR, sevalprocAttr] <;> (try simp [hkp]) <;> (try omega)
end Go.Proofs.YthkkcemefngeiaaGreat
/-
 Chapter 8, walks: the reference's lists one behind the other; its parts of a copy.
-/
namespace Go.Proofs.YthkkcemefngeiaaGreat
open Go Go.Vx
set_option linter.unusedSimpArgs false
set_option linter.unusedVariables false
set_option maxRecDepth 20000
theorem checkPartsR_s (b b2 : Bool) (l : List Pt) (hl : l.length ≤ 1000000) (hw : ∀ p ∈ l, p.words.length ≤ 1000000 ∧ ∀ s ∈ p.words, s.size ≤ 1000000000) : Ctr Tryz.prog 12 [.sl b 2 (l.map (eP b2))] (fun rr => rr = ⟨.tup [(.v (.int .i64 ((partsErr l).1))), (.v (.int .i64 ((partsErr l).2)))], []⟩) := by
 refine Ctr.of (rs := [.tmp 2, .tmp 3]) Tok true Tryz.func12 rfl rfl rfl rfl (by simp [ofDL]) (fun w0 kp => ?_)
 simp only [↓sx0, sxE, encs, sevalprocAttr]
 refine BrW.dec (fun h60 => ?_) (fun h60 => ?_)
 ·simp only [↓sx0, sxE, encs, sevalprocAttr]
  rw [show partsErr l = (0, 8) by rw [partsErr, if_pos (by omega)]]
  refine EndW.fn ?_ ?_ <;> simp only [sx4, encs, kpLL_map, sxR, sevalprocAttr] <;> (try simp) <;> (try omega)
 ·rw [show partsErr l = partsE 0 l by rw [partsErr, if_neg (by omega)]]
  simp only [↓sx0, sxE, encs, sevalprocAttr]
  refine LoopW.comp [0, 4] (by simp only [sx2, encs, sxR, sevalprocAttr] <;> (try simp) <;> (try omega)) ?_
  simp only [sx2, sxR, sevalprocAttr]
  refine LoopW.up Tok (fun k : Nat => [(4, (.v (.int .i64 k)))]) (fun k => []) (fun k => []) (fun k => []) (fun k => k ≤ l.length ∧ partsE k (l.drop k) = partsE 0 l) (fun k => l.length - k) (0) (by simp only [sx2, encs, sxR, sevalprocAttr] <;> (try simp) <;> (try omega)) ?_ ?_
  ·exact ⟨by omega, rfl⟩
  rintro k ⟨hk, ht⟩
  simp only [↓sx0, sxE, encs, sevalprocAttr]
  refine BrW.dec (fun hlt => ?_) (fun hlt => ?_)
  ·simp only [↓sx0, sxE, encs, sevalprocAttr]
   have hlt : k < l.length := by omega
   have he := partsE_at hlt ht
   obtain ⟨w1, w2⟩ := hw _ (List.getElem_mem hlt)
   refine IxW.nat hlt ?_
   simp only [↓sx0, sxE, encs, sevalprocAttr]
   refine CallI.fn (withinB_s l[k].kind 1 3) (by simp only [sx3, encs, sxR, sevalprocAttr] <;> (try simp) <;> (try rfl)) ?_
   simp only [↓sx0, sxE, encs, sevalprocAttr]
   refine BrW.of (fun hkd => ?_) (fun hkd => ?_)
   ·have hkd : 1 ≤ l[k].kind ∧ l[k].kind ≤ 3 := by simpa using hkd
    simp only [↓sx0, sxE, encs, sevalprocAttr]
    refine IxW.nat hlt ?_
    simp only [↓sx0, sxE, encs, sevalprocAttr]
    refine BrW.dec (fun h0 => ?_) (fun h0 => ?_)
    ·simp only [↓sx0, sxE, encs, sevalprocAttr]
     rw [show partErr l[k] = 10 by rw [partErr, if_pos hkd, if_pos (by omega)], if_neg (by decide)] at he
     rw [he]
     refine EndW.fn ?_ ?_ <;> simp only [sx4, encs, kpLL_map, sxR, sevalprocAttr] <;> (try simp) <;> (try omega)
    ·simp only [↓sx0, sxE, encs, sevalprocAttr]
     refine IxW.nat hlt ?_
     simp only [↓sx0, sxE, encs, sevalprocAttr]
     refine BrW.dec (fun h8 => ?_) (fun h8 => ?_)
     ·simp only [↓sx0, sxE, encs, sevalprocAttr]
      rw [show partErr l[k] = 8 by rw [partErr, if_pos hkd, if_neg (by omega), if_pos (by omega)], if_neg (by decide)] at he
      rw [he]
      refine EndW.fn ?_ ?_ <;> simp only [sx4, encs, kpLL_map, sxR, sevalprocAttr] <;> (try simp) <;> (try omega)
     ·simp only [↓sx0, sxE, encs, sevalprocAttr]
      have hpe : partErr l[k] = if l[k].words.any badW = true ∨ isMk (l[k].words.headD hash) = true then 3 else 0 := by rw [partErr, if_pos hkd, if_neg (by omega), if_neg (by omega)]
      have hpos : 0 < l[k].words.length := by omega
      refine LoopW.comp [0, 4, 5] (by simp only [sx2, encs, sxR, sevalprocAttr] <;> (try simp) <;> (try omega)) ?_
      simp only [sx2, sxR, sevalprocAttr]
      refine LoopW.up Tok (fun j : Nat => [(5, (.v (.int .i64 j)))]) (fun j => []) (fun j => []) (fun j => []) (fun j => j ≤ l[k].words.length ∧ ∀ t (_ : t < j) (h2 : t < l[k].words.length), badW l[k].words[t] = false) (fun j => l[k].words.length - j) (0) (by simp only [sx2, encs, sxR, sevalprocAttr] <;> (try simp) <;> (try omega)) ?_ ?_
      ·exact ⟨by omega, fun t h => absurd h (Nat.not_lt_zero _)⟩
      rintro j ⟨hj, hjt⟩
      simp only [↓sx0, sxE, encs, sevalprocAttr]
      refine IxW.nat hlt ?_
      simp only [↓sx0, sxE, encs, sevalprocAttr]
      refine BrW.dec (fun hjl => ?_) (fun hjl => ?_)
      ·simp only [↓sx0, sxE, encs, sevalprocAttr]
       have hjl : j < l[k].words.length := by omega
       refine IxW.nat hlt ?_
       simp only [↓sx0, sxE, encs, sevalprocAttr]
       refine IxW.nat hjl ?_
       simp only [↓sx0, sxE, encs, sevalprocAttr]
       refine CallI.fn (isWordR_s l[k].words[j] (w2 _ (List.getElem_mem hjl))) (by simp only [sx3, encs, sxR, sevalprocAttr] <;> (try simp) <;> (try rfl)) ?_
       simp only [↓sx0, sxE, encs, sevalprocAttr]
       refine BrW.of (fun hb => ?_) (fun hb => ?_)
       ·simp only [↓sx0, sxE, encs, sevalprocAttr]
        repeat ((with_reducible refine Vc.go ?_ fun _ => ?_); (focus (first | omega | (simp only [InK]; omega) | (simp [InK]; done) | (simp [InK]; omega))); simp only [↓sx0, sxE, encs, sevalprocAttr])
        refine ⟨j + 1, StLe.auto (by simp only [sx2, encs, sxR, sevalprocAttr] <;> (try simp) <;> (try omega)), ?_, ?_⟩
        ·refine ⟨hjl, fun t h h2 => ?_⟩
         by_cases e : t = j
         ·subst e; simp [badW, hb]
         ·exact hjt t (by omega) h2
        ·omega
       ·simp only [↓sx0, sxE, encs, sevalprocAttr]
        rw [show partErr l[k] = 3 by rw [hpe, if_pos (.inl (List.any_eq_true.2 ⟨_, List.getElem_mem hjl, by simp [badW, hb]⟩))], if_neg (by decide)] at he
        rw [he]
        refine EndW.fn ?_ ?_ <;> simp only [sx4, encs, kpLL_map, sxR, sevalprocAttr] <;> (try simp) <;> (try omega)
      ·simp only [↓sx0, sxE, encs, sevalprocAttr]
       refine IxW.nat hlt ?_
       simp only [↓sx0, sxE, encs, sevalprocAttr]
       refine IxW.nat (j := 0) hpos ?_
       simp only [↓sx0, sxE, encs, sevalprocAttr]
       refine CallI.fn (isMarkR_s l[k].words[0]) (by simp only [sx3, encs, sxR, sevalprocAttr] <;> (try simp) <;> (try rfl)) ?_
       simp only [↓sx0, sxE, encs, sevalprocAttr]
       have hany : l[k].words.any badW = false := by
        rw [← Bool.not_eq_true, List.any_eq_true]
        rintro ⟨x, hx, hxb⟩
        obtain ⟨t, h2, rfl⟩ := List.getElem_of_mem hx
        rw [hjt t (by omega) h2] at hxb; cases hxb
       refine BrW.of (fun hm => ?_) (fun hm => ?_)
       ·simp only [↓sx0, sxE, encs, sevalprocAttr]
        rw [show partErr l[k] = 3 by rw [hpe, if_pos (.inr (by rw [headD_get hpos]; exact hm))], if_neg (by decide)] at he
        rw [he]
        refine EndW.fn ?_ ?_ <;> simp only [sx4, encs, kpLL_map, sxR, sevalprocAttr] <;> (try simp) <;> (try omega)
       ·simp only [↓sx0, sxE, encs, sevalprocAttr]
        rw [show partErr l[k] = 0 by rw [hpe, if_neg (by rw [headD_get hpos, hany, hm]; simp)], if_pos rfl] at he
        repeat ((with_reducible refine Vc.go ?_ fun _ => ?_); (focus (first | omega | (simp only [InK]; omega) | (simp [InK]; done) | (simp [InK]; omega))); simp only [↓sx0, sxE, encs, sevalprocAttr])
        refine ⟨k + 1, StLe.auto (by simp only [sx2, encs, sxR, sevalprocAttr] <;> (try simp) <;> (try omega)), ?_, ?_⟩
        ·exact ⟨hlt, he.symm⟩
        ·omega
   ·have hkd : ¬ (1 ≤ l[k].kind ∧ l[k].kind ≤ 3) := by simpa using hkd
    simp only [↓sx0, sxE, encs, sevalprocAttr]
    rw [show partErr l[k] = 15 by rw [partErr, if_neg hkd], if_neg (by decide)] at he
    rw [he]
    refine EndW.fn ?_ ?_ <;> simp only [sx4, encs, kpLL_map, sxR, sevalprocAttr] <;> (try simp) <;> (try omega)
  ·simp only [↓sx0, sxE, encs, sevalprocAttr]
   have hke : k = l.length := by omega
   subst hke
   rw [List.drop_length] at ht
   rw [← ht]
   refine EndW.fn ?_ ?_ <;> simp only [sx4, encs, kpLL_map, sxR, sevalprocAttr] <;> (try simp [partsE]) <;> (try omega)
end Go.Proofs.YthkkcemefngeiaaGreat
/-
 Chapter 8, walks: copies that are light.
-/
namespace Go.Proofs.YthkkcemefngeiaaGreat
open Go Go.Vx
set_option linter.unusedSimpArgs false
set_option linter.unusedVariables false
set_option maxRecDepth 20000
def lenW (n : Nat) : Bool := decide (n ≤ 8) || (decide (100 < n) && decide (n ≤ 102))
def shrtB (l : List ByteArray) : Bool := lenW l.length && l.all szB
theorem shrt_bad {l : List ByteArray} {k : Nat} (h : k < l.length) (hb : szB l[k] = false) : shrtB l = false := by
 rw [shrtB, Bool.and_eq_false_iff]
 refine .inr ?_
 rw [← Bool.not_eq_true, List.all_eq_true]
 intro hc
 have := hc _ (List.getElem_mem h)
 rw [hb] at this; cases this
theorem shrt_all {l : List ByteArray} (h : shrtB l = true) : AllSz l ∧ l.length ≤ 102 := by
 simp only [shrtB, Bool.and_eq_true, List.all_eq_true] at h
 refine ⟨fun s hs => ?_, ?_⟩
 ·have := h.2 s hs
  simp only [szB, decide_eq_true_eq] at this; omega
 ·have := h.1
  simp only [lenW, Bool.or_eq_true, Bool.and_eq_true, decide_eq_true_eq] at this
  omega
theorem shortW_s (b : Bool) (l : List ByteArray) (hl : l.length ≤ maxLen) : Ctr Tryz.prog 22 [.sl b 1 (l.map eS), (.v (.int .i64 8)), (.v (.int .i64 100))] (fun rr => rr = ⟨(.v (.bool (shrtB l))), []⟩) := by
 simp only [maxLen] at hl
 refine Ctr.of (rs := [.tmp 6]) Tok true Tryz.func22 rfl rfl rfl rfl (by simp [ofDL]) (fun w0 kp => ?_)
 simp only [↓sx0, sxE, encs, sevalprocAttr]
 by_cases hf : lenW l.length = true
 ·have main : shrtB l = l.all szB := by rw [shrtB, hf, Bool.true_and]
  have hf2 := hf
  simp only [lenW, Bool.or_eq_true, Bool.and_eq_true, decide_eq_true_eq] at hf2
  rw [main]
  by_cases h8 : l.length ≤ 8
  ·repeat ((with_reducible refine BrW.no (by omega) ?_); simp only [↓sx0, sxE, encs, sevalprocAttr])
   repeat ((with_reducible refine Vc.go ?_ fun _ => ?_); (focus (first | omega | (simp only [InK]; omega) | (simp [InK]; done) | (simp [InK]; omega))); simp only [↓sx0, sxE, encs, sevalprocAttr])
   repeat ((with_reducible refine BrW.no (by omega) ?_); simp only [↓sx0, sxE, encs, sevalprocAttr])
   refine LoopW.comp [0, 7] (by simp only [sx2, encs, sxR, sevalprocAttr] <;> (try simp) <;> (try omega)) ?_
   simp only [sx2, sxR, sevalprocAttr]
   refine LoopW.up Tok (fun k : Nat => [(7, (.v (.int .i64 k)))]) (fun k => []) (fun k => []) (fun k => []) (fun k => k ≤ l.length ∧ (l.take k).all szB = true) (fun k => l.length - k) (0) (by simp only [sx2, encs, sxR, sevalprocAttr] <;> (try simp) <;> (try omega)) ?_ ?_
   ·exact ⟨by omega, by simp⟩
   rintro k ⟨hk, ht⟩
   simp only [↓sx0, sxE, encs, sevalprocAttr]
   refine BrW.dec (fun hlt => ?_) (fun hlt => ?_)
   ·simp only [↓sx0, sxE, encs, sevalprocAttr]
    have hkl : k < l.length := by omega
    refine IxW.nat hkl ?_
    simp only [↓sx0, sxE, encs, sevalprocAttr]
    refine BrW.dec (fun hb => ?_) (fun hb => ?_)
    ·have := shrt_bad hkl (show szB l[k] = false by simp [szB]; omega)
     rw [main] at this
     simp only [↓sx0, sxE, encs, sevalprocAttr]
     refine EndW.fn ?_ ?_ <;> simp only [sx4, encs, kpLL_map, sxR, sevalprocAttr] <;> (try simp [this]) <;> (try omega)
    ·simp only [↓sx0, sxE, encs, sevalprocAttr]
     repeat ((with_reducible refine Vc.go ?_ fun _ => ?_); (focus (first | omega | (simp only [InK]; omega) | (simp [InK]; done) | (simp [InK]; omega))); simp only [↓sx0, sxE, encs, sevalprocAttr])
     refine ⟨k + 1, StLe.auto (by simp only [sx2, encs, sxR, sevalprocAttr] <;> (try simp) <;> (try omega)), ?_, ?_⟩
     ·exact ⟨hkl, by rw [List.take_succ_eq_append_getElem hkl, List.all_append, ht]; simp [szB]; omega⟩
     ·omega
   ·simp only [↓sx0, sxE, encs, sevalprocAttr]
    have hke : k = l.length := by omega
    subst hke
    rw [List.take_length] at ht
    refine EndW.fn ?_ ?_ <;> simp only [sx4, encs, kpLL_map, sxR, sevalprocAttr] <;> (try simp [ht]) <;> (try omega)
  ·repeat ((first | (with_reducible refine BrW.yes (by omega) ?_) | (with_reducible refine BrW.no (by omega) ?_)); (try simp only [↓sx0, sxE, encs, sevalprocAttr]))
   repeat ((with_reducible refine Vc.go ?_ fun _ => ?_); (focus (first | omega | (simp only [InK]; omega) | (simp [InK]; done) | (simp [InK]; omega))); simp only [↓sx0, sxE, encs, sevalprocAttr])
   repeat ((first | (with_reducible refine BrW.yes (by omega) ?_) | (with_reducible refine BrW.no (by omega) ?_)); (try simp only [↓sx0, sxE, encs, sevalprocAttr]))
   refine LoopW.comp [0, 7] (by simp only [sx2, encs, sxR, sevalprocAttr] <;> (try simp) <;> (try omega)) ?_
   simp only [sx2, sxR, sevalprocAttr]
   refine LoopW.up Tok (fun k : Nat => [(7, (.v (.int .i64 k)))]) (fun k => []) (fun k => []) (fun k => []) (fun k => k ≤ l.length ∧ (l.take k).all szB = true) (fun k => l.length - k) (0) (by simp only [sx2, encs, sxR, sevalprocAttr] <;> (try simp) <;> (try omega)) ?_ ?_
   ·exact ⟨by omega, by simp⟩
   rintro k ⟨hk, ht⟩
   simp only [↓sx0, sxE, encs, sevalprocAttr]
   refine BrW.dec (fun hlt => ?_) (fun hlt => ?_)
   ·simp only [↓sx0, sxE, encs, sevalprocAttr]
    have hkl : k < l.length := by omega
    refine IxW.nat hkl ?_
    simp only [↓sx0, sxE, encs, sevalprocAttr]
    refine BrW.dec (fun hb => ?_) (fun hb => ?_)
    ·have := shrt_bad hkl (show szB l[k] = false by simp [szB]; omega)
     rw [main] at this
     simp only [↓sx0, sxE, encs, sevalprocAttr]
     refine EndW.fn ?_ ?_ <;> simp only [sx4, encs, kpLL_map, sxR, sevalprocAttr] <;> (try simp [this]) <;> (try omega)
    ·simp only [↓sx0, sxE, encs, sevalprocAttr]
     repeat ((with_reducible refine Vc.go ?_ fun _ => ?_); (focus (first | omega | (simp only [InK]; omega) | (simp [InK]; done) | (simp [InK]; omega))); simp only [↓sx0, sxE, encs, sevalprocAttr])
     refine ⟨k + 1, StLe.auto (by simp only [sx2, encs, sxR, sevalprocAttr] <;> (try simp) <;> (try omega)), ?_, ?_⟩
     ·exact ⟨hkl, by rw [List.take_succ_eq_append_getElem hkl, List.all_append, ht]; simp [szB]; omega⟩
     ·omega
   ·simp only [↓sx0, sxE, encs, sevalprocAttr]
    have hke : k = l.length := by omega
    subst hke
    rw [List.take_length] at ht
    refine EndW.fn ?_ ?_ <;> simp only [sx4, encs, kpLL_map, sxR, sevalprocAttr] <;> (try simp [ht]) <;> (try omega)
 ·have hf : lenW l.length = false := by simpa using hf
  have hf2 := hf
  simp only [lenW, Bool.or_eq_false_iff, Bool.and_eq_false_iff, decide_eq_false_iff_not] at hf2
  rw [show shrtB l = false by rw [shrtB, hf, Bool.false_and]]
  by_cases h8 : l.length ≤ 100
  ·repeat ((first | (with_reducible refine BrW.yes (by omega) ?_) | (with_reducible refine BrW.no (by omega) ?_)); (try simp only [↓sx0, sxE, encs, sevalprocAttr]))
   refine EndW.fn ?_ ?_ <;> simp only [sx4, encs, kpLL_map, sxR, sevalprocAttr] <;> (try simp) <;> (try omega)
  ·repeat ((first | (with_reducible refine BrW.yes (by omega) ?_) | (with_reducible refine BrW.no (by omega) ?_)); (try simp only [↓sx0, sxE, encs, sevalprocAttr]))
   repeat ((with_reducible refine Vc.go ?_ fun _ => ?_); (focus (first | omega | (simp only [InK]; omega) | (simp [InK]; done) | (simp [InK]; omega))); simp only [↓sx0, sxE, encs, sevalprocAttr])
   repeat ((first | (with_reducible refine BrW.yes (by omega) ?_) | (with_reducible refine BrW.no (by omega) ?_)); (try simp only [↓sx0, sxE, encs, sevalprocAttr]))
   refine EndW.fn ?_ ?_ <;> simp only [sx4, encs, kpLL_map, sxR, sevalprocAttr] <;> (try simp) <;> (try omega)
def shrtP (p : Pt) : Bool := shrtB p.words
def lenP (n : Nat) : Bool := decide (n ≤ 5) || (decide (60 < n) && decide (n ≤ 62))
def lgtB (l : List Pt) : Bool := lenP l.length && l.all shrtP
theorem lgtB_bad {l : List Pt} {k : Nat} (h : k < l.length) (hb : shrtP l[k] = false) : lgtB l = false := by
 rw [lgtB, Bool.and_eq_false_iff]
 refine .inr ?_
 rw [← Bool.not_eq_true, List.all_eq_true]
 intro hc
 have := hc _ (List.getElem_mem h)
 rw [hb] at this; cases this
theorem light_s (b b2 : Bool) (l : List Pt) (hl : l.length ≤ maxLen) (hw : ∀ p ∈ l, p.words.length ≤ maxLen) : Ctr Tryz.prog 5 [.sl b 2 (l.map (eP b2))] (fun rr => rr = ⟨(.v (.bool (lgtB l))), []⟩) := by
 simp only [maxLen] at hl
 refine Ctr.of (rs := [.tmp 2]) Tok true Tryz.func5 rfl rfl rfl rfl (by simp [ofDL]) (fun w0 kp => ?_)
 simp only [↓sx0, sxE, encs, sevalprocAttr]
 have main : ∀ (hle : lenP l.length = true), lgtB l = l.all shrtP := fun h => by rw [lgtB, h, Bool.true_and]
 have no : ∀ (hle : lenP l.length = false), lgtB l = false := fun h => by rw [lgtB, h, Bool.false_and]
 by_cases hf : lenP l.length = true
 ·have hf2 := hf
  simp only [lenP, Bool.or_eq_true, Bool.and_eq_true, decide_eq_true_eq] at hf2
  rw [main hf]
  by_cases h8 : l.length ≤ 5
  ·repeat ((with_reducible refine BrW.no (by omega) ?_); simp only [↓sx0, sxE, encs, sevalprocAttr])
   refine LoopW.comp [0, 3] (by simp only [sx2, encs, sxR, sevalprocAttr] <;> (try simp) <;> (try omega)) ?_
   simp only [sx2, sxR, sevalprocAttr]
   refine LoopW.up Tok (fun k : Nat => [(3, (.v (.int .i64 k)))]) (fun k => []) (fun k => []) (fun k => []) (fun k => k ≤ l.length ∧ (l.take k).all shrtP = true) (fun k => l.length - k) (0) (by simp only [sx2, encs, sxR, sevalprocAttr] <;> (try simp) <;> (try omega)) ?_ ?_
   ·exact ⟨by omega, by simp⟩
   rintro k ⟨hk, ht⟩
   simp only [↓sx0, sxE, encs, sevalprocAttr]
   refine BrW.dec (fun hlt => ?_) (fun hlt => ?_)
   ·simp only [↓sx0, sxE, encs, sevalprocAttr]
    have hkl : k < l.length := by omega
    refine IxW.nat hkl ?_
    simp only [↓sx0, sxE, encs, sevalprocAttr]
    refine CallI.fn (shortW_s b2 l[k].words (hw _ (List.getElem_mem hkl))) (by simp only [sx3, encs, sxR, sevalprocAttr] <;> (try simp) <;> (try rfl)) ?_
    simp only [↓sx0, sxE, encs, sevalprocAttr]
    refine BrW.of (fun hb => ?_) (fun hb => ?_)
    ·simp only [↓sx0, sxE, encs, sevalprocAttr]
     repeat ((with_reducible refine Vc.go ?_ fun _ => ?_); (focus (first | omega | (simp only [InK]; omega) | (simp [InK]; done) | (simp [InK]; omega))); simp only [↓sx0, sxE, encs, sevalprocAttr])
     refine ⟨k + 1, StLe.auto (by simp only [sx2, encs, sxR, sevalprocAttr] <;> (try simp) <;> (try omega)), ?_, ?_⟩
     ·exact ⟨hkl, all_take_succ hkl ht hb⟩
     ·omega
    ·have := lgtB_bad hkl hb
     rw [main hf] at this
     simp only [↓sx0, sxE, encs, sevalprocAttr]
     refine EndW.fn ?_ ?_ <;> simp only [sx4, encs, kpLL_map, sxR, sevalprocAttr] <;> (try simp [this]) <;> (try omega)
   ·simp only [↓sx0, sxE, encs, sevalprocAttr]
    have hke : k = l.length := by omega
    subst hke
    rw [List.take_length] at ht
    refine EndW.fn ?_ ?_ <;> simp only [sx4, encs, kpLL_map, sxR, sevalprocAttr] <;> (try simp [ht]) <;> (try omega)
  ·repeat ((first | (with_reducible refine BrW.yes (by omega) ?_) | (with_reducible refine BrW.no (by omega) ?_)); (try simp only [↓sx0, sxE, encs, sevalprocAttr]))
   refine LoopW.comp [0, 3] (by simp only [sx2, encs, sxR, sevalprocAttr] <;> (try simp) <;> (try omega)) ?_
   simp only [sx2, sxR, sevalprocAttr]
   refine LoopW.up Tok (fun k : Nat => [(3, (.v (.int .i64 k)))]) (fun k => []) (fun k => []) (fun k => []) (fun k => k ≤ l.length ∧ (l.take k).all shrtP = true) (fun k => l.length - k) (0) (by simp only [sx2, encs, sxR, sevalprocAttr] <;> (try simp) <;> (try omega)) ?_ ?_
   ·exact ⟨by omega, by simp⟩
   rintro k ⟨hk, ht⟩
   simp only [↓sx0, sxE, encs, sevalprocAttr]
   refine BrW.dec (fun hlt => ?_) (fun hlt => ?_)
   ·simp only [↓sx0, sxE, encs, sevalprocAttr]
    have hkl : k < l.length := by omega
    refine IxW.nat hkl ?_
    simp only [↓sx0, sxE, encs, sevalprocAttr]
    refine CallI.fn (shortW_s b2 l[k].words (hw _ (List.getElem_mem hkl))) (by simp only [sx3, encs, sxR, sevalprocAttr] <;> (try simp) <;> (try rfl)) ?_
    simp only [↓sx0, sxE, encs, sevalprocAttr]
    refine BrW.of (fun hb => ?_) (fun hb => ?_)
    ·simp only [↓sx0, sxE, encs, sevalprocAttr]
     repeat ((with_reducible refine Vc.go ?_ fun _ => ?_); (focus (first | omega | (simp only [InK]; omega) | (simp [InK]; done) | (simp [InK]; omega))); simp only [↓sx0, sxE, encs, sevalprocAttr])
     refine ⟨k + 1, StLe.auto (by simp only [sx2, encs, sxR, sevalprocAttr] <;> (try simp) <;> (try omega)), ?_, ?_⟩
     ·exact ⟨hkl, all_take_succ hkl ht hb⟩
     ·omega
    ·have := lgtB_bad hkl hb
     rw [main hf] at this
     simp only [↓sx0, sxE, encs, sevalprocAttr]
     refine EndW.fn ?_ ?_ <;> simp only [sx4, encs, kpLL_map, sxR, sevalprocAttr] <;> (try simp [this]) <;> (try omega)
   ·simp only [↓sx0, sxE, encs, sevalprocAttr]
    have hke : k = l.length := by omega
    subst hke
    rw [List.take_length] at ht
    refine EndW.fn ?_ ?_ <;> simp only [sx4, encs, kpLL_map, sxR, sevalprocAttr] <;> (try simp [ht]) <;> (try omega)
 ·have hf : lenP l.length = false := by simpa using hf
  have hf2 := hf
  simp only [lenP, Bool.or_eq_false_iff, Bool.and_eq_false_iff, decide_eq_false_iff_not] at hf2
  rw [no hf]
  by_cases h8 : l.length ≤ 60
  ·repeat ((first | (with_reducible refine BrW.yes (by omega) ?_) | (with_reducible refine BrW.no (by omega) ?_)); (try simp only [↓sx0, sxE, encs, sevalprocAttr]))
   refine EndW.fn ?_ ?_ <;> simp only [sx4, encs, kpLL_map, sxR, sevalprocAttr] <;> (try simp) <;> (try omega)
  ·repeat ((first | (with_reducible refine BrW.yes (by omega) ?_) | (with_reducible refine BrW.no (by omega) ?_)); (try simp only [↓sx0, sxE, encs, sevalprocAttr]))
   refine EndW.fn ?_ ?_ <;> simp only [sx4, encs, kpLL_map, sxR, sevalprocAttr] <;> (try simp) <;> (try omega)
theorem light_all {l : List Pt} (h : lgtB l = true) : l.length ≤ 62 ∧ ∀ p ∈ l, p.words.length ≤ 102 ∧ AllSz p.words := by
 simp only [lgtB, Bool.and_eq_true, List.all_eq_true] at h
 refine ⟨?_, fun p hp => ⟨(shrt_all (h.2 p hp)).2, (shrt_all (h.2 p hp)).1⟩⟩
 have := h.1
 simp only [lenP, Bool.or_eq_true, Bool.and_eq_true, decide_eq_true_eq] at this
 omega
end Go.Proofs.YthkkcemefngeiaaGreat
