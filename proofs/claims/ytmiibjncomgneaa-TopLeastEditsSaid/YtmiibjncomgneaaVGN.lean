/-
 Chapter 8, walks: marks are applied one behind the other.
-/
import Derived.Test.YtmiibjncomgneaaVGM
import Derived.Test.YtmiibjncomgneaaVGF
import Derived.Test.YtmiibjncomgneaaVGE
namespace Go.Proofs.Ytmiibjncomgneaa
open Go Go.Vx
set_option linter.unusedSimpArgs false
set_option linter.unusedVariables false
set_option maxRecDepth 20000
set_option maxHeartbeats 4000000 in
theorem cloneF_s (b b2 : Bool) (l : List Pt) (hl : l.length ≤ 1000) (hw : ∀ p ∈ l, p.words.length ≤ 1000) :
  Ctr Try.prog 22 [.sl b 2 (l.map (eP b2))] (fun rr => rr = ⟨.sl true 2 (l.map (eP true)), []⟩) := by
 refine Ctr.of (rs := [.tmp 2]) Tok true Try.func22 rfl rfl rfl rfl (by simp [ofDL]) (fun w0 kp => ?_)
 simp only [↓sx0, sxE, encs, sevalprocAttr]
 have wl : ∀ k (h : k < l.length), (l[k].words.map eS).length ≤ 1000000 := fun k h => by have := hw _ (List.getElem_mem h); simp; omega
 refine LoopW.inv Tok (fun k : Nat => ⟨[(3, .row 0), (8, (.v (.int .i64 k))), (6, .sl b 2 (l.map (eP b2))), (7, (.v (.int .i64 l.length)))], [], [.own 27 2 ((l.take k).map (eP true))]⟩) (fun k => k ≤ l.length) (fun k => l.length - k) 0 (StLe.auto ?_) (Nat.zero_le _) ?_
 ·simp only [List.take_zero, List.map_nil]
  simp only [sx2, encs, sxR, sevalprocAttr] <;> (try simp) <;> (try omega)
 rintro k hk
 simp only [↓sx0, sxE, encs, sevalprocAttr]
 refine BrW.dec (fun hlt => ?_) (fun hlt => ?_)
 ·simp only [↓sx0, sxE, encs, sevalprocAttr]
  have hkl : k < l.length := by omega
  refine IxW.nat hkl ?_
  simp only [↓sx0, sxE, encs, sevalprocAttr]
  refine DrawW.plan Tok mixed (.q 0 <| .q 1 <| .q 2 <| .q 3 <| .q 4 <| .e 5 [2] <| .q 6 <| .e 7 [] <| .e 8 [] <| .q 9 <| .done) (by kernel_rfl) (by kernel_rfl) ?_
  simp only [↓sx0, sxE, encs, sevalprocAttr]
  refine CallI.ctr (cloneS_s b2 _ (kpS l[k].words) (wl k hkl)) (by simp only [sx3, encs, sxR, sevalprocAttr] <;> (try simp) <;> (try rfl)) ?_
  rintro _ rfl
  simp only [↓sx0, sxE, encs, sevalprocAttr]
  repeat ((with_reducible refine Vc.go ?_ fun _ => ?_); (focus (first | omega | (simp only [InK]; omega) | (simp [InK]; done) | (simp [InK]; omega))); simp only [↓sx0, sxE, encs, sevalprocAttr])
  have hf : (l.take k).map (eP true) ++ [eP true l[k]] = (l.take (k + 1)).map (eP true) := by rw [List.take_succ_eq_append_getElem hkl, List.map_append]; rfl
  refine ⟨k + 1, StLe.auto ?_, by omega, by omega⟩
  simp only [← hf]
  simp only [sx2, encs, sxR, sevalprocAttr] <;> (try simp) <;> (try omega)
 ·simp only [↓sx0, sxE, encs, sevalprocAttr]
  have hke : k = l.length := by omega
  subst hke
  rw [List.take_length]
  have hkp := kpP l
  refine EndW.fn ?_ ?_ <;> simp only [sx4, encs, kpLL_map, sxR, sevalprocAttr] <;> (try simp [hkp]) <;> (try omega)
theorem lstEA : ∀ {l : List Mk}, lstE l = 0 → ∀ m ∈ l, mkErr m = 0
 | [], _, m, h => by cases h
 | x :: l, he, m, h => by
  unfold lstE at he
  split at he
  ·rename_i hx
   rcases List.mem_cons.1 h with rfl | h
   ·exact hx
   ·exact lstEA he m h
  ·rename_i hx; exact absurd he hx
theorem lstA {l : List Mk} (h : lstErr l = 0) : l.length ≤ 60 ∧ ∀ m ∈ l, mkErr m = 0 := by
 unfold lstErr at h
 split at h
 ·omega
 ·exact ⟨by omega, lstEA h⟩
/-- applied one by one. -/
def apF : List Pt → Nat → List Mk → List Pt × Nat × Int
 | l, _, [] => (l, 0, 0)
 | l, k, m :: ms => if (apV l m).2 = 0 then apF (apV l m).1 (k + 1) ms else ([], k, (apV l m).2)
def apAll (l : List Pt) (ms : List Mk) : List Pt × Nat × Int := if (partsErr l).2 = 0 then (if lstErr ms = 0 then apF l 0 ms else ([], 0, lstErr ms)) else ([], 0, (partsErr l).2)
theorem ite_ok {c : Prop} [Decidable c] {x y : List Pt × Int} (hx : x.2 = 0 → (partsErr x.1).2 = 0) (hy : y.2 = 0 → (partsErr y.1).2 = 0) : (if c then x else y).2 = 0 → (partsErr (if c then x else y).1).2 = 0 := by
 split <;> assumption
theorem chk_ok {l : List Pt} : (chk l).2 = 0 → (partsErr (chk l).1).2 = 0 := by
 intro h
 unfold chk at h ⊢
 by_cases h4 : (partsErr l).2 = 0
 ·rw [if_pos h4]; exact h4
 ·rw [if_neg h4] at h; exact absurd h h4
theorem apV_ok {l : List Pt} {m : Mk} : (apV l m).2 = 0 → (partsErr (apV l m).1).2 = 0 := by
 unfold apV
 split
 ·simp
 ·exact ite_ok (by simp) (ite_ok (by simp) chk_ok)
structure AS where
 k : Nat
 l : List Pt
set_option maxHeartbeats 8000000 in
theorem AppliedAll_s (b b2 b3 : Bool) (l : List Pt) (ms : List Mk) (hz : AllMk ms) (hl : ms.length ≤ 1000000) : Ctr Try.prog 8 [.sl b 2 (l.map (eP b2)), .sl b3 7 (ms.map eM)] (fun rr => rr = ⟨.tup [.sl true 2 ((apAll l ms).1.map (eP true)), (.v (.int .i64 ((apAll l ms).2.1))), (.v (.int .i64 ((apAll l ms).2.2)))], []⟩) := by
 have encs := And.intro encs (show ∀ p, eML p = [.sl p.1 7 (p.2.map eM)] from fun _ => rfl)
 have hL : lstsErr [(b3, ms)] = lstErr ms := by simp only [lstsErr]; split <;> simp_all
 have hC := checkMarks_s false [(b3, ms)] (by simpa using ⟨hz, by omega⟩) (by simp)
 rw [hL] at hC
 refine Ctr.of (rs := [.tmp 4, .tmp 5, .tmp 6]) Tok true Try.func8 rfl rfl rfl rfl (by simp [ofDL]) (fun w0 kp => ?_)
 simp only [↓sx0, sxE, encs, sevalprocAttr]
 refine CallI.fn (checkCopy_s b b2 l) (by simp only [sx3, encs, sxR, sevalprocAttr] <;> (try simp) <;> (try rfl)) ?_
 simp only [↓sx0, sxE, encs, sevalprocAttr]
 refine BrW.dec (fun h0 => ?_) (fun h0 => ?_)
 ·simp only [↓sx0, sxE, encs, sevalprocAttr]
  have hv : apAll l ms = ([], 0, (partsErr l).2) := by rw [apAll, if_neg (by simpa using h0)]
  refine EndW.fn ?_ ?_ <;> simp only [sx4, encs, kpLL_map, sxR, sevalprocAttr] <;> (try simp [hv]) <;> (try omega)
 ·have h0 : (partsErr l).2 = 0 := by simpa using h0
  obtain ⟨hl60, hws⟩ := parts_ok h0
  simp only [↓sx0, sxE, encs, sevalprocAttr]
  refine CallI.fn (hC) (by simp only [sx3, encs, sxR, sevalprocAttr] <;> (try simp) <;> (try rfl)) ?_
  simp only [↓sx0, sxE, encs, sevalprocAttr]
  refine BrW.dec (fun h1 => ?_) (fun h1 => ?_)
  ·simp only [↓sx0, sxE, encs, sevalprocAttr]
   have hv : apAll l ms = ([], 0, lstErr ms) := by rw [apAll, if_pos h0, if_neg (by simpa using h1)]
   refine EndW.fn ?_ ?_ <;> simp only [sx4, encs, kpLL_map, sxR, sevalprocAttr] <;> (try simp [hv]) <;> (try omega)
  ·have h1 : lstErr ms = 0 := by simpa using h1
   obtain ⟨m60, mok⟩ := lstA h1
   rw [show apAll l ms = apF l 0 ms by rw [apAll, if_pos h0, if_pos h1]]
   simp only [↓sx0, sxE, encs, sevalprocAttr]
   refine CallI.fn (cloneF_s b b2 l (by omega) (fun p hp => by have := hws p hp; omega)) (by simp only [sx3, encs, sxR, sevalprocAttr] <;> (try simp) <;> (try rfl)) ?_
   simp only [↓sx0, sxE, encs, sevalprocAttr]
   repeat ((with_reducible refine Vc.go ?_ fun _ => ?_); (focus (first | omega | (simp only [InK]; omega) | (simp [InK]; done) | (simp [InK]; omega))); simp only [↓sx0, sxE, encs, sevalprocAttr])
   refine LoopW.comp [9, 26, 27, 28] (by simp only [sx2, encs, sxR, sevalprocAttr] <;> (try simp) <;> (try omega)) ?_
   simp only [sx2, sxR, sevalprocAttr]
   refine LoopW.up Tok (fun s : AS => [(9, .sl true 2 (s.l.map (eP true))), (28, (.v (.int .i64 s.k)))]) (fun s => []) (fun s => []) (fun s => []) (fun s => s.k ≤ ms.length ∧ (partsErr s.l).2 = 0 ∧ apF s.l s.k (ms.drop s.k) = apF l 0 ms) (fun s => ms.length - s.k) (⟨0, l⟩) (by simp only [sx2, encs, sxR, sevalprocAttr] <;> (try simp) <;> (try omega)) ?_ ?_
   ·exact ⟨by simp, h0, rfl⟩
   rintro ⟨k, cur⟩ ⟨hk, hr, hA⟩
   simp only at hk hr hA
   simp only [↓sx0, sxE, encs, sevalprocAttr]
   refine BrW.dec (fun hlt => ?_) (fun hlt => ?_)
   ·simp only [↓sx0, sxE, encs, sevalprocAttr]
    have hkl : k < ms.length := by omega
    have hd : ms.drop k = ms[k] :: ms.drop (k + 1) := List.drop_eq_getElem_cons hkl
    have hm : mkErr ms[k] = 0 := mok _ (List.getElem_mem hkl)
    rw [hd] at hA
    refine IxW.nat hkl ?_
    simp only [↓sx0, sxE, encs, sevalprocAttr]
    generalize ms[k] = m at hA hm ⊢
    have hap := applied_s true true cur m hr hm
    have hok := apV_ok (l := cur) (m := m)
    rw [apF] at hA
    generalize apV cur m = r at hA hap hok
    obtain ⟨nx, e⟩ := r
    simp only at hA hap hok
    refine CallI.fn (hap) (by simp only [sx3, encs, sxR, sevalprocAttr] <;> (try simp) <;> (try rfl)) ?_
    simp only [↓sx0, sxE, encs, sevalprocAttr]
    refine BrW.dec (fun he => ?_) (fun he => ?_)
    ·rw [if_neg he] at hA
     rw [← hA]
     simp only [↓sx0, sxE, encs, sevalprocAttr]
     refine EndW.fn ?_ ?_ <;> simp only [sx4, encs, kpLL_map, sxR, sevalprocAttr] <;> (try simp) <;> (try omega)
    ·have he := Decidable.not_not.1 he
     rw [if_pos he] at hA
     simp only [↓sx0, sxE, encs, sevalprocAttr]
     repeat ((with_reducible refine Vc.go ?_ fun _ => ?_); (focus (first | omega | (simp only [InK]; omega) | (simp [InK]; done) | (simp [InK]; omega))); simp only [↓sx0, sxE, encs, sevalprocAttr])
     refine ⟨⟨k + 1, nx⟩, StLe.auto (by simp only [sx2, encs, sxR, sevalprocAttr] <;> (try simp) <;> (try omega)), ?_, ?_⟩
     ·exact ⟨by simp only; omega, hok he, hA⟩
     ·simp only; omega
   ·have hke : k = ms.length := by omega
    subst hke
    rw [List.drop_length, apF] at hA
    rw [← hA]
    have hkp := kpP cur
    simp only [↓sx0, sxE, encs, sevalprocAttr]
    refine EndW.fn ?_ ?_ <;> simp only [sx4, encs, kpLL_map, sxR, sevalprocAttr] <;> (try simp [hkp]) <;> (try omega)
end Go.Proofs.Ytmiibjncomgneaa
/-
 Chapter 8, walks: copies of lists.
-/
namespace Go.Proofs.Ytmiibjncomgneaa
open Go Go.Vx
set_option linter.unusedSimpArgs false
set_option linter.unusedVariables false
set_option maxRecDepth 20000
theorem copyTexts_s (b : Bool) (l : List ByteArray) (hl : l.length ≤ 1000000) : Ctr Try.prog 9 [.sl b 1 (l.map eS)] (fun rr => rr = ⟨.sl true 1 (l.map eS), []⟩) := by
 refine Ctr.of (rs := [.tmp 2]) Tok true Try.func9 rfl rfl rfl rfl (by simp [ofDL]) (fun w0 kp => ?_)
 simp only [↓sx0, sxE, encs, sevalprocAttr]
 repeat ((with_reducible refine Vc.go ?_ fun _ => ?_); (focus (first | omega | (simp only [InK]; omega) | (simp [InK]; done) | (simp [InK]; omega))); simp only [↓sx0, sxE, encs, sevalprocAttr])
 refine EndW.fn ?_ ?_ <;> simp only [sx4, encs, kpLL_map, sxR, sevalprocAttr] <;> (try simp) <;> (try omega)
def szB (s : ByteArray) : Bool := decide (s.size ≤ 40)
end Go.Proofs.Ytmiibjncomgneaa
/-
 Chapter 8, walks: copies of copies, and whether they are the same.
-/
namespace Go.Proofs.Ytmiibjncomgneaa
open Go Go.Vx
set_option linter.unusedSimpArgs false
set_option linter.unusedVariables false
set_option maxRecDepth 20000
end Go.Proofs.Ytmiibjncomgneaa
/-
 Chapter 8, walks: copies that are light.
-/
namespace Go.Proofs.Ytmiibjncomgneaa
open Go Go.Vx
set_option linter.unusedSimpArgs false
set_option linter.unusedVariables false
set_option maxRecDepth 20000
def lenW (n : Nat) : Bool := decide (n ≤ 8) || (decide (100 < n) && decide (n ≤ 102))
def shrtB (l : List ByteArray) : Bool := lenW l.length && l.all szB
theorem shrt_bad {l : List ByteArray} {k : Nat} (h : k < l.length) (hb : szB l[k] = false) : shrtB l = false := by
 rw [shrtB, Bool.and_eq_false_iff]
 refine .inr ?_
 rw [← Bool.not_eq_true, List.all_eq_true]
 intro hc
 have := hc _ (List.getElem_mem h)
 rw [hb] at this; cases this
theorem shrt_all {l : List ByteArray} (h : shrtB l = true) : AllSz l ∧ l.length ≤ 102 := by
 simp only [shrtB, Bool.and_eq_true, List.all_eq_true] at h
 refine ⟨fun s hs => ?_, ?_⟩
 ·have := h.2 s hs
  simp only [szB, decide_eq_true_eq] at this; omega
 ·have := h.1
  simp only [lenW, Bool.or_eq_true, Bool.and_eq_true, decide_eq_true_eq] at this
  omega
theorem shortW_s (b : Bool) (l : List ByteArray) (hl : l.length ≤ maxLen) : Ctr Try.prog 18 [.sl b 1 (l.map eS), (.v (.int .i64 8)), (.v (.int .i64 100))] (fun rr => rr = ⟨(.v (.bool (shrtB l))), []⟩) := by
 simp only [maxLen] at hl
 refine Ctr.of (rs := [.tmp 6]) Tok true Try.func18 rfl rfl rfl rfl (by simp [ofDL]) (fun w0 kp => ?_)
 simp only [↓sx0, sxE, encs, sevalprocAttr]
 by_cases hf : lenW l.length = true
 ·have main : shrtB l = l.all szB := by rw [shrtB, hf, Bool.true_and]
  have hf2 := hf
  simp only [lenW, Bool.or_eq_true, Bool.and_eq_true, decide_eq_true_eq] at hf2
  rw [main]
  by_cases h8 : l.length ≤ 8
  ·repeat ((with_reducible refine BrW.no (by omega) ?_); simp only [↓sx0, sxE, encs, sevalprocAttr])
   repeat ((with_reducible refine Vc.go ?_ fun _ => ?_); (focus (first | omega | (simp only [InK]; omega) | (simp [InK]; done) | (simp [InK]; omega))); simp only [↓sx0, sxE, encs, sevalprocAttr])
   repeat ((with_reducible refine BrW.no (by omega) ?_); simp only [↓sx0, sxE, encs, sevalprocAttr])
   refine LoopW.comp [0, 7] (by simp only [sx2, encs, sxR, sevalprocAttr] <;> (try simp) <;> (try omega)) ?_
   simp only [sx2, sxR, sevalprocAttr]
   refine LoopW.up Tok (fun k : Nat => [(7, (.v (.int .i64 k)))]) (fun k => []) (fun k => []) (fun k => []) (fun k => k ≤ l.length ∧ (l.take k).all szB = true) (fun k => l.length - k) (0) (by simp only [sx2, encs, sxR, sevalprocAttr] <;> (try simp) <;> (try omega)) ?_ ?_
   ·exact ⟨by omega, by simp⟩
   rintro k ⟨hk, ht⟩
   simp only [↓sx0, sxE, encs, sevalprocAttr]
   refine BrW.dec (fun hlt => ?_) (fun hlt => ?_)
   ·simp only [↓sx0, sxE, encs, sevalprocAttr]
    have hkl : k < l.length := by omega
    refine IxW.nat hkl ?_
    simp only [↓sx0, sxE, encs, sevalprocAttr]
    refine BrW.dec (fun hb => ?_) (fun hb => ?_)
    ·have := shrt_bad hkl (show szB l[k] = false by simp [szB]; omega)
     rw [main] at this
     simp only [↓sx0, sxE, encs, sevalprocAttr]
     refine EndW.fn ?_ ?_ <;> simp only [sx4, encs, kpLL_map, sxR, sevalprocAttr] <;> (try simp [this]) <;> (try omega)
    ·simp only [↓sx0, sxE, encs, sevalprocAttr]
     repeat ((with_reducible refine Vc.go ?_ fun _ => ?_); (focus (first | omega | (simp only [InK]; omega) | (simp [InK]; done) | (simp [InK]; omega))); simp only [↓sx0, sxE, encs, sevalprocAttr])
     refine ⟨k + 1, StLe.auto (by simp only [sx2, encs, sxR, sevalprocAttr] <;> (try simp) <;> (try omega)), ?_, ?_⟩
     ·exact ⟨hkl, by rw [List.take_succ_eq_append_getElem hkl, List.all_append, ht]; simp [szB]; omega⟩
     ·omega
   ·simp only [↓sx0, sxE, encs, sevalprocAttr]
    have hke : k = l.length := by omega
    subst hke
    rw [List.take_length] at ht
    refine EndW.fn ?_ ?_ <;> simp only [sx4, encs, kpLL_map, sxR, sevalprocAttr] <;> (try simp [ht]) <;> (try omega)
  ·repeat ((first | (with_reducible refine BrW.yes (by omega) ?_) | (with_reducible refine BrW.no (by omega) ?_)); (try simp only [↓sx0, sxE, encs, sevalprocAttr]))
   repeat ((with_reducible refine Vc.go ?_ fun _ => ?_); (focus (first | omega | (simp only [InK]; omega) | (simp [InK]; done) | (simp [InK]; omega))); simp only [↓sx0, sxE, encs, sevalprocAttr])
   repeat ((first | (with_reducible refine BrW.yes (by omega) ?_) | (with_reducible refine BrW.no (by omega) ?_)); (try simp only [↓sx0, sxE, encs, sevalprocAttr]))
   refine LoopW.comp [0, 7] (by simp only [sx2, encs, sxR, sevalprocAttr] <;> (try simp) <;> (try omega)) ?_
   simp only [sx2, sxR, sevalprocAttr]
   refine LoopW.up Tok (fun k : Nat => [(7, (.v (.int .i64 k)))]) (fun k => []) (fun k => []) (fun k => []) (fun k => k ≤ l.length ∧ (l.take k).all szB = true) (fun k => l.length - k) (0) (by simp only [sx2, encs, sxR, sevalprocAttr] <;> (try simp) <;> (try omega)) ?_ ?_
   ·exact ⟨by omega, by simp⟩
   rintro k ⟨hk, ht⟩
   simp only [↓sx0, sxE, encs, sevalprocAttr]
   refine BrW.dec (fun hlt => ?_) (fun hlt => ?_)
   ·simp only [↓sx0, sxE, encs, sevalprocAttr]
    have hkl : k < l.length := by omega
    refine IxW.nat hkl ?_
    simp only [↓sx0, sxE, encs, sevalprocAttr]
    refine BrW.dec (fun hb => ?_) (fun hb => ?_)
    ·have := shrt_bad hkl (show szB l[k] = false by simp [szB]; omega)
     rw [main] at this
     simp only [↓sx0, sxE, encs, sevalprocAttr]
     refine EndW.fn ?_ ?_ <;> simp only [sx4, encs, kpLL_map, sxR, sevalprocAttr] <;> (try simp [this]) <;> (try omega)
    ·simp only [↓sx0, sxE, encs, sevalprocAttr]
     repeat ((with_reducible refine Vc.go ?_ fun _ => ?_); (focus (first | omega | (simp only [InK]; omega) | (simp [InK]; done) | (simp [InK]; omega))); simp only [↓sx0, sxE, encs, sevalprocAttr])
     refine ⟨k + 1, StLe.auto (by simp only [sx2, encs, sxR, sevalprocAttr] <;> (try simp) <;> (try omega)), ?_, ?_⟩
     ·exact ⟨hkl, by rw [List.take_succ_eq_append_getElem hkl, List.all_append, ht]; simp [szB]; omega⟩
     ·omega
   ·simp only [↓sx0, sxE, encs, sevalprocAttr]
    have hke : k = l.length := by omega
    subst hke
    rw [List.take_length] at ht
    refine EndW.fn ?_ ?_ <;> simp only [sx4, encs, kpLL_map, sxR, sevalprocAttr] <;> (try simp [ht]) <;> (try omega)
 ·have hf : lenW l.length = false := by simpa using hf
  have hf2 := hf
  simp only [lenW, Bool.or_eq_false_iff, Bool.and_eq_false_iff, decide_eq_false_iff_not] at hf2
  rw [show shrtB l = false by rw [shrtB, hf, Bool.false_and]]
  by_cases h8 : l.length ≤ 100
  ·repeat ((first | (with_reducible refine BrW.yes (by omega) ?_) | (with_reducible refine BrW.no (by omega) ?_)); (try simp only [↓sx0, sxE, encs, sevalprocAttr]))
   refine EndW.fn ?_ ?_ <;> simp only [sx4, encs, kpLL_map, sxR, sevalprocAttr] <;> (try simp) <;> (try omega)
  ·repeat ((first | (with_reducible refine BrW.yes (by omega) ?_) | (with_reducible refine BrW.no (by omega) ?_)); (try simp only [↓sx0, sxE, encs, sevalprocAttr]))
   repeat ((with_reducible refine Vc.go ?_ fun _ => ?_); (focus (first | omega | (simp only [InK]; omega) | (simp [InK]; done) | (simp [InK]; omega))); simp only [↓sx0, sxE, encs, sevalprocAttr])
   repeat ((first | (with_reducible refine BrW.yes (by omega) ?_) | (with_reducible refine BrW.no (by omega) ?_)); (try simp only [↓sx0, sxE, encs, sevalprocAttr]))
   refine EndW.fn ?_ ?_ <;> simp only [sx4, encs, kpLL_map, sxR, sevalprocAttr] <;> (try simp) <;> (try omega)
def shrtP (p : Pt) : Bool := shrtB p.words
def lenP (n : Nat) : Bool := decide (n ≤ 5) || (decide (60 < n) && decide (n ≤ 62))
def lgtB (l : List Pt) : Bool := lenP l.length && l.all shrtP
theorem lgtB_bad {l : List Pt} {k : Nat} (h : k < l.length) (hb : shrtP l[k] = false) : lgtB l = false := by
 rw [lgtB, Bool.and_eq_false_iff]
 refine .inr ?_
 rw [← Bool.not_eq_true, List.all_eq_true]
 intro hc
 have := hc _ (List.getElem_mem h)
 rw [hb] at this; cases this
theorem light_s (b b2 : Bool) (l : List Pt) (hl : l.length ≤ maxLen) (hw : ∀ p ∈ l, p.words.length ≤ maxLen) : Ctr Try.prog 5 [.sl b 2 (l.map (eP b2))] (fun rr => rr = ⟨(.v (.bool (lgtB l))), []⟩) := by
 simp only [maxLen] at hl
 refine Ctr.of (rs := [.tmp 2]) Tok true Try.func5 rfl rfl rfl rfl (by simp [ofDL]) (fun w0 kp => ?_)
 simp only [↓sx0, sxE, encs, sevalprocAttr]
 have main : ∀ (hle : lenP l.length = true), lgtB l = l.all shrtP := fun h => by rw [lgtB, h, Bool.true_and]
 have no : ∀ (hle : lenP l.length = false), lgtB l = false := fun h => by rw [lgtB, h, Bool.false_and]
 by_cases hf : lenP l.length = true
 ·have hf2 := hf
  simp only [lenP, Bool.or_eq_true, Bool.and_eq_true, decide_eq_true_eq] at hf2
  rw [main hf]
  by_cases h8 : l.length ≤ 5
  ·repeat ((with_reducible refine BrW.no (by omega) ?_); simp only [↓sx0, sxE, encs, sevalprocAttr])
   refine LoopW.comp [0, 3] (by simp only [sx2, encs, sxR, sevalprocAttr] <;> (try simp) <;> (try omega)) ?_
   simp only [sx2, sxR, sevalprocAttr]
   refine LoopW.up Tok (fun k : Nat => [(3, (.v (.int .i64 k)))]) (fun k => []) (fun k => []) (fun k => []) (fun k => k ≤ l.length ∧ (l.take k).all shrtP = true) (fun k => l.length - k) (0) (by simp only [sx2, encs, sxR, sevalprocAttr] <;> (try simp) <;> (try omega)) ?_ ?_
   ·exact ⟨by omega, by simp⟩
   rintro k ⟨hk, ht⟩
   simp only [↓sx0, sxE, encs, sevalprocAttr]
   refine BrW.dec (fun hlt => ?_) (fun hlt => ?_)
   ·simp only [↓sx0, sxE, encs, sevalprocAttr]
    have hkl : k < l.length := by omega
    refine IxW.nat hkl ?_
    simp only [↓sx0, sxE, encs, sevalprocAttr]
    refine CallI.fn (shortW_s b2 l[k].words (hw _ (List.getElem_mem hkl))) (by simp only [sx3, encs, sxR, sevalprocAttr] <;> (try simp) <;> (try rfl)) ?_
    simp only [↓sx0, sxE, encs, sevalprocAttr]
    refine BrW.of (fun hb => ?_) (fun hb => ?_)
    ·simp only [↓sx0, sxE, encs, sevalprocAttr]
     repeat ((with_reducible refine Vc.go ?_ fun _ => ?_); (focus (first | omega | (simp only [InK]; omega) | (simp [InK]; done) | (simp [InK]; omega))); simp only [↓sx0, sxE, encs, sevalprocAttr])
     refine ⟨k + 1, StLe.auto (by simp only [sx2, encs, sxR, sevalprocAttr] <;> (try simp) <;> (try omega)), ?_, ?_⟩
     ·exact ⟨hkl, all_take_succ hkl ht hb⟩
     ·omega
    ·have := lgtB_bad hkl hb
     rw [main hf] at this
     simp only [↓sx0, sxE, encs, sevalprocAttr]
     refine EndW.fn ?_ ?_ <;> simp only [sx4, encs, kpLL_map, sxR, sevalprocAttr] <;> (try simp [this]) <;> (try omega)
   ·simp only [↓sx0, sxE, encs, sevalprocAttr]
    have hke : k = l.length := by omega
    subst hke
    rw [List.take_length] at ht
    refine EndW.fn ?_ ?_ <;> simp only [sx4, encs, kpLL_map, sxR, sevalprocAttr] <;> (try simp [ht]) <;> (try omega)
  ·repeat ((first | (with_reducible refine BrW.yes (by omega) ?_) | (with_reducible refine BrW.no (by omega) ?_)); (try simp only [↓sx0, sxE, encs, sevalprocAttr]))
   refine LoopW.comp [0, 3] (by simp only [sx2, encs, sxR, sevalprocAttr] <;> (try simp) <;> (try omega)) ?_
   simp only [sx2, sxR, sevalprocAttr]
   refine LoopW.up Tok (fun k : Nat => [(3, (.v (.int .i64 k)))]) (fun k => []) (fun k => []) (fun k => []) (fun k => k ≤ l.length ∧ (l.take k).all shrtP = true) (fun k => l.length - k) (0) (by simp only [sx2, encs, sxR, sevalprocAttr] <;> (try simp) <;> (try omega)) ?_ ?_
   ·exact ⟨by omega, by simp⟩
   rintro k ⟨hk, ht⟩
   simp only [↓sx0, sxE, encs, sevalprocAttr]
   refine BrW.dec (fun hlt => ?_) (fun hlt => ?_)
   ·simp only [↓sx0, sxE, encs, sevalprocAttr]
    have hkl : k < l.length := by omega
    refine IxW.nat hkl ?_
    simp only [↓sx0, sxE, encs, sevalprocAttr]
    refine CallI.fn (shortW_s b2 l[k].words (hw _ (List.getElem_mem hkl))) (by simp only [sx3, encs, sxR, sevalprocAttr] <;> (try simp) <;> (try rfl)) ?_
    simp only [↓sx0, sxE, encs, sevalprocAttr]
    refine BrW.of (fun hb => ?_) (fun hb => ?_)
    ·simp only [↓sx0, sxE, encs, sevalprocAttr]
     repeat ((with_reducible refine Vc.go ?_ fun _ => ?_); (focus (first | omega | (simp only [InK]; omega) | (simp [InK]; done) | (simp [InK]; omega))); simp only [↓sx0, sxE, encs, sevalprocAttr])
     refine ⟨k + 1, StLe.auto (by simp only [sx2, encs, sxR, sevalprocAttr] <;> (try simp) <;> (try omega)), ?_, ?_⟩
     ·exact ⟨hkl, all_take_succ hkl ht hb⟩
     ·omega
    ·have := lgtB_bad hkl hb
     rw [main hf] at this
     simp only [↓sx0, sxE, encs, sevalprocAttr]
     refine EndW.fn ?_ ?_ <;> simp only [sx4, encs, kpLL_map, sxR, sevalprocAttr] <;> (try simp [this]) <;> (try omega)
   ·simp only [↓sx0, sxE, encs, sevalprocAttr]
    have hke : k = l.length := by omega
    subst hke
    rw [List.take_length] at ht
    refine EndW.fn ?_ ?_ <;> simp only [sx4, encs, kpLL_map, sxR, sevalprocAttr] <;> (try simp [ht]) <;> (try omega)
 ·have hf : lenP l.length = false := by simpa using hf
  have hf2 := hf
  simp only [lenP, Bool.or_eq_false_iff, Bool.and_eq_false_iff, decide_eq_false_iff_not] at hf2
  rw [no hf]
  by_cases h8 : l.length ≤ 60
  ·repeat ((first | (with_reducible refine BrW.yes (by omega) ?_) | (with_reducible refine BrW.no (by omega) ?_)); (try simp only [↓sx0, sxE, encs, sevalprocAttr]))
   refine EndW.fn ?_ ?_ <;> simp only [sx4, encs, kpLL_map, sxR, sevalprocAttr] <;> (try simp) <;> (try omega)
  ·repeat ((first | (with_reducible refine BrW.yes (by omega) ?_) | (with_reducible refine BrW.no (by omega) ?_)); (try simp only [↓sx0, sxE, encs, sevalprocAttr]))
   refine EndW.fn ?_ ?_ <;> simp only [sx4, encs, kpLL_map, sxR, sevalprocAttr] <;> (try simp) <;> (try omega)
end Go.Proofs.Ytmiibjncomgneaa
