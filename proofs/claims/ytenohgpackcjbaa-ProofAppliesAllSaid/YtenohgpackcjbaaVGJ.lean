/-
 Chapter 8, walks: labels of edits are checked (reference).
-/
import Derived.Test.YtenohgpackcjbaaVGI
import Derived.Test.YtenohgpackcjbaaVGN
import Derived.Test.YtenohgpackcjbaaVDrF
namespace Go.Proofs.Ytenohgpackcjbaa
open Go Go.Vx
set_option linter.unusedSimpArgs false
set_option linter.unusedVariables false
set_option maxRecDepth 20000
def lenS (n : Nat) : Bool := decide (n ≤ 10) || (decide (40 < n) && decide (n ≤ 42))
def slimB (l : List ByteArray) : Bool := lenS l.length && l.all szB
theorem slim_bad {l : List ByteArray} {k : Nat} (h : k < l.length) (hb : szB l[k] = false) : slimB l = false := by
 rw [slimB, Bool.and_eq_false_iff]
 refine .inr ?_
 rw [← Bool.not_eq_true, List.all_eq_true]
 intro hc
 have := hc _ (List.getElem_mem h)
 rw [hb] at this; cases this
theorem slim_all {l : List ByteArray} (h : slimB l = true) : AllSz l ∧ l.length ≤ 42 := by
 simp only [slimB, Bool.and_eq_true, List.all_eq_true] at h
 refine ⟨fun s hs => ?_, ?_⟩
 ·have := h.2 s hs
  simp only [szB, decide_eq_true_eq] at this; omega
 ·have := h.1
  simp only [lenS, Bool.or_eq_true, Bool.and_eq_true, decide_eq_true_eq] at this
  omega
theorem short_s (b : Bool) (l : List ByteArray) (hl : l.length ≤ maxLen) : Ctr Try.prog 55 [.sl b 1 (l.map eS), (.v (.int .i64 10)), (.v (.int .i64 40))] (fun rr => rr = ⟨(.v (.bool (slimB l))), []⟩) := by
 simp only [maxLen] at hl
 refine Ctr.of (rs := [.tmp 6]) Tok true Try.func55 rfl rfl rfl rfl (by simp [ofDL]) (fun w0 kp => ?_)
 simp only [↓sx0, sxE, encs, sevalprocAttr]
 by_cases hf : lenS l.length = true
 ·have main : slimB l = l.all szB := by rw [slimB, hf, Bool.true_and]
  have hf2 := hf
  simp only [lenS, Bool.or_eq_true, Bool.and_eq_true, decide_eq_true_eq] at hf2
  rw [main]
  by_cases h8 : l.length ≤ 10
  ·repeat ((with_reducible refine BrW.no (by omega) ?_); simp only [↓sx0, sxE, encs, sevalprocAttr])
   repeat ((with_reducible refine Vc.go ?_ fun _ => ?_); (focus (first | omega | (simp only [InK]; omega) | (simp [InK]; done) | (simp [InK]; omega))); simp only [↓sx0, sxE, encs, sevalprocAttr])
   repeat ((with_reducible refine BrW.no (by omega) ?_); simp only [↓sx0, sxE, encs, sevalprocAttr])
   refine LoopW.comp [0, 7] (by simp only [sx2, encs, sxR, sevalprocAttr] <;> (try simp) <;> (try omega)) ?_
   simp only [sx2, sxR, sevalprocAttr]
   refine LoopW.up Tok (fun k : Nat => [(7, (.v (.int .i64 k)))]) (fun k => []) (fun k => []) (fun k => []) (fun k => k ≤ l.length ∧ (l.take k).all szB = true) (fun k => l.length - k) (0) (by simp only [sx2, encs, sxR, sevalprocAttr] <;> (try simp) <;> (try omega)) ?_ ?_
   ·exact ⟨by omega, by simp⟩
   rintro k ⟨hk, ht⟩
   simp only [↓sx0, sxE, encs, sevalprocAttr]
   refine BrW.dec (fun hlt => ?_) (fun hlt => ?_)
   ·simp only [↓sx0, sxE, encs, sevalprocAttr]
    have hkl : k < l.length := by omega
    refine IxW.nat hkl ?_
    simp only [↓sx0, sxE, encs, sevalprocAttr]
    refine BrW.dec (fun hb => ?_) (fun hb => ?_)
    ·have := slim_bad hkl (show szB l[k] = false by simp [szB]; omega)
     rw [main] at this
     simp only [↓sx0, sxE, encs, sevalprocAttr]
     refine EndW.fn ?_ ?_ <;> simp only [sx4, encs, kpLL_map, sxR, sevalprocAttr] <;> (try simp [this]) <;> (try omega)
    ·simp only [↓sx0, sxE, encs, sevalprocAttr]
     repeat ((with_reducible refine Vc.go ?_ fun _ => ?_); (focus (first | omega | (simp only [InK]; omega) | (simp [InK]; done) | (simp [InK]; omega))); simp only [↓sx0, sxE, encs, sevalprocAttr])
     refine ⟨k + 1, StLe.auto (by simp only [sx2, encs, sxR, sevalprocAttr] <;> (try simp) <;> (try omega)), ?_, ?_⟩
     ·exact ⟨hkl, by rw [List.take_succ_eq_append_getElem hkl, List.all_append, ht]; simp [szB]; omega⟩
     ·omega
   ·simp only [↓sx0, sxE, encs, sevalprocAttr]
    have hke : k = l.length := by omega
    subst hke
    rw [List.take_length] at ht
    refine EndW.fn ?_ ?_ <;> simp only [sx4, encs, kpLL_map, sxR, sevalprocAttr] <;> (try simp [ht]) <;> (try omega)
  ·repeat ((first | (with_reducible refine BrW.yes (by omega) ?_) | (with_reducible refine BrW.no (by omega) ?_)); (try simp only [↓sx0, sxE, encs, sevalprocAttr]))
   repeat ((with_reducible refine Vc.go ?_ fun _ => ?_); (focus (first | omega | (simp only [InK]; omega) | (simp [InK]; done) | (simp [InK]; omega))); simp only [↓sx0, sxE, encs, sevalprocAttr])
   repeat ((first | (with_reducible refine BrW.yes (by omega) ?_) | (with_reducible refine BrW.no (by omega) ?_)); (try simp only [↓sx0, sxE, encs, sevalprocAttr]))
   refine LoopW.comp [0, 7] (by simp only [sx2, encs, sxR, sevalprocAttr] <;> (try simp) <;> (try omega)) ?_
   simp only [sx2, sxR, sevalprocAttr]
   refine LoopW.up Tok (fun k : Nat => [(7, (.v (.int .i64 k)))]) (fun k => []) (fun k => []) (fun k => []) (fun k => k ≤ l.length ∧ (l.take k).all szB = true) (fun k => l.length - k) (0) (by simp only [sx2, encs, sxR, sevalprocAttr] <;> (try simp) <;> (try omega)) ?_ ?_
   ·exact ⟨by omega, by simp⟩
   rintro k ⟨hk, ht⟩
   simp only [↓sx0, sxE, encs, sevalprocAttr]
   refine BrW.dec (fun hlt => ?_) (fun hlt => ?_)
   ·simp only [↓sx0, sxE, encs, sevalprocAttr]
    have hkl : k < l.length := by omega
    refine IxW.nat hkl ?_
    simp only [↓sx0, sxE, encs, sevalprocAttr]
    refine BrW.dec (fun hb => ?_) (fun hb => ?_)
    ·have := slim_bad hkl (show szB l[k] = false by simp [szB]; omega)
     rw [main] at this
     simp only [↓sx0, sxE, encs, sevalprocAttr]
     refine EndW.fn ?_ ?_ <;> simp only [sx4, encs, kpLL_map, sxR, sevalprocAttr] <;> (try simp [this]) <;> (try omega)
    ·simp only [↓sx0, sxE, encs, sevalprocAttr]
     repeat ((with_reducible refine Vc.go ?_ fun _ => ?_); (focus (first | omega | (simp only [InK]; omega) | (simp [InK]; done) | (simp [InK]; omega))); simp only [↓sx0, sxE, encs, sevalprocAttr])
     refine ⟨k + 1, StLe.auto (by simp only [sx2, encs, sxR, sevalprocAttr] <;> (try simp) <;> (try omega)), ?_, ?_⟩
     ·exact ⟨hkl, by rw [List.take_succ_eq_append_getElem hkl, List.all_append, ht]; simp [szB]; omega⟩
     ·omega
   ·simp only [↓sx0, sxE, encs, sevalprocAttr]
    have hke : k = l.length := by omega
    subst hke
    rw [List.take_length] at ht
    refine EndW.fn ?_ ?_ <;> simp only [sx4, encs, kpLL_map, sxR, sevalprocAttr] <;> (try simp [ht]) <;> (try omega)
 ·have hf : lenS l.length = false := by simpa using hf
  have hf2 := hf
  simp only [lenS, Bool.or_eq_false_iff, Bool.and_eq_false_iff, decide_eq_false_iff_not] at hf2
  rw [show slimB l = false by rw [slimB, hf, Bool.false_and]]
  by_cases h8 : l.length ≤ 40
  ·repeat ((first | (with_reducible refine BrW.yes (by omega) ?_) | (with_reducible refine BrW.no (by omega) ?_)); (try simp only [↓sx0, sxE, encs, sevalprocAttr]))
   refine EndW.fn ?_ ?_ <;> simp only [sx4, encs, kpLL_map, sxR, sevalprocAttr] <;> (try simp) <;> (try omega)
  ·repeat ((first | (with_reducible refine BrW.yes (by omega) ?_) | (with_reducible refine BrW.no (by omega) ?_)); (try simp only [↓sx0, sxE, encs, sevalprocAttr]))
   repeat ((with_reducible refine Vc.go ?_ fun _ => ?_); (focus (first | omega | (simp only [InK]; omega) | (simp [InK]; done) | (simp [InK]; omega))); simp only [↓sx0, sxE, encs, sevalprocAttr])
   repeat ((first | (with_reducible refine BrW.yes (by omega) ?_) | (with_reducible refine BrW.no (by omega) ?_)); (try simp only [↓sx0, sxE, encs, sevalprocAttr]))
   refine EndW.fn ?_ ?_ <;> simp only [sx4, encs, kpLL_map, sxR, sevalprocAttr] <;> (try simp) <;> (try omega)
theorem slim_s (b : Bool) (l : List ByteArray) (hl : l.length ≤ maxLen) : Ctr Try.prog 34 [.sl b 1 (l.map eS)] (fun rr => rr = ⟨(.v (.bool (slimB l))), []⟩) := by
 refine Ctr.of (rs := [.tmp 2]) Tok true Try.func34 rfl rfl rfl rfl (by simp [ofDL]) (fun w0 kp => ?_)
 simp only [↓sx0, sxE, encs, sevalprocAttr]
 refine CallI.fn (short_s b l hl) (by simp only [sx3, encs, sxR, sevalprocAttr] <;> (try simp) <;> (try rfl)) ?_
 simp only [↓sx0, sxE, encs, sevalprocAttr]
 refine EndW.fn ?_ ?_ <;> simp only [sx4, encs, kpLL_map, sxR, sevalprocAttr] <;> (try simp) <;> (try omega)
theorem any_append_take {p : ByteArray → Bool} {l m : List ByteArray} {k : Nat} (h : k < l.length) (hb : p l[k] = true) : (l ++ m).any p = true := by
 rw [List.any_eq_true]; exact ⟨_, List.mem_append_left _ (List.getElem_mem h), hb⟩
theorem compared_s (b1 b2 : Bool) (l m : List ByteArray) (hl : AllSz l) (hm : AllSz m) : Ctr Try.prog 39 [.sl b1 1 (l.map eS), .sl b2 1 (m.map eS)] (fun rr => rr = ⟨(.v (.int .i64 (wdsErr l m))), []⟩) := by
 refine Ctr.of (rs := [.tmp 4]) Tok true Try.func39 rfl rfl rfl rfl (by simp [ofDL]) (fun w0 kp => ?_)
 simp only [↓sx0, sxE, encs, sevalprocAttr]
 refine BrW.dec (fun h1 => ?_) (fun h1 => ?_)
 ·rw [show wdsErr l m = 8 by rw [wdsErr, if_neg (by omega)]]
  simp only [↓sx0, sxE, encs, sevalprocAttr]
  repeat ((with_reducible refine BrW.yes (by omega) ?_); simp only [↓sx0, sxE, encs, sevalprocAttr])
  refine EndW.fn ?_ ?_ <;> simp only [sx4, encs, kpLL_map, sxR, sevalprocAttr] <;> (try simp) <;> (try omega)
 ·simp only [↓sx0, sxE, encs, sevalprocAttr]
  repeat ((with_reducible refine BrW.no (by omega) ?_); simp only [↓sx0, sxE, encs, sevalprocAttr])
  refine BrW.dec (fun h2 => ?_) (fun h2 => ?_)
  ·rw [show wdsErr l m = 8 by rw [wdsErr, if_neg (by omega)]]
   simp only [↓sx0, sxE, encs, sevalprocAttr]
   refine EndW.fn ?_ ?_ <;> simp only [sx4, encs, kpLL_map, sxR, sevalprocAttr] <;> (try simp) <;> (try omega)
  ·rw [show wdsErr l m = if (l ++ m).any badW = true then 3 else 0 by rw [wdsErr, if_pos (by omega)]]
   simp only [↓sx0, sxE, encs, sevalprocAttr]
   refine LoopW.comp [0, 1, 5] (by simp only [sx2, encs, sxR, sevalprocAttr] <;> (try simp) <;> (try omega)) ?_
   simp only [sx2, sxR, sevalprocAttr]
   refine LoopW.up Tok (fun k : Nat => [(5, (.v (.int .i64 k)))]) (fun k => []) (fun k => []) (fun k => []) (fun k => k ≤ l.length ∧ (l.take k).any badW = false) (fun k => l.length - k) (0) (by simp only [sx2, encs, sxR, sevalprocAttr] <;> (try simp) <;> (try omega)) ?_ ?_
   ·exact ⟨by omega, by simp⟩
   rintro k ⟨hk, ht⟩
   simp only [↓sx0, sxE, encs, sevalprocAttr]
   refine BrW.dec (fun hlt => ?_) (fun hlt => ?_)
   ·simp only [↓sx0, sxE, encs, sevalprocAttr]
    have hkl : k < l.length := by omega
    refine IxW.nat hkl ?_
    simp only [↓sx0, sxE, encs, sevalprocAttr]
    refine CallI.fn (isWordR_s l[k] (hl _ (List.getElem_mem hkl))) (by simp only [sx3, encs, sxR, sevalprocAttr] <;> (try simp) <;> (try rfl)) ?_
    simp only [↓sx0, sxE, encs, sevalprocAttr]
    refine BrW.of (fun hb => ?_) (fun hb => ?_)
    ·simp only [↓sx0, sxE, encs, sevalprocAttr]
     repeat ((with_reducible refine Vc.go ?_ fun _ => ?_); (focus (first | omega | (simp only [InK]; omega) | (simp [InK]; done) | (simp [InK]; omega))); simp only [↓sx0, sxE, encs, sevalprocAttr])
     refine ⟨k + 1, StLe.auto (by simp only [sx2, encs, sxR, sevalprocAttr] <;> (try simp) <;> (try omega)), ?_, ?_⟩
     ·exact ⟨hkl, by rw [List.take_succ_eq_append_getElem hkl, List.any_append, ht]; simp [badW, hb]⟩
     ·omega
    ·rw [if_pos (any_append_take hkl (by simp [badW, hb]))]
     simp only [↓sx0, sxE, encs, sevalprocAttr]
     refine EndW.fn ?_ ?_ <;> simp only [sx4, encs, kpLL_map, sxR, sevalprocAttr] <;> (try simp) <;> (try omega)
   ·simp only [↓sx0, sxE, encs, sevalprocAttr]
    have hke : k = l.length := by omega
    subst hke
    rw [List.take_length] at ht
    refine LoopW.comp [1, 6] (by simp only [sx2, encs, sxR, sevalprocAttr] <;> (try simp) <;> (try omega)) ?_
    simp only [sx2, sxR, sevalprocAttr]
    refine LoopW.up Tok (fun k : Nat => [(6, (.v (.int .i64 k)))]) (fun k => []) (fun k => []) (fun k => []) (fun k => k ≤ m.length ∧ (m.take k).any badW = false) (fun k => m.length - k) (0) (by simp only [sx2, encs, sxR, sevalprocAttr] <;> (try simp) <;> (try omega)) ?_ ?_
    ·exact ⟨by omega, by simp⟩
    rintro k ⟨hk, ht2⟩
    simp only [↓sx0, sxE, encs, sevalprocAttr]
    refine BrW.dec (fun hlt => ?_) (fun hlt => ?_)
    ·simp only [↓sx0, sxE, encs, sevalprocAttr]
     have hkl : k < m.length := by omega
     refine IxW.nat hkl ?_
     simp only [↓sx0, sxE, encs, sevalprocAttr]
     refine CallI.fn (isWordR_s m[k] (hm _ (List.getElem_mem hkl))) (by simp only [sx3, encs, sxR, sevalprocAttr] <;> (try simp) <;> (try rfl)) ?_
     simp only [↓sx0, sxE, encs, sevalprocAttr]
     refine BrW.of (fun hb => ?_) (fun hb => ?_)
     ·simp only [↓sx0, sxE, encs, sevalprocAttr]
      repeat ((with_reducible refine Vc.go ?_ fun _ => ?_); (focus (first | omega | (simp only [InK]; omega) | (simp [InK]; done) | (simp [InK]; omega))); simp only [↓sx0, sxE, encs, sevalprocAttr])
      refine ⟨k + 1, StLe.auto (by simp only [sx2, encs, sxR, sevalprocAttr] <;> (try simp) <;> (try omega)), ?_, ?_⟩
      ·exact ⟨hkl, by rw [List.take_succ_eq_append_getElem hkl, List.any_append, ht2]; simp [badW, hb]⟩
      ·omega
     ·have hany : (l ++ m).any badW = true := by
       rw [List.any_append, Bool.or_eq_true]; refine .inr ?_
       rw [List.any_eq_true]; exact ⟨_, List.getElem_mem hkl, by simp [badW, hb]⟩
      rw [if_pos hany]
      simp only [↓sx0, sxE, encs, sevalprocAttr]
      refine EndW.fn ?_ ?_ <;> simp only [sx4, encs, kpLL_map, sxR, sevalprocAttr] <;> (try simp) <;> (try omega)
    ·simp only [↓sx0, sxE, encs, sevalprocAttr]
     have hke : k = m.length := by omega
     subst hke
     rw [List.take_length] at ht2
     rw [if_neg (by rw [List.any_append, ht, ht2]; simp)]
     refine EndW.fn ?_ ?_ <;> simp only [sx4, encs, kpLL_map, sxR, sevalprocAttr] <;> (try simp) <;> (try omega)
def chN (a b : List ByteArray) (i k : Nat) : Int := if a[i]? = b[k]? then 0 else 1
theorem change_s (b1 b2 : Bool) (a b : List ByteArray) (i k : Nat) (hi : i < a.length) (hk : k < b.length) : Ctr Try.prog 78 [.sl b1 1 (a.map eS), .sl b2 1 (b.map eS), (.v (.int .i64 ((i : Int)))), (.v (.int .i64 ((k : Int))))] (fun rr => rr = ⟨(.v (.int .i64 (chN a b i k))), []⟩) := by
 have hc : chN a b i k = if a[i] = b[k] then 0 else 1 := by rw [chN, List.getElem?_eq_getElem hi, List.getElem?_eq_getElem hk]; simp
 rw [hc]
 refine Ctr.of (rs := [.tmp 8]) Tok true Try.func78 rfl rfl rfl rfl (by simp [ofDL]) (fun w0 kp => ?_)
 simp only [↓sx0, sxE, encs, sevalprocAttr]
 refine DrawW.plan Tok mixed (.q 0 <| .q 1 <| .q 2 <| .q 3 <| .q 4 <| .q 5 <| .q 6 <| .q 7 <| .q 8 <| .done) (by kernel_rfl) (by kernel_rfl) ?_
 simp only [↓sx0, sxE, encs, sevalprocAttr]
 refine IxW.nat hi ?_
 simp only [↓sx0, sxE, encs, sevalprocAttr]
 refine IxW.nat hk ?_
 simp only [↓sx0, sxE, encs, sevalprocAttr]
 refine BrW.dec (fun h => ?_) (fun h => ?_)
 ·rw [if_pos h]
  simp only [↓sx0, sxE, encs, sevalprocAttr]
  refine EndW.fn ?_ ?_ <;> simp only [sx4, encs, kpLL_map, sxR, sevalprocAttr] <;> (try simp) <;> (try omega)
 ·rw [if_neg h]
  simp only [↓sx0, sxE, encs, sevalprocAttr]
  refine EndW.fn ?_ ?_ <;> simp only [sx4, encs, kpLL_map, sxR, sevalprocAttr] <;> (try simp) <;> (try omega)
end Go.Proofs.Ytenohgpackcjbaa
/-
 Chapter 8, walks: labels of edits are checked (reference), the second part.
-/
namespace Go.Proofs.Ytenohgpackcjbaa
open Go Go.Vx
set_option linter.unusedSimpArgs false
set_option linter.unusedVariables false
set_option maxRecDepth 20000
/-- whether a label binds those behind it. -/
def fwdB (a b : List ByteArray) (L : List Int) (i k : Nat) : Bool :=
 !((decide (i < a.length) && decide (L.getD (atN b.length i k) 0 + 1 < L.getD (atN b.length (i + 1) k) 0)) ||
  (decide (k < b.length) && decide (L.getD (atN b.length i k) 0 + 1 < L.getD (atN b.length i (k + 1)) 0)) ||
  (decide (i < a.length) && decide (k < b.length) && decide (L.getD (atN b.length i k) 0 + chN a b i k < L.getD (atN b.length (i + 1) (k + 1)) 0)))
def fwdR (a b : List ByteArray) (L : List Int) (i : Nat) : Bool := (List.range (b.length + 1)).all fun k => fwdB a b L i k
def refOk (a b : List ByteArray) (L : List Int) : Bool := decide (L.getD 0 0 = 0) && (List.range (a.length + 1)).all fun i => fwdR a b L i
def labR (a b : List ByteArray) (L : List Int) : Int × Int :=
 if L.length = (a.length + 1) * (b.length + 1) then (if L.any badL = true then (0, 2) else if refOk a b L = true then (L.getD (L.length - 1) 0, 0) else (0, 22)) else (0, 10)
end Go.Proofs.Ytenohgpackcjbaa
/-
 Chapter 8: the law of labels.
-/
namespace Go.Proofs.Ytenohgpackcjbaa
open Go Go.Vx
set_option linter.unusedSimpArgs false
set_option linter.unusedVariables false
set_option maxRecDepth 20000
def lb (b : List ByteArray) (L : List Int) (i k : Nat) : Int := L.getD (atN b.length i k) 0
end Go.Proofs.Ytenohgpackcjbaa
