/-
 Chapter 8, walks: lists of marks.
-/
import Derived.Test.YtgcmppghjfidfaaGreatDoorVGC
set_option linter.unusedSimpArgs false
set_option linter.unusedVariables false
namespace Go.Proofs.YtgcmppghjfidfaaGreatDoor
open Go Go.Vx
set_option maxRecDepth 20000
def brB (m : Mk) : Bool := decide (m.old.size ≤ 40 ∧ m.new.size ≤ 40)
def lenB (n : Nat) : Bool := decide (n ≤ 8) || (decide (60 < n) && decide (n ≤ 62))
def fewB (l : List Mk) : Bool := lenB l.length && l.all brB
theorem fewB_bad {l : List Mk} {k : Nat} (h : k < l.length) (hb : brB l[k] = false) : fewB l = false := by
 rw [fewB, Bool.and_eq_false_iff]
 refine .inr ?_
 rw [← Bool.not_eq_true, List.all_eq_true]
 intro hc
 have := hc _ (List.getElem_mem h)
 rw [hb] at this; cases this
theorem all_take_succ {α : Type} {p : α → Bool} {l : List α} {k : Nat} (h : k < l.length) (h1 : (l.take k).all p = true) (h2 : p l[k] = true) : (l.take (k + 1)).all p = true := by
 rw [List.take_succ_eq_append_getElem h, List.all_append, h1]; simp [h2]
theorem few_s (b : Bool) (l : List Mk) (hl : l.length ≤ maxLen) : Ctr Tryz.prog 7 [.sl b 7 (l.map eM)] (fun rr => rr = ⟨(.v (.bool (fewB l))), []⟩) := by
 simp only [maxLen] at hl
 refine Ctr.of (rs := [.tmp 2]) Tok true Tryz.func7 rfl rfl rfl rfl (by simp [ofDL]) (fun w0 kp => ?_)
 simp only [↓sx0, xE, sevalprocAttr]
 have main : ∀ (hle : lenB l.length = true), fewB l = l.all brB := fun h => by rw [fewB, h, Bool.true_and]
 have no : ∀ (hle : lenB l.length = false), fewB l = false := fun h => by rw [fewB, h, Bool.false_and]
 by_cases hf : lenB l.length = true
 ·have hf2 := hf
  simp only [lenB, Bool.or_eq_true, Bool.and_eq_true, decide_eq_true_eq] at hf2
  rw [main hf]
  by_cases h8 : l.length ≤ 8
  ·repeat ((with_reducible refine BrW.no (by omega) ?_); simp only [↓sx0, xE, sevalprocAttr])
   refine LoopW.comp [0, 3] (by simp only [sx2, xR, sevalprocAttr] <;> (try simp) <;> (try omega)) ?_
   simp only [sx2, sxR, sevalprocAttr]
   refine LoopW.up Tok (fun k : Nat => [(3, (.v (.int .i64 k)))]) (fun k => []) (fun k => []) (fun k => []) (fun k => k ≤ l.length ∧ (l.take k).all brB = true) (fun k => l.length - k) (0) (by simp only [sx2, xR, sevalprocAttr] <;> (try simp) <;> (try omega)) ?_ ?_
   ·exact ⟨by omega, by simp⟩
   rintro k ⟨hk, ht⟩
   simp only [↓sx0, xE, sevalprocAttr]
   refine BrW.dec (fun hlt => ?_) (fun hlt => ?_)
   ·simp only [↓sx0, xE, sevalprocAttr]
    have hkl : k < l.length := by omega
    refine IxW.nat hkl ?_
    simp only [↓sx0, xE, sevalprocAttr]
    refine CallI.fn (brief_s l[k]) (by simp only [sx3, xR, sevalprocAttr] <;> (try simp) <;> (try rfl)) ?_
    simp only [↓sx0, xE, sevalprocAttr]
    refine BrW.of (fun hb => ?_) (fun hb => ?_)
    ·simp only [↓sx0, xE, sevalprocAttr]
     repeat ((with_reducible refine Vc.go ?_ fun _ => ?_); (focus (first | omega | (simp only [InK]; omega) | (simp [InK] <;> omega))); simp only [↓sx0, xE, sevalprocAttr])
     refine ⟨k + 1, StLe.auto (by simp only [sx2, xR, sevalprocAttr] <;> (try simp) <;> (try omega)), ?_, ?_⟩
     ·exact ⟨hkl, all_take_succ hkl ht hb⟩
     ·omega
    ·have := fewB_bad hkl hb
     rw [main hf] at this
     simp only [↓sx0, xE, sevalprocAttr]
     refine EndW.fn ?_ ?_ <;> simp only [sx4, xK, sevalprocAttr] <;> (try simp [this]) <;> (try omega)
   ·simp only [↓sx0, xE, sevalprocAttr]
    have hke : k = l.length := by omega
    subst hke
    rw [List.take_length] at ht
    refine EndW.fn ?_ ?_ <;> simp only [sx4, xK, sevalprocAttr] <;> (try simp [ht]) <;> (try omega)
  ·repeat ((first | (with_reducible refine BrW.yes (by omega) ?_) | (with_reducible refine BrW.no (by omega) ?_)); (try simp only [↓sx0, xE, sevalprocAttr]))
   refine LoopW.comp [0, 3] (by simp only [sx2, xR, sevalprocAttr] <;> (try simp) <;> (try omega)) ?_
   simp only [sx2, sxR, sevalprocAttr]
   refine LoopW.up Tok (fun k : Nat => [(3, (.v (.int .i64 k)))]) (fun k => []) (fun k => []) (fun k => []) (fun k => k ≤ l.length ∧ (l.take k).all brB = true) (fun k => l.length - k) (0) (by simp only [sx2, xR, sevalprocAttr] <;> (try simp) <;> (try omega)) ?_ ?_
   ·exact ⟨by omega, by simp⟩
   rintro k ⟨hk, ht⟩
   simp only [↓sx0, xE, sevalprocAttr]
   refine BrW.dec (fun hlt => ?_) (fun hlt => ?_)
   ·simp only [↓sx0, xE, sevalprocAttr]
    have hkl : k < l.length := by omega
    refine IxW.nat hkl ?_
    simp only [↓sx0, xE, sevalprocAttr]
    refine CallI.fn (brief_s l[k]) (by simp only [sx3, xR, sevalprocAttr] <;> (try simp) <;> (try rfl)) ?_
    simp only [↓sx0, xE, sevalprocAttr]
    refine BrW.of (fun hb => ?_) (fun hb => ?_)
    ·simp only [↓sx0, xE, sevalprocAttr]
     repeat ((with_reducible refine Vc.go ?_ fun _ => ?_); (focus (first | omega | (simp only [InK]; omega) | (simp [InK] <;> omega))); simp only [↓sx0, xE, sevalprocAttr])
     refine ⟨k + 1, StLe.auto (by simp only [sx2, xR, sevalprocAttr] <;> (try simp) <;> (try omega)), ?_, ?_⟩
     ·exact ⟨hkl, all_take_succ hkl ht hb⟩
     ·omega
    ·have := fewB_bad hkl hb
     rw [main hf] at this
     simp only [↓sx0, xE, sevalprocAttr]
     refine EndW.fn ?_ ?_ <;> simp only [sx4, xK, sevalprocAttr] <;> (try simp [this]) <;> (try omega)
   ·simp only [↓sx0, xE, sevalprocAttr]
    have hke : k = l.length := by omega
    subst hke
    rw [List.take_length] at ht
    refine EndW.fn ?_ ?_ <;> simp only [sx4, xK, sevalprocAttr] <;> (try simp [ht]) <;> (try omega)
 ·have hf : lenB l.length = false := by simpa using hf
  have hf2 := hf
  simp only [lenB, Bool.or_eq_false_iff, Bool.and_eq_false_iff, decide_eq_false_iff_not] at hf2
  rw [no hf]
  by_cases h8 : l.length ≤ 60
  ·repeat ((first | (with_reducible refine BrW.yes (by omega) ?_) | (with_reducible refine BrW.no (by omega) ?_)); (try simp only [↓sx0, xE, sevalprocAttr]))
   refine EndW.fn ?_ ?_ <;> simp only [sx4, xK, sevalprocAttr] <;> (try simp) <;> (try omega)
  ·repeat ((first | (with_reducible refine BrW.yes (by omega) ?_) | (with_reducible refine BrW.no (by omega) ?_)); (try simp only [↓sx0, xE, sevalprocAttr]))
   refine EndW.fn ?_ ?_ <;> simp only [sx4, xK, sevalprocAttr] <;> (try simp) <;> (try omega)
theorem brief_sz {m : Mk} (h : brB m = true) : MkSz m := by
 simp only [brB, decide_eq_true_eq] at h
 exact ⟨by omega, by omega⟩
def AllMk (l : List Mk) : Prop := ∀ m ∈ l, MkSz m
theorem few_all {l : List Mk} (h : fewB l = true) : AllMk l ∧ l.length ≤ 62 := by
 simp only [fewB, Bool.and_eq_true, List.all_eq_true] at h
 refine ⟨fun m hm => brief_sz (h.2 m hm), ?_⟩
 have := h.1
 simp only [lenB, Bool.or_eq_true, Bool.and_eq_true, decide_eq_true_eq] at this
 omega
theorem copyMarks_s (b : Bool) (l : List Mk) (hl : l.length ≤ 1000000) : Ctr Tryz.prog 11 [.sl b 7 (l.map eM)] (fun rr => rr = ⟨.sl true 7 (l.map eM), []⟩) := by
 refine Ctr.of (rs := [.tmp 2]) Tok true Tryz.func11 rfl rfl rfl rfl (by simp [ofDL]) (fun w0 kp => ?_)
 simp only [↓sx0, xE, sevalprocAttr]
 repeat ((with_reducible refine Vc.go ?_ fun _ => ?_); (focus (first | omega | (simp only [InK]; omega) | (simp [InK] <;> omega))); simp only [↓sx0, xE, sevalprocAttr])
 refine EndW.fn ?_ ?_ <;> simp only [sx4, xK, sevalprocAttr] <;> (try simp) <;> (try omega)
theorem sameM_s (b b' : Bool) (l m : List Mk) (hl : l.length ≤ 1000000000) : Ctr Tryz.prog 13 [.sl b 7 (l.map eM), .sl b' 7 (m.map eM)] (fun rr => rr = ⟨(.v (.bool (decide (l = m)))), []⟩) := by
 refine Ctr.of (rs := [.tmp 4]) Tok true Tryz.func13 rfl rfl rfl rfl (by simp [ofDL]) (fun w0 kp => ?_)
 simp only [↓sx0, xE, sevalprocAttr]
 refine BrW.dec (fun hn => ?_) (fun hn => ?_)
 ·simp only [↓sx0, xE, sevalprocAttr]
  have : ¬ l = m := fun h => hn (by rw [h])
  refine EndW.fn ?_ ?_ <;> simp only [sx4, xK, sevalprocAttr] <;> (try simp [this]) <;> (try omega)
 ·simp only [↓sx0, xE, sevalprocAttr]
  have hn2 : l.length = m.length := by omega
  refine LoopW.comp [0, 1, 5] (by simp only [sx2, xR, sevalprocAttr] <;> (try simp) <;> (try omega)) ?_
  simp only [sx2, sxR, sevalprocAttr]
  refine LoopW.up Tok (fun k : Nat => [(5, (.v (.int .i64 k)))]) (fun k => []) (fun k => []) (fun k => []) (fun k => k ≤ l.length ∧ l.take k = m.take k) (fun k => l.length - k) (0) (by simp only [sx2, xR, sevalprocAttr] <;> (try simp) <;> (try omega)) ?_ ?_
  ·exact ⟨by omega, by simp⟩
  rintro k ⟨hk, ht⟩
  simp only [↓sx0, xE, sevalprocAttr]
  refine BrW.dec (fun hlt => ?_) (fun hlt => ?_)
  ·simp only [↓sx0, xE, sevalprocAttr]
   have h1 : k < l.length := by omega
   have h2 : k < m.length := by omega
   refine DrawW.plan Tok mixed (.q 0 <| .q 1 <| .q 2 <| .q 3 <| .q 4 <| .q 5 <| .q 6 <| .q 7 <| .q 8 <| .done) (by kernel_rfl) (by kernel_rfl) ?_
   simp only [↓sx0, xE, sevalprocAttr]
   refine IxW.nat h1 ?_
   simp only [↓sx0, xE, sevalprocAttr]
   refine IxW.nat h2 ?_
   simp only [↓sx0, xE, sevalprocAttr]
   refine BrW.dec (fun hne => ?_) (fun hne => ?_)
   ·simp only [↓sx0, xE, sevalprocAttr]
    have : ¬ l = m := fun h => hne (Eq.mpr mk_eq (by subst h; rfl))
    refine EndW.fn ?_ ?_ <;> simp only [sx4, xK, sevalprocAttr] <;> (try simp [this]) <;> (try omega)
   ·simp only [↓sx0, xE, sevalprocAttr]
    have he : l[k] = m[k] := Eq.mp mk_eq (Decidable.not_not.1 hne)
    (with_reducible refine Vc.go ?_ fun _ => ?_); focus (first | omega | (simp only [InK]; omega) | (simp [InK] <;> omega))
    simp only [↓sx0, xE, sevalprocAttr]
    refine ⟨k + 1, StLe.auto (by simp only [sx2, xR, sevalprocAttr] <;> (try simp) <;> (try omega)), ?_, ?_⟩
    ·exact ⟨h1, take_eq_succ h1 h2 ht he⟩
    ·omega
  ·simp only [↓sx0, xE, sevalprocAttr]
   have hke : k = l.length := by omega
   subst hke
   rw [List.take_length, hn2, List.take_length] at ht
   refine EndW.fn ?_ ?_ <;> simp only [sx4, xK, sevalprocAttr] <;> (try simp [ht]) <;> (try omega)
/-- the error of marks. -/
def lstE : List Mk → Int
 | [] => 0
 | m :: l => if mkErr m = 0 then lstE l else mkErr m
def lstErr (l : List Mk) : Int := if 60 < l.length then 8 else lstE l
theorem lstE_drop {l : List Mk} {k : Nat} (h : k < l.length) : lstE (l.drop k) = if mkErr l[k] = 0 then lstE (l.drop (k + 1)) else mkErr l[k] := by
 rw [List.drop_eq_getElem_cons h, lstE]
theorem checkMarksR_s (b : Bool) (l : List Mk) (hz : AllMk l) (hl : l.length ≤ 1000000000) : Ctr Tryz.prog 8 [.sl b 7 (l.map eM)] (fun rr => rr = ⟨(.v (.int .i64 (lstErr l))), []⟩) := by
 refine Ctr.of (rs := [.tmp 2]) Tok true Tryz.func8 rfl rfl rfl rfl (by simp [ofDL]) (fun w0 kp => ?_)
 simp only [↓sx0, xE, sevalprocAttr]
 refine BrW.dec (fun h60 => ?_) (fun h60 => ?_)
 ·rw [show lstErr l = 8 by rw [lstErr, if_pos (by omega)]]
  simp only [↓sx0, xE, sevalprocAttr]
  refine EndW.fn ?_ ?_ <;> simp only [sx4, xK, sevalprocAttr] <;> (try simp) <;> (try omega)
 ·rw [show lstErr l = lstE l by rw [lstErr, if_neg (by omega)]]
  simp only [↓sx0, xE, sevalprocAttr]
  refine LoopW.comp [0, 3] (by simp only [sx2, xR, sevalprocAttr] <;> (try simp) <;> (try omega)) ?_
  simp only [sx2, sxR, sevalprocAttr]
  refine LoopW.up Tok (fun k : Nat => [(3, (.v (.int .i64 k)))]) (fun k => []) (fun k => []) (fun k => []) (fun k => k ≤ l.length ∧ lstE (l.drop k) = lstE l) (fun k => l.length - k) (0) (by simp only [sx2, xR, sevalprocAttr] <;> (try simp) <;> (try omega)) ?_ ?_
  ·exact ⟨by omega, rfl⟩
  rintro k ⟨hk, ht⟩
  simp only [↓sx0, xE, sevalprocAttr]
  refine BrW.dec (fun hlt => ?_) (fun hlt => ?_)
  ·simp only [↓sx0, xE, sevalprocAttr]
   have h1 : k < l.length := by omega
   have hs := lstE_drop h1
   refine IxW.nat h1 ?_
   simp only [↓sx0, xE, sevalprocAttr]
   refine CallI.fn (checkMarkR_s l[k] (hz _ (List.getElem_mem h1))) (by simp only [sx3, xR, sevalprocAttr] <;> (try simp) <;> (try rfl)) ?_
   simp only [↓sx0, xE, sevalprocAttr]
   refine BrW.dec (fun he => ?_) (fun he => ?_)
   ·rw [if_neg he] at hs
    rw [← ht, hs]
    simp only [↓sx0, xE, sevalprocAttr]
    refine EndW.fn ?_ ?_ <;> simp only [sx4, xK, sevalprocAttr] <;> (try simp) <;> (try omega)
   ·rw [if_pos (Decidable.not_not.1 he)] at hs
    simp only [↓sx0, xE, sevalprocAttr]
    repeat ((with_reducible refine Vc.go ?_ fun _ => ?_); (focus (first | omega | (simp only [InK]; omega) | (simp [InK] <;> omega))); simp only [↓sx0, xE, sevalprocAttr])
    refine ⟨k + 1, StLe.auto (by simp only [sx2, xR, sevalprocAttr] <;> (try simp) <;> (try omega)), ?_, ?_⟩
    ·exact ⟨h1, by rw [← hs, ht]⟩
    ·omega
  ·simp only [↓sx0, xE, sevalprocAttr]
   have hke : k = l.length := by omega
   subst hke
   rw [List.drop_length] at ht
   rw [← ht]
   refine EndW.fn ?_ ?_ <;> simp only [sx4, xK, sevalprocAttr] <;> (try simp [lstE]) <;> (try omega)
def eML (p : Bool × List Mk) : List D := [.sl p.1 7 (p.2.map eM)]
def lstsErr : List (Bool × List Mk) → Int
 | [] => 0
 | p :: ls => if lstErr p.2 = 0 then lstsErr ls else lstErr p.2
theorem lsts_drop {l : List (Bool × List Mk)} {k : Nat} (h : k < l.length) : lstsErr (l.drop k) = if lstErr l[k].2 = 0 then lstsErr (l.drop (k + 1)) else lstErr l[k].2 := by
 rw [List.drop_eq_getElem_cons h, lstsErr]
theorem checkMarks_s (b : Bool) (ls : List (Bool × List Mk)) (hz : ∀ p ∈ ls, AllMk p.2 ∧ p.2.length ≤ 1000000000) (hl : ls.length ≤ 1000000000) : Ctr Tryz.prog 41 [.sl b 1 (ls.map eML)] (fun rr => rr = ⟨(.v (.int .i64 (lstsErr ls))), []⟩) := by
 have encs := And.intro encs (show ∀ p, eML p = [.sl p.1 7 (p.2.map eM)] from fun _ => rfl)
 refine Ctr.of (rs := [.tmp 2]) Tok true Tryz.func41 rfl rfl rfl rfl (by simp [ofDL]) (fun w0 kp => ?_)
 simp only [↓sx0, sxE, encs, sevalprocAttr]
 refine LoopW.comp [8, 9, 10] (by simp only [sx2, encs, sxR, sevalprocAttr] <;> (try simp) <;> (try omega)) ?_
 simp only [sx2, sxR, sevalprocAttr]
 refine LoopW.up Tok (fun i : Nat => [(10, (.v (.int .i64 i)))]) (fun i => []) (fun i => []) (fun i => []) (fun i => i ≤ ls.length ∧ lstsErr (ls.drop i) = lstsErr ls) (fun i => ls.length - i) (0) (by simp only [sx2, encs, sxR, sevalprocAttr] <;> (try simp) <;> (try omega)) ?_ ?_
 ·exact ⟨by omega, rfl⟩
 rintro i ⟨hi, hI⟩
 simp only [↓sx0, sxE, encs, sevalprocAttr]
 refine BrW.dec (fun hlt => ?_) (fun hlt => ?_)
 ·simp only [↓sx0, sxE, encs, sevalprocAttr]
  have hil : i < ls.length := by omega
  obtain ⟨hz1, hl1⟩ := hz _ (List.getElem_mem hil)
  have hS := lsts_drop hil
  refine IxW.nat hil ?_
  simp only [↓sx0, sxE, encs, sevalprocAttr]
  generalize ls[i] = p at hz1 hl1 hS ⊢
  obtain ⟨pb, l⟩ := p
  simp only at hz1 hl1 hS ⊢
  refine BrW.dec (fun h60 => ?_) (fun h60 => ?_)
  ·have hE : lstErr l = 8 := by rw [lstErr, if_pos (by omega)]
   rw [hE, if_neg (by omega)] at hS
   rw [← hI, hS]
   simp only [↓sx0, sxE, encs, sevalprocAttr]
   refine EndW.fn ?_ ?_ <;> simp only [sx4, encs, kpLL_map, sxR, sevalprocAttr] <;> (try simp) <;> (try omega)
  ·have hE : lstErr l = lstE l := by rw [lstErr, if_neg (by omega)]
   rw [hE] at hS
   simp only [↓sx0, sxE, encs, sevalprocAttr]
   refine LoopW.comp [8, 9, 10, 17, 18, 19] (by simp only [sx2, encs, sxR, sevalprocAttr] <;> (try simp) <;> (try omega)) ?_
   simp only [sx2, sxR, sevalprocAttr]
   refine LoopW.up Tok (fun k : Nat => [(19, (.v (.int .i64 k)))]) (fun k => []) (fun k => []) (fun k => []) (fun k => k ≤ l.length ∧ lstE (l.drop k) = lstE l) (fun k => l.length - k) (0) (by simp only [sx2, encs, sxR, sevalprocAttr] <;> (try simp) <;> (try omega)) ?_ ?_
   ·exact ⟨by omega, rfl⟩
   rintro k ⟨hk, ht⟩
   simp only [↓sx0, sxE, encs, sevalprocAttr]
   refine BrW.dec (fun hlt2 => ?_) (fun hlt2 => ?_)
   ·simp only [↓sx0, sxE, encs, sevalprocAttr]
    have h1 : k < l.length := by omega
    have hs := lstE_drop h1
    refine IxW.nat h1 ?_
    simp only [↓sx0, sxE, encs, sevalprocAttr]
    refine CallI.fn (checkMark_s l[k] (hz1 _ (List.getElem_mem h1))) (by simp only [sx3, encs, sxR, sevalprocAttr] <;> (try simp) <;> (try rfl)) ?_
    simp only [↓sx0, sxE, encs, sevalprocAttr]
    refine BrW.dec (fun he => ?_) (fun he => ?_)
    ·rw [if_neg he] at hs
     rw [← ht, hs, if_neg he] at hS
     rw [← hI, hS]
     simp only [↓sx0, sxE, encs, sevalprocAttr]
     refine EndW.fn ?_ ?_ <;> simp only [sx4, encs, kpLL_map, sxR, sevalprocAttr] <;> (try simp) <;> (try omega)
    ·rw [if_pos (Decidable.not_not.1 he)] at hs
     simp only [↓sx0, sxE, encs, sevalprocAttr]
     repeat ((with_reducible refine Vc.go ?_ fun _ => ?_); (focus (first | omega | (simp only [InK]; omega) | (simp [InK] <;> omega))); simp only [↓sx0, sxE, encs, sevalprocAttr])
     refine ⟨k + 1, StLe.auto (by simp only [sx2, encs, sxR, sevalprocAttr] <;> (try simp) <;> (try omega)), ?_, ?_⟩
     ·exact ⟨h1, by rw [← hs, ht]⟩
     ·omega
   ·simp only [↓sx0, sxE, encs, sevalprocAttr]
    have hke : k = l.length := by omega
    subst hke
    rw [List.drop_length] at ht
    rw [← ht, if_pos (show lstE [] = 0 from rfl)] at hS
    repeat ((with_reducible refine Vc.go ?_ fun _ => ?_); (focus (first | omega | (simp only [InK]; omega) | (simp [InK] <;> omega))); simp only [↓sx0, sxE, encs, sevalprocAttr])
    refine ⟨i + 1, StLe.auto (by simp only [sx2, encs, sxR, sevalprocAttr] <;> (try simp) <;> (try omega)), ?_, ?_⟩
    ·exact ⟨hil, by rw [← hS, hI]⟩
    ·omega
 ·simp only [↓sx0, sxE, encs, sevalprocAttr]
  have hke : i = ls.length := by omega
  subst hke
  rw [List.drop_length] at hI
  rw [← hI]
  refine EndW.fn ?_ ?_ <;> simp only [sx4, encs, kpLL_map, sxR, sevalprocAttr] <;> (try simp [lstsErr]) <;> (try omega)
end Go.Proofs.YtgcmppghjfidfaaGreatDoor
/-
 Chapter 8, walks: inverses.
-/
namespace Go.Proofs.YtgcmppghjfidfaaGreatDoor
open Go Go.Vx
set_option maxRecDepth 20000
def invK (n : Int) : Int := if n = 1 then 2 else if n = 2 then 1 else if n = 5 then 6 else if n = 6 then 5 else n
def invM (m : Mk) : Mk := ⟨invK m.mark, m.part, m.word, m.new, m.old, if m.mark = 7 then m.kind else m.was, if m.mark = 7 then m.was else m.kind⟩
theorem invE (m : Mk) : invM m = ⟨invK m.mark, m.part, m.word, m.new, m.old, if m.mark = 7 then m.kind else m.was, if m.mark = 7 then m.was else m.kind⟩ := rfl
set_option maxHeartbeats 4000000 in
theorem inverse_s (m : Mk) : Ctr Tryz.prog 53 [mV m] (fun rr => rr = ⟨mV (invM m), []⟩) := by
 by_cases h1 : m.mark = 1
 ·rw [show invM m = ⟨2, m.part, m.word, m.new, m.old, m.was, m.kind⟩ by rw [invE, h1]; rfl]
  have encs := And.intro encs h1
  refine Ctr.of (rs := [.cell 2 78]) Tok true Tryz.func53 rfl rfl rfl rfl (by simp [ofDL]) (fun w0 kp => ?_)
  simp only [↓sx0, sxE, encs, sevalprocAttr]
  refine EndW.fn ?_ ?_ <;> simp only [sx4, encs, kpLL_map, sxR, sevalprocAttr] <;> (try simp) <;> (try omega)
 by_cases h2 : m.mark = 2
 ·rw [show invM m = ⟨1, m.part, m.word, m.new, m.old, m.was, m.kind⟩ by rw [invE, h2]; rfl]
  have encs := And.intro encs h2
  refine Ctr.of (rs := [.cell 2 78]) Tok true Tryz.func53 rfl rfl rfl rfl (by simp [ofDL]) (fun w0 kp => ?_)
  simp only [↓sx0, sxE, encs, sevalprocAttr]
  refine EndW.fn ?_ ?_ <;> simp only [sx4, encs, kpLL_map, sxR, sevalprocAttr] <;> (try simp) <;> (try omega)
 by_cases h5 : m.mark = 5
 ·rw [show invM m = ⟨6, m.part, m.word, m.new, m.old, m.was, m.kind⟩ by rw [invE, h5]; rfl]
  have encs := And.intro encs h5
  refine Ctr.of (rs := [.cell 2 78]) Tok true Tryz.func53 rfl rfl rfl rfl (by simp [ofDL]) (fun w0 kp => ?_)
  simp only [↓sx0, sxE, encs, sevalprocAttr]
  refine EndW.fn ?_ ?_ <;> simp only [sx4, encs, kpLL_map, sxR, sevalprocAttr] <;> (try simp) <;> (try omega)
 by_cases h6 : m.mark = 6
 ·rw [show invM m = ⟨5, m.part, m.word, m.new, m.old, m.was, m.kind⟩ by rw [invE, h6]; rfl]
  have encs := And.intro encs h6
  refine Ctr.of (rs := [.cell 2 78]) Tok true Tryz.func53 rfl rfl rfl rfl (by simp [ofDL]) (fun w0 kp => ?_)
  simp only [↓sx0, sxE, encs, sevalprocAttr]
  refine EndW.fn ?_ ?_ <;> simp only [sx4, encs, kpLL_map, sxR, sevalprocAttr] <;> (try simp) <;> (try omega)
 by_cases h7 : m.mark = 7
 ·rw [show invM m = ⟨7, m.part, m.word, m.new, m.old, m.kind, m.was⟩ by rw [invE, h7]; rfl]
  have encs := And.intro encs h7
  refine Ctr.of (rs := [.cell 2 78]) Tok true Tryz.func53 rfl rfl rfl rfl (by simp [ofDL]) (fun w0 kp => ?_)
  simp only [↓sx0, sxE, encs, sevalprocAttr]
  refine EndW.fn ?_ ?_ <;> simp only [sx4, encs, kpLL_map, sxR, sevalprocAttr] <;> (try simp) <;> (try omega)
 rw [show invM m = ⟨m.mark, m.part, m.word, m.new, m.old, m.was, m.kind⟩ by rw [invE, invK, if_neg h1, if_neg h2, if_neg h5, if_neg h6, if_neg h7, if_neg h7]]
 have encs := And.intro encs (And.intro (eq_false h1) (And.intro (eq_false h2) (And.intro (eq_false h5) (And.intro (eq_false h6) (eq_false h7)))))
 refine Ctr.of (rs := [.cell 2 78]) Tok true Tryz.func53 rfl rfl rfl rfl (by simp [ofDL]) (fun w0 kp => ?_)
 simp only [↓sx0, sxE, encs, sevalprocAttr]
 refine EndW.fn ?_ ?_ <;> simp only [sx4, encs, kpLL_map, sxR, sevalprocAttr] <;> (try simp) <;> (try omega)
theorem invM_sz {m : Mk} (h : MkSz m) : MkSz (invM m) := ⟨h.2, h.1⟩
def mkI (m : Mk) : Mk × Int := if mkErr m = 0 then (invM m, 0) else (mk0, mkErr m)
end Go.Proofs.YtgcmppghjfidfaaGreatDoor
