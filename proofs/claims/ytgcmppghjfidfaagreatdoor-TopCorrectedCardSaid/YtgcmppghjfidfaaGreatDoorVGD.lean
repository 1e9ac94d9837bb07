/-
 Chapter 8, walks: marks are right (reference).
-/
import Derived.Test.YtgcmppghjfidfaaGreatDoorVGC
import Derived.Test.YtgcmppghjfidfaaGreatDoorVGA
import Derived.Test.YtgcmppghjfidfaaGreatDoorVGB
import Derived.Test.YtgcmppghjfidfaaGreatDoorVInsR
set_option linter.unusedSimpArgs false
set_option linter.unusedVariables false
namespace Go.Proofs.YtgcmppghjfidfaaGreatDoor
open Go Go.Vx
set_option maxRecDepth 20000
end Go.Proofs.YtgcmppghjfidfaaGreatDoor
/-
 Chapter 8, walks: both marks in the other order, if they are right.
-/
namespace Go.Proofs.YtgcmppghjfidfaaGreatDoor
open Go Go.Vx
set_option maxRecDepth 20000
def swE (a b : Mk) : (Mk × Mk) × Int := if mkErr a = 0 then (if mkErr b = 0 then swapF (orderP a b) else ((mk0, mk0), mkErr b)) else ((mk0, mk0), mkErr a)
theorem mk_ok {m : Mk} (h : mkErr m = 0) : (1 ≤ m.mark ∧ m.mark ≤ 7) ∧ inR m = true ∧ wantB m.mark m.old m.new m.was m.kind = true ∧ bdE m = 0 := by
 unfold mkErr at h
 split at h
 ·rename_i h1
  split at h
  ·rename_i h2
   split at h
   ·rename_i h3
    exact ⟨h1, h2, h3.1, by rw [bdE, if_neg (fun h => h.elim h3.2.1 h3.2.2)]⟩
   ·omega
  ·omega
 ·omega
theorem brief_s (m : Mk) : Ctr Tryz.prog 37 [mV m] (fun rr => rr = ⟨(.v (.bool (decide (m.old.size ≤ 40 ∧ m.new.size ≤ 40)))), []⟩) := by
 refine Ctr.of (rs := [.tmp 2]) Tok true Tryz.func37 rfl rfl rfl rfl (by simp [ofDL]) (fun w0 kp => ?_)
 simp only [↓sx0, xE, sevalprocAttr]
 refine BrW.dec (fun h => ?_) (fun h => ?_)
 ·rw [show decide (m.old.size ≤ 40 ∧ m.new.size ≤ 40) = decide ((m.new.size : Int) ≤ 40) by rw [decide_eq_decide]; omega]
  simp only [↓sx0, xE, sevalprocAttr]
  refine EndW.fn ?_ ?_ <;> simp only [sx4, xK, sevalprocAttr] <;> (try simp) <;> (try omega)
 ·rw [show decide (m.old.size ≤ 40 ∧ m.new.size ≤ 40) = false by rw [decide_eq_false_iff_not]; omega]
  simp only [↓sx0, xE, sevalprocAttr]
  refine EndW.fn ?_ ?_ <;> simp only [sx4, xK, sevalprocAttr] <;> (try simp) <;> (try omega)
end Go.Proofs.YtgcmppghjfidfaaGreatDoor
/-
 Chapter 8, walks: edits are checked.
-/
namespace Go.Proofs.YtgcmppghjfidfaaGreatDoor
open Go Go.Vx
set_option maxRecDepth 20000
def nxOk (n : Int) (i m : Nat) : Bool := decide (n = -1) || (decide (n = i) && decide (i < m))
def nxI (n : Int) (i : Nat) : Nat := if n = -1 then i else i + 1
def edC (a b : List ByteArray) (x : Ed) (i k : Nat) : Nat := if x.fr = -1 ∨ x.to = -1 ∨ a[i]? ≠ b[k]? then 1 else 0
/-- the cost of edits, and the error, from a place on. -/
def edF (a b : List ByteArray) : List Ed → Nat → Nat → Nat → Int × Int
 | [], i, k, c => if i = a.length ∧ k = b.length then ((c : Int), 0) else (0, 14)
 | x :: l, i, k, c => if x.fr = -1 ∧ x.to = -1 then (0, 3) else if nxOk x.fr i a.length = true ∧ nxOk x.to k b.length = true then edF a b l (nxI x.fr i) (nxI x.to k) (c + edC a b x i k) else (0, 9)
structure ESt where
 n : Nat
 i : Nat
 k : Nat
 c : Nat
def edV (a b : List ByteArray) (l : List Ed) : Int × Int := if wdsErr a b = 0 then edF a b l 0 0 0 else (0, wdsErr a b)
end Go.Proofs.YtgcmppghjfidfaaGreatDoor
/-
 Chapter 8, walks: the laws are awake.
-/
namespace Go.Proofs.YtgcmppghjfidfaaGreatDoor
open Go Go.Vx
set_option maxRecDepth 20000
def foxL : List Pt := [⟨1, [⟨#[116, 104, 101]⟩, ⟨#[113, 117, 105, 99, 107]⟩, ⟨#[102, 111, 120]⟩]⟩]
def fox4 : List Pt := [⟨1, [⟨#[116, 104, 101]⟩, ⟨#[118, 101, 114, 121]⟩, ⟨#[113, 117, 105, 99, 107]⟩, ⟨#[102, 111, 120]⟩]⟩]
def inMk : Mk := ⟨2, 0, 1, ⟨#[]⟩, ⟨#[118, 101, 114, 121]⟩, 0, 0⟩
def outMk : Mk := ⟨1, 0, 3, ⟨#[102, 111, 120]⟩, ⟨#[]⟩, 0, 0⟩
def outMk2 : Mk := ⟨1, 0, 2, ⟨#[102, 111, 120]⟩, ⟨#[]⟩, 0, 0⟩
def wdsA : List ByteArray := [⟨#[116, 104, 101]⟩, ⟨#[113, 117, 105, 99, 107]⟩, ⟨#[102, 111, 120]⟩]
def wdsB : List ByteArray := [⟨#[97]⟩, ⟨#[113, 117, 105, 99, 107]⟩, ⟨#[114, 101, 100]⟩, ⟨#[102, 111, 120]⟩]
def edsL : List Ed := [⟨0, 0⟩, ⟨1, 1⟩, ⟨-1, 2⟩, ⟨2, 3⟩]
theorem fox_s : Ctr Tryz.prog 34 [] (fun rr => rr = ⟨.sl true 2 (foxL.map (eP true)), []⟩) := by
 refine Ctr.of (rs := [.tmp 0]) Tok true Tryz.func34 rfl rfl rfl rfl (by simp [ofDL]) (fun w0 kp => ?_)
 simp only [↓sx0, xE, sevalprocAttr]
 repeat ((with_reducible refine Vc.go ?_ fun _ => ?_); (focus (first | omega | (simp only [InK]; omega) | (simp [InK] <;> omega))); simp only [↓sx0, xE, sevalprocAttr])
 refine EndW.fn ?_ ?_ <;> simp only [sx4, xK, sevalprocAttr] <;> (try simp [foxL, eP, eS]) <;> (try omega)
theorem awE : (foxL = ([⟨1, [⟨#[116, 104, 101]⟩, ⟨#[113, 117, 105, 99, 107]⟩, ⟨#[102, 111, 120]⟩]⟩] : List Pt)) ∧ (fox4 = ([⟨1, [⟨#[116, 104, 101]⟩, ⟨#[118, 101, 114, 121]⟩, ⟨#[113, 117, 105, 99, 107]⟩, ⟨#[102, 111, 120]⟩]⟩] : List Pt)) ∧ (inMk = (⟨2, 0, 1, ⟨#[]⟩, ⟨#[118, 101, 114, 121]⟩, 0, 0⟩ : Mk)) ∧ (outMk = (⟨1, 0, 3, ⟨#[102, 111, 120]⟩, ⟨#[]⟩, 0, 0⟩ : Mk)) ∧ (outMk2 = (⟨1, 0, 2, ⟨#[102, 111, 120]⟩, ⟨#[]⟩, 0, 0⟩ : Mk)) ∧ (wdsA = ([⟨#[116, 104, 101]⟩, ⟨#[113, 117, 105, 99, 107]⟩, ⟨#[102, 111, 120]⟩] : List ByteArray)) ∧ (wdsB = ([⟨#[97]⟩, ⟨#[113, 117, 105, 99, 107]⟩, ⟨#[114, 101, 100]⟩, ⟨#[102, 111, 120]⟩] : List ByteArray)) ∧ (edsL = ([⟨0, 0⟩, ⟨1, 1⟩, ⟨-1, 2⟩, ⟨2, 3⟩] : List Ed)) := ⟨rfl, rfl, rfl, rfl, rfl, rfl, rfl, rfl⟩
end Go.Proofs.YtgcmppghjfidfaaGreatDoor
/-
 Chapter 8, walks: lists of marks.
-/
namespace Go.Proofs.YtgcmppghjfidfaaGreatDoor
open Go Go.Vx
set_option maxRecDepth 20000
def brB (m : Mk) : Bool := decide (m.old.size ≤ 40 ∧ m.new.size ≤ 40)
def lenB (n : Nat) : Bool := decide (n ≤ 8) || (decide (60 < n) && decide (n ≤ 62))
def fewB (l : List Mk) : Bool := lenB l.length && l.all brB
theorem fewB_bad {l : List Mk} {k : Nat} (h : k < l.length) (hb : brB l[k] = false) : fewB l = false := by
 rw [fewB, Bool.and_eq_false_iff]
 refine .inr ?_
 rw [← Bool.not_eq_true, List.all_eq_true]
 intro hc
 have := hc _ (List.getElem_mem h)
 rw [hb] at this; cases this
theorem all_take_succ {α : Type} {p : α → Bool} {l : List α} {k : Nat} (h : k < l.length) (h1 : (l.take k).all p = true) (h2 : p l[k] = true) : (l.take (k + 1)).all p = true := by
 rw [List.take_succ_eq_append_getElem h, List.all_append, h1]; simp [h2]
theorem few_s (b : Bool) (l : List Mk) (hl : l.length ≤ maxLen) : Ctr Tryz.prog 7 [.sl b 7 (l.map eM)] (fun rr => rr = ⟨(.v (.bool (fewB l))), []⟩) := by
 simp only [maxLen] at hl
 refine Ctr.of (rs := [.tmp 2]) Tok true Tryz.func7 rfl rfl rfl rfl (by simp [ofDL]) (fun w0 kp => ?_)
 simp only [↓sx0, xE, sevalprocAttr]
 have main : ∀ (hle : lenB l.length = true), fewB l = l.all brB := fun h => by rw [fewB, h, Bool.true_and]
 have no : ∀ (hle : lenB l.length = false), fewB l = false := fun h => by rw [fewB, h, Bool.false_and]
 by_cases hf : lenB l.length = true
 ·have hf2 := hf
  simp only [lenB, Bool.or_eq_true, Bool.and_eq_true, decide_eq_true_eq] at hf2
  rw [main hf]
  by_cases h8 : l.length ≤ 8
  ·repeat ((with_reducible refine BrW.no (by omega) ?_); simp only [↓sx0, xE, sevalprocAttr])
   refine LoopW.comp [0, 3] (by simp only [sx2, xR, sevalprocAttr] <;> (try simp) <;> (try omega)) ?_
   simp only [sx2, sxR, sevalprocAttr]
   refine LoopW.up Tok (fun k : Nat => [(3, (.v (.int .i64 k)))]) (fun k => []) (fun k => []) (fun k => []) (fun k => k ≤ l.length ∧ (l.take k).all brB = true) (fun k => l.length - k) (0) (by simp only [sx2, xR, sevalprocAttr] <;> (try simp) <;> (try omega)) ?_ ?_
   ·exact ⟨by omega, by simp⟩
   rintro k ⟨hk, ht⟩
   simp only [↓sx0, xE, sevalprocAttr]
   refine BrW.dec (fun hlt => ?_) (fun hlt => ?_)
   ·simp only [↓sx0, xE, sevalprocAttr]
    have hkl : k < l.length := by omega
    refine IxW.nat hkl ?_
    simp only [↓sx0, xE, sevalprocAttr]
    refine CallI.fn (brief_s l[k]) (by simp only [sx3, xR, sevalprocAttr] <;> (try simp) <;> (try rfl)) ?_
    simp only [↓sx0, xE, sevalprocAttr]
    refine BrW.of (fun hb => ?_) (fun hb => ?_)
    ·simp only [↓sx0, xE, sevalprocAttr]
     repeat ((with_reducible refine Vc.go ?_ fun _ => ?_); (focus (first | omega | (simp only [InK]; omega) | (simp [InK] <;> omega))); simp only [↓sx0, xE, sevalprocAttr])
     refine ⟨k + 1, StLe.auto (by simp only [sx2, xR, sevalprocAttr] <;> (try simp) <;> (try omega)), ?_, ?_⟩
     ·exact ⟨hkl, all_take_succ hkl ht hb⟩
     ·omega
    ·have := fewB_bad hkl hb
     rw [main hf] at this
     simp only [↓sx0, xE, sevalprocAttr]
     refine EndW.fn ?_ ?_ <;> simp only [sx4, xK, sevalprocAttr] <;> (try simp [this]) <;> (try omega)
   ·simp only [↓sx0, xE, sevalprocAttr]
    have hke : k = l.length := by omega
    subst hke
    rw [List.take_length] at ht
    refine EndW.fn ?_ ?_ <;> simp only [sx4, xK, sevalprocAttr] <;> (try simp [ht]) <;> (try omega)
  ·repeat ((first | (with_reducible refine BrW.yes (by omega) ?_) | (with_reducible refine BrW.no (by omega) ?_)); (try simp only [↓sx0, xE, sevalprocAttr]))
   refine LoopW.comp [0, 3] (by simp only [sx2, xR, sevalprocAttr] <;> (try simp) <;> (try omega)) ?_
   simp only [sx2, sxR, sevalprocAttr]
   refine LoopW.up Tok (fun k : Nat => [(3, (.v (.int .i64 k)))]) (fun k => []) (fun k => []) (fun k => []) (fun k => k ≤ l.length ∧ (l.take k).all brB = true) (fun k => l.length - k) (0) (by simp only [sx2, xR, sevalprocAttr] <;> (try simp) <;> (try omega)) ?_ ?_
   ·exact ⟨by omega, by simp⟩
   rintro k ⟨hk, ht⟩
   simp only [↓sx0, xE, sevalprocAttr]
   refine BrW.dec (fun hlt => ?_) (fun hlt => ?_)
   ·simp only [↓sx0, xE, sevalprocAttr]
    have hkl : k < l.length := by omega
    refine IxW.nat hkl ?_
    simp only [↓sx0, xE, sevalprocAttr]
    refine CallI.fn (brief_s l[k]) (by simp only [sx3, xR, sevalprocAttr] <;> (try simp) <;> (try rfl)) ?_
    simp only [↓sx0, xE, sevalprocAttr]
    refine BrW.of (fun hb => ?_) (fun hb => ?_)
    ·simp only [↓sx0, xE, sevalprocAttr]
     repeat ((with_reducible refine Vc.go ?_ fun _ => ?_); (focus (first | omega | (simp only [InK]; omega) | (simp [InK] <;> omega))); simp only [↓sx0, xE, sevalprocAttr])
     refine ⟨k + 1, StLe.auto (by simp only [sx2, xR, sevalprocAttr] <;> (try simp) <;> (try omega)), ?_, ?_⟩
     ·exact ⟨hkl, all_take_succ hkl ht hb⟩
     ·omega
    ·have := fewB_bad hkl hb
     rw [main hf] at this
     simp only [↓sx0, xE, sevalprocAttr]
     refine EndW.fn ?_ ?_ <;> simp only [sx4, xK, sevalprocAttr] <;> (try simp [this]) <;> (try omega)
   ·simp only [↓sx0, xE, sevalprocAttr]
    have hke : k = l.length := by omega
    subst hke
    rw [List.take_length] at ht
    refine EndW.fn ?_ ?_ <;> simp only [sx4, xK, sevalprocAttr] <;> (try simp [ht]) <;> (try omega)
 ·have hf : lenB l.length = false := by simpa using hf
  have hf2 := hf
  simp only [lenB, Bool.or_eq_false_iff, Bool.and_eq_false_iff, decide_eq_false_iff_not] at hf2
  rw [no hf]
  by_cases h8 : l.length ≤ 60
  ·repeat ((first | (with_reducible refine BrW.yes (by omega) ?_) | (with_reducible refine BrW.no (by omega) ?_)); (try simp only [↓sx0, xE, sevalprocAttr]))
   refine EndW.fn ?_ ?_ <;> simp only [sx4, xK, sevalprocAttr] <;> (try simp) <;> (try omega)
  ·repeat ((first | (with_reducible refine BrW.yes (by omega) ?_) | (with_reducible refine BrW.no (by omega) ?_)); (try simp only [↓sx0, xE, sevalprocAttr]))
   refine EndW.fn ?_ ?_ <;> simp only [sx4, xK, sevalprocAttr] <;> (try simp) <;> (try omega)
theorem brief_sz {m : Mk} (h : brB m = true) : MkSz m := by
 simp only [brB, decide_eq_true_eq] at h
 exact ⟨by omega, by omega⟩
def AllMk (l : List Mk) : Prop := ∀ m ∈ l, MkSz m
theorem few_all {l : List Mk} (h : fewB l = true) : AllMk l ∧ l.length ≤ 62 := by
 simp only [fewB, Bool.and_eq_true, List.all_eq_true] at h
 refine ⟨fun m hm => brief_sz (h.2 m hm), ?_⟩
 have := h.1
 simp only [lenB, Bool.or_eq_true, Bool.and_eq_true, decide_eq_true_eq] at this
 omega
theorem copyMarks_s (b : Bool) (l : List Mk) (hl : l.length ≤ 1000000) : Ctr Tryz.prog 11 [.sl b 7 (l.map eM)] (fun rr => rr = ⟨.sl true 7 (l.map eM), []⟩) := by
 refine Ctr.of (rs := [.tmp 2]) Tok true Tryz.func11 rfl rfl rfl rfl (by simp [ofDL]) (fun w0 kp => ?_)
 simp only [↓sx0, xE, sevalprocAttr]
 repeat ((with_reducible refine Vc.go ?_ fun _ => ?_); (focus (first | omega | (simp only [InK]; omega) | (simp [InK] <;> omega))); simp only [↓sx0, xE, sevalprocAttr])
 refine EndW.fn ?_ ?_ <;> simp only [sx4, xK, sevalprocAttr] <;> (try simp) <;> (try omega)
/-- the error of marks. -/
def lstE : List Mk → Int
 | [] => 0
 | m :: l => if mkErr m = 0 then lstE l else mkErr m
def lstErr (l : List Mk) : Int := if 60 < l.length then 8 else lstE l
theorem lstE_drop {l : List Mk} {k : Nat} (h : k < l.length) : lstE (l.drop k) = if mkErr l[k] = 0 then lstE (l.drop (k + 1)) else mkErr l[k] := by
 rw [List.drop_eq_getElem_cons h, lstE]
def eML (p : Bool × List Mk) : List D := [.sl p.1 7 (p.2.map eM)]
def lstsErr : List (Bool × List Mk) → Int
 | [] => 0
 | p :: ls => if lstErr p.2 = 0 then lstsErr ls else lstErr p.2
theorem lsts_drop {l : List (Bool × List Mk)} {k : Nat} (h : k < l.length) : lstsErr (l.drop k) = if lstErr l[k].2 = 0 then lstsErr (l.drop (k + 1)) else lstErr l[k].2 := by
 rw [List.drop_eq_getElem_cons h, lstsErr]
theorem checkMarks_s (b : Bool) (ls : List (Bool × List Mk)) (hz : ∀ p ∈ ls, AllMk p.2 ∧ p.2.length ≤ 1000000000) (hl : ls.length ≤ 1000000000) : Ctr Tryz.prog 41 [.sl b 1 (ls.map eML)] (fun rr => rr = ⟨(.v (.int .i64 (lstsErr ls))), []⟩) := by
 have encs := And.intro encs (show ∀ p, eML p = [.sl p.1 7 (p.2.map eM)] from fun _ => rfl)
 refine Ctr.of (rs := [.tmp 2]) Tok true Tryz.func41 rfl rfl rfl rfl (by simp [ofDL]) (fun w0 kp => ?_)
 simp only [↓sx0, sxE, encs, sevalprocAttr]
 refine LoopW.comp [8, 9, 10] (by simp only [sx2, encs, sxR, sevalprocAttr] <;> (try simp) <;> (try omega)) ?_
 simp only [sx2, sxR, sevalprocAttr]
 refine LoopW.up Tok (fun i : Nat => [(10, (.v (.int .i64 i)))]) (fun i => []) (fun i => []) (fun i => []) (fun i => i ≤ ls.length ∧ lstsErr (ls.drop i) = lstsErr ls) (fun i => ls.length - i) (0) (by simp only [sx2, encs, sxR, sevalprocAttr] <;> (try simp) <;> (try omega)) ?_ ?_
 ·exact ⟨by omega, rfl⟩
 rintro i ⟨hi, hI⟩
 simp only [↓sx0, sxE, encs, sevalprocAttr]
 refine BrW.dec (fun hlt => ?_) (fun hlt => ?_)
 ·simp only [↓sx0, sxE, encs, sevalprocAttr]
  have hil : i < ls.length := by omega
  obtain ⟨hz1, hl1⟩ := hz _ (List.getElem_mem hil)
  have hS := lsts_drop hil
  refine IxW.nat hil ?_
  simp only [↓sx0, sxE, encs, sevalprocAttr]
  generalize ls[i] = p at hz1 hl1 hS ⊢
  obtain ⟨pb, l⟩ := p
  simp only at hz1 hl1 hS ⊢
  refine BrW.dec (fun h60 => ?_) (fun h60 => ?_)
  ·have hE : lstErr l = 8 := by rw [lstErr, if_pos (by omega)]
   rw [hE, if_neg (by omega)] at hS
   rw [← hI, hS]
   simp only [↓sx0, sxE, encs, sevalprocAttr]
   refine EndW.fn ?_ ?_ <;> simp only [sx4, encs, kpLL_map, sxR, sevalprocAttr] <;> (try simp) <;> (try omega)
  ·have hE : lstErr l = lstE l := by rw [lstErr, if_neg (by omega)]
   rw [hE] at hS
   simp only [↓sx0, sxE, encs, sevalprocAttr]
   refine LoopW.comp [8, 9, 10, 17, 18, 19] (by simp only [sx2, encs, sxR, sevalprocAttr] <;> (try simp) <;> (try omega)) ?_
   simp only [sx2, sxR, sevalprocAttr]
   refine LoopW.up Tok (fun k : Nat => [(19, (.v (.int .i64 k)))]) (fun k => []) (fun k => []) (fun k => []) (fun k => k ≤ l.length ∧ lstE (l.drop k) = lstE l) (fun k => l.length - k) (0) (by simp only [sx2, encs, sxR, sevalprocAttr] <;> (try simp) <;> (try omega)) ?_ ?_
   ·exact ⟨by omega, rfl⟩
   rintro k ⟨hk, ht⟩
   simp only [↓sx0, sxE, encs, sevalprocAttr]
   refine BrW.dec (fun hlt2 => ?_) (fun hlt2 => ?_)
   ·simp only [↓sx0, sxE, encs, sevalprocAttr]
    have h1 : k < l.length := by omega
    have hs := lstE_drop h1
    refine IxW.nat h1 ?_
    simp only [↓sx0, sxE, encs, sevalprocAttr]
    refine CallI.fn (checkMark_s l[k] (hz1 _ (List.getElem_mem h1))) (by simp only [sx3, encs, sxR, sevalprocAttr] <;> (try simp) <;> (try rfl)) ?_
    simp only [↓sx0, sxE, encs, sevalprocAttr]
    refine BrW.dec (fun he => ?_) (fun he => ?_)
    ·rw [if_neg he] at hs
     rw [← ht, hs, if_neg he] at hS
     rw [← hI, hS]
     simp only [↓sx0, sxE, encs, sevalprocAttr]
     refine EndW.fn ?_ ?_ <;> simp only [sx4, encs, kpLL_map, sxR, sevalprocAttr] <;> (try simp) <;> (try omega)
    ·rw [if_pos (Decidable.not_not.1 he)] at hs
     simp only [↓sx0, sxE, encs, sevalprocAttr]
     repeat ((with_reducible refine Vc.go ?_ fun _ => ?_); (focus (first | omega | (simp only [InK]; omega) | (simp [InK] <;> omega))); simp only [↓sx0, sxE, encs, sevalprocAttr])
     refine ⟨k + 1, StLe.auto (by simp only [sx2, encs, sxR, sevalprocAttr] <;> (try simp) <;> (try omega)), ?_, ?_⟩
     ·exact ⟨h1, by rw [← hs, ht]⟩
     ·omega
   ·simp only [↓sx0, sxE, encs, sevalprocAttr]
    have hke : k = l.length := by omega
    subst hke
    rw [List.drop_length] at ht
    rw [← ht, if_pos (show lstE [] = 0 from rfl)] at hS
    repeat ((with_reducible refine Vc.go ?_ fun _ => ?_); (focus (first | omega | (simp only [InK]; omega) | (simp [InK] <;> omega))); simp only [↓sx0, sxE, encs, sevalprocAttr])
    refine ⟨i + 1, StLe.auto (by simp only [sx2, encs, sxR, sevalprocAttr] <;> (try simp) <;> (try omega)), ?_, ?_⟩
    ·exact ⟨hil, by rw [← hS, hI]⟩
    ·omega
 ·simp only [↓sx0, sxE, encs, sevalprocAttr]
  have hke : i = ls.length := by omega
  subst hke
  rw [List.drop_length] at hI
  rw [← hI]
  refine EndW.fn ?_ ?_ <;> simp only [sx4, encs, kpLL_map, sxR, sevalprocAttr] <;> (try simp [lstsErr]) <;> (try omega)
end Go.Proofs.YtgcmppghjfidfaaGreatDoor
/-
 Chapter 8, walks: copies of lists.
-/
namespace Go.Proofs.YtgcmppghjfidfaaGreatDoor
open Go Go.Vx
set_option maxRecDepth 20000
theorem copyTexts_s (b : Bool) (l : List ByteArray) (hl : l.length ≤ 1000000) : Ctr Tryz.prog 51 [.sl b 1 (l.map eS)] (fun rr => rr = ⟨.sl true 1 (l.map eS), []⟩) := by
 refine Ctr.of (rs := [.tmp 2]) Tok true Tryz.func51 rfl rfl rfl rfl (by simp [ofDL]) (fun w0 kp => ?_)
 simp only [↓sx0, xE, sevalprocAttr]
 repeat ((with_reducible refine Vc.go ?_ fun _ => ?_); (focus (first | omega | (simp only [InK]; omega) | (simp [InK] <;> omega))); simp only [↓sx0, xE, sevalprocAttr])
 refine EndW.fn ?_ ?_ <;> simp only [sx4, xK, sevalprocAttr] <;> (try simp) <;> (try omega)
theorem copyInts_s (b : Bool) (l : List Int) (hl : l.length ≤ 1000000) : Ctr Tryz.prog 30 [.sl b 1 (l.map eI)] (fun rr => rr = ⟨.sl true 1 (l.map eI), []⟩) := by
 refine Ctr.of (rs := [.tmp 2]) Tok true Tryz.func30 rfl rfl rfl rfl (by simp [ofDL]) (fun w0 kp => ?_)
 simp only [↓sx0, xE, sevalprocAttr]
 repeat ((with_reducible refine Vc.go ?_ fun _ => ?_); (focus (first | omega | (simp only [InK]; omega) | (simp [InK] <;> omega))); simp only [↓sx0, xE, sevalprocAttr])
 refine EndW.fn ?_ ?_ <;> simp only [sx4, xK, sevalprocAttr] <;> (try simp) <;> (try omega)
def szB (s : ByteArray) : Bool := decide (s.size ≤ 40)
end Go.Proofs.YtgcmppghjfidfaaGreatDoor
/-
 Chapter 8, walks: copies of copies, and whether they are the same.
-/
namespace Go.Proofs.YtgcmppghjfidfaaGreatDoor
open Go Go.Vx
set_option maxRecDepth 20000
theorem copyOf_s (b b2 : Bool) (l : List Pt) (hl : l.length ≤ 1000000) (hw : ∀ p ∈ l, p.words.length ≤ 1000000) : Ctr Tryz.prog 15 [.sl b 2 (l.map (eP b2))] (fun rr => rr = ⟨.sl true 2 (l.map (eP true)), []⟩) := by
 refine Ctr.of (rs := [.tmp 2]) Tok true Tryz.func15 rfl rfl rfl rfl (by simp [ofDL]) (fun w0 kp => ?_)
 simp only [↓sx0, xE, sevalprocAttr]
 refine LoopW.inv Tok (fun k : Nat => ⟨[(3, .row 0), (4, (.v (.int .i64 k))), (0, .sl b 2 (l.map (eP b2)))], [], [.own 81 2 ((l.take k).map (eP true))]⟩) (fun k => k ≤ l.length) (fun k => l.length - k) 0 (StLe.auto ?_) (Nat.zero_le _) ?_
 ·simp only [List.take_zero, List.map_nil]
  simp only [sx2, xR, sevalprocAttr] <;> (try simp) <;> (try omega)
 rintro k hk
 simp only [↓sx0, xE, sevalprocAttr]
 refine BrW.dec (fun hlt => ?_) (fun hlt => ?_)
 ·simp only [↓sx0, xE, sevalprocAttr]
  have hkl : k < l.length := by omega
  refine DrawW.plan Tok mixed (.q 0 <| .q 1 <| .q 2 <| .q 3 <| .q 4 <| .q 5 <| .q 6 <| .q 7 <| .q 8 <| .q 9 <| .q 10 <| .e 11 [5] <| .q 12 <| .e 13 [] <| .e 14 [] <| .q 15 <| .done) (by kernel_rfl) (by kernel_rfl) ?_
  simp only [↓sx0, xE, sevalprocAttr]
  refine IxW.nat hkl ?_
  simp only [↓sx0, xE, sevalprocAttr]
  refine IxW.nat hkl ?_
  simp only [↓sx0, xE, sevalprocAttr]
  refine CallI.fn (copyTexts_s b2 l[k].words (hw _ (List.getElem_mem hkl))) (by simp only [sx3, xR, sevalprocAttr] <;> (try simp) <;> (try rfl)) ?_
  simp only [↓sx0, xE, sevalprocAttr]
  repeat ((with_reducible refine Vc.go ?_ fun _ => ?_); (focus (first | omega | (simp only [InK]; omega) | (simp [InK] <;> omega))); simp only [↓sx0, xE, sevalprocAttr])
  have hf : (l.take k).map (eP true) ++ [eP true l[k]] = (l.take (k + 1)).map (eP true) := by rw [List.take_succ_eq_append_getElem hkl, List.map_append]; rfl
  refine ⟨k + 1, StLe.auto ?_, by omega, by omega⟩
  simp only [← hf]
  simp only [sx2, xR, sevalprocAttr] <;> (try simp) <;> (try omega)
 ·simp only [↓sx0, xE, sevalprocAttr]
  have hke : k = l.length := by omega
  subst hke
  rw [List.take_length]
  have hkp := kpP l
  refine EndW.fn ?_ ?_ <;> simp only [sx4, xK, sevalprocAttr] <;> (try simp [hkp]) <;> (try omega)
end Go.Proofs.YtgcmppghjfidfaaGreatDoor
/-
 Chapter 2, walks: copies of founts and rules, the sorts of a copy, counting (the law's own functions).
-/
namespace Go.Proofs.YtgcmppghjfidfaaGreatDoor
open Go Go.Vx
set_option maxRecDepth 20000
theorem copyFount_s (n : ByteArray) (bd : Int) (b : Bool) (l : List Srt) (hl : l.length ≤ 1000000) : Ctr Tryz.prog 27 [.agg [(.v (.string (n))), (.v (.int .i64 bd)), .sl b 4 (l.map eT)]] (fun rr => rr = ⟨.agg [(.v (.string (n))), (.v (.int .i64 bd)), .sl true 4 (l.map eT)], []⟩) := by
 have encs := And.intro encs eT_def
 refine Ctr.of (rs := [.cell 2 50]) Tok true Tryz.func27 rfl rfl rfl rfl (by simp [ofDL]) (fun w0 kp => ?_)
 simp only [↓sx0, sxE, encs, sevalprocAttr]
 repeat ((with_reducible refine Vc.go ?_ fun _ => ?_); (focus (first | omega | (simp only [InK]; omega) | (simp [InK] <;> omega))); simp only [↓sx0, sxE, encs, sevalprocAttr])
 refine EndW.fn ?_ ?_ <;> simp only [sx4, encs, kpLL_map, sxR, sevalprocAttr] <;> (try simp) <;> (try omega)
theorem copyRules_s (b1 b2 b3 : Bool) (pt ex br : List ByteArray) (lf rt : Int) (h1 : pt.length ≤ 1000000) (h2 : ex.length ≤ 1000000) (h3 : br.length ≤ 1000000) : Ctr Tryz.prog 28 [.agg [.sl b1 1 (pt.map eS), .sl b2 1 (ex.map eS), .sl b3 1 (br.map eS), (.v (.int .i64 lf)), (.v (.int .i64 rt))]] (fun rr => rr = ⟨.agg [.sl true 1 (pt.map eS), .sl true 1 (ex.map eS), .sl true 1 (br.map eS), (.v (.int .i64 lf)), (.v (.int .i64 rt))], []⟩) := by
 refine Ctr.of (rs := [.cell 2 53]) Tok true Tryz.func28 rfl rfl rfl rfl (by simp [ofDL]) (fun w0 kp => ?_)
 simp only [↓sx0, xE, sevalprocAttr]
 refine DrawW.plan Tok mixed (.q 0 <| .q 1 <| .q 3 <| .q 4 <| .q 6 <| .q 7 <| .e 2 [4, 7] <| .q 9 <| .e 5 [7] <| .e 8 [] <| .e 10 [] <| .q 11 <| .e 12 [] <| .q 13 <| .e 14 [] <| .done) (by kernel_rfl) (by kernel_rfl) ?_
 simp only [↓sx0, xE, sevalprocAttr]
 repeat' (first | (with_reducible refine And.intro ?_ ?_) | ((with_reducible refine Vc.go ?_ fun _ => ?_); (focus (first | trivial | omega | (simp only [InK]; omega) | (simp [InK] <;> omega))); (try simp only [↓sx0, xE, sevalprocAttr])) | (refine CallI.fn (copyTexts_s b1 pt h1) ?_ ?_; (focus ((simp only [sx3, xR, sevalprocAttr] <;> (try simp) <;> (try rfl)); done)); (try simp only [↓sx0, xE, sevalprocAttr])) | (refine CallI.fn (copyTexts_s b2 ex h2) ?_ ?_; (focus ((simp only [sx3, xR, sevalprocAttr] <;> (try simp) <;> (try rfl)); done)); (try simp only [↓sx0, xE, sevalprocAttr])) | (refine CallI.fn (copyTexts_s b3 br h3) ?_ ?_; (focus ((simp only [sx3, xR, sevalprocAttr] <;> (try simp) <;> (try rfl)); done)); (try simp only [↓sx0, xE, sevalprocAttr])))
 all_goals (refine EndW.fn ?_ ?_ <;> simp only [sx4, xK, sevalprocAttr] <;> (try simp) <;> (try omega))
theorem times_s (b : Bool) (a : List Int) (n : Int) (ha : a.length ≤ 1000000) : Ctr Tryz.prog 32 [.sl b 1 (a.map eI), (.v (.int .i64 n))] (fun rr => rr = ⟨(.v (.int .i64 (((a.count n : Nat) : Int)))), []⟩) := by
 refine Ctr.of (rs := [.tmp 4]) Tok true Tryz.func32 rfl rfl rfl rfl (by simp [ofDL]) (fun w0 kp => ?_)
 simp only [↓sx0, xE, sevalprocAttr]
 refine LoopW.comp [0, 1, 5, 6] (by simp only [sx2, xR, sevalprocAttr] <;> (try simp) <;> (try omega)) ?_
 simp only [sx2, sxR, sevalprocAttr]
 refine LoopW.up Tok (fun k : Nat => [(5, (.v (.int .i64 ((((a.take k).count n : Nat) : Int))))), (6, (.v (.int .i64 ((k : Int)))))]) (fun k => []) (fun k => []) (fun k => []) (fun k => k ≤ a.length) (fun k => a.length - k) (0) (by simp only [sx2, xR, sevalprocAttr] <;> (try simp) <;> (try omega)) ?_ ?_
 ·omega
 rintro k hk
 have hc := count_le (a.take k) n
 have hcl : (a.take k).length ≤ k := by simp; omega
 simp only [↓sx0, xE, sevalprocAttr]
 by_cases hk2 : k < a.length
 ·refine BrW.yes (by omega) ?_
  simp only [↓sx0, xE, sevalprocAttr]
  refine IxW.nat hk2 ?_
  simp only [↓sx0, xE, sevalprocAttr]
  have ht : (a.take (k + 1)).count n = (a.take k).count n + if a[k] = n then 1 else 0 := by
   rw [List.take_add_one, List.getElem?_eq_getElem hk2, List.count_append]
   simp [List.count_singleton]
  refine BrW.dec (fun he => ?_) (fun he => ?_)
  ·rw [if_pos he] at ht
   simp only [↓sx0, xE, sevalprocAttr]
   repeat ((with_reducible refine Vc.go ?_ fun _ => ?_); (focus (first | omega | (simp only [InK]; omega) | (simp [InK] <;> omega))); simp only [↓sx0, xE, sevalprocAttr])
   refine ⟨k + 1, StLe.auto (by simp only [sx2, xR, sevalprocAttr] <;> (try simp [ht, encs]) <;> (try omega)), ?_, ?_⟩
   ·omega
   ·omega
  ·rw [if_neg he] at ht
   simp only [↓sx0, xE, sevalprocAttr]
   repeat ((with_reducible refine Vc.go ?_ fun _ => ?_); (focus (first | omega | (simp only [InK]; omega) | (simp [InK] <;> omega))); simp only [↓sx0, xE, sevalprocAttr])
   refine ⟨k + 1, StLe.auto (by simp only [sx2, xR, sevalprocAttr] <;> (try simp [ht, encs]) <;> (try omega)), ?_, ?_⟩
   ·omega
   ·omega
 ·have hke : k = a.length := by omega
  subst hke
  rw [List.take_length]
  refine BrW.no (by omega) ?_
  simp only [↓sx0, xE, sevalprocAttr]
  refine EndW.fn ?_ ?_ <;> simp only [sx4, xK, sevalprocAttr] <;> (try simp) <;> (try omega)
end Go.Proofs.YtgcmppghjfidfaaGreatDoor
/-
 The sorts of all words of a copy (the law's own function).
-/
namespace Go.Proofs.YtgcmppghjfidfaaGreatDoor
open Go Go.Vx
set_option maxRecDepth 20000
def SortsP (l : List Srt) (br : List ByteArray) (lp : List Pt) (rr : Ret) : Prop := ∃ (e : Int) (a : List Int), rr = ⟨.tup [.sl true 1 (a.map eI), (.v (.int .i64 e))], []⟩ ∧ a.length ≤ 1000000000 ∧ (e = 0 → ∃ qs, QsOk l br lp qs ∧ a = qs.flatten.flatten)
structure QsTo (l : List Srt) (br : List ByteArray) (lp : List Pt) (qs : List (List (List Int))) (k : Nat) : Prop where
 len : qs.length = k
 le : k ≤ lp.length
 wlen : ∀ i (h : i < lp.length) (h2 : i < qs.length), qs[i].length = lp[i].words.length
 set : ∀ i (h : i < lp.length) (h2 : i < qs.length) k (h3 : k < lp[i].words.length) (h4 : k < qs[i].length), SetR l lp[i].words[k] (barsOf br lp[i].words[k]) 0 (some qs[i][k])
theorem QsTo.next {l : List Srt} {br : List ByteArray} {lp : List Pt} {qs : List (List (List Int))} {k : Nat} (h : QsTo l br lp qs k) (hk : k < lp.length) {q : List (List Int)} (h1 : q.length = lp[k].words.length)
  (h2 : ∀ j (h3 : j < lp[k].words.length) (h4 : j < q.length), SetR l lp[k].words[j] (barsOf br lp[k].words[j]) 0 (some q[j])) : QsTo l br lp (qs ++ [q]) (k + 1) := by
 have hl := h.len
 refine ⟨by simp [hl], hk, fun i hi hi2 => ?_, fun i hi hi2 j h3 h4 => ?_⟩
 ·by_cases hik : i < qs.length
  ·simp only [List.getElem_append_left hik]; exact h.wlen i hi hik
  ·have : i = k := by simp at hi2; omega
   subst this
   simp only [List.getElem_append_right (show qs.length ≤ i by omega), hl, Nat.sub_self, List.getElem_cons_zero]
   exact h1
 ·by_cases hik : i < qs.length
  ·simp only [List.getElem_append_left hik] at h4 ⊢
   exact h.set i hi hik j h3 h4
  ·have : i = k := by simp at hi2; omega
   subst this
   simp only [List.getElem_append_right (show qs.length ≤ i by omega), hl, Nat.sub_self, List.getElem_cons_zero] at h4 ⊢
   exact h2 j h3 h4
set_option maxHeartbeats 32000000 in
theorem sortsOf_s (n : ByteArray) (bd : Int) (l : List Srt) (pt ex br : List ByteArray) (lp : List Pt) (b b2 : Bool) (lf rt : Int) (hn : n.size ≤ 1000000000) (hs : ∀ s ∈ l, SrtOk s) (hok : FtOk n bd l)
  (h1 : ∀ s ∈ pt, s.size ≤ 1000000) (h2 : ∀ s ∈ ex, s.size ≤ 1000000) (h3 : ∀ s ∈ br, s.size ≤ 1000000) (hr : RlOk pt ex br lf rt) (hlp : lp.length ≤ 1000) (hsz : ∀ p ∈ lp, p.words.length ≤ 1000 ∧ ∀ w ∈ p.words, w.size ≤ 1000)
  (hpl : pt.length ≤ 1000000 ∧ ex.length ≤ 1000000 ∧ br.length ≤ 1000000) :
  CtrK glob Tryz.prog 25 [.agg [(.v (.string (n))), (.v (.int .i64 bd)), .sl true 4 (l.map eT)], .agg [.sl true 1 (pt.map eS), .sl true 1 (ex.map eS), .sl true 1 (br.map eS), (.v (.int .i64 lf)), (.v (.int .i64 rt))], .sl b 2 (lp.map (eP b2))] (SortsP l br lp) := by
 have encs := And.intro encs (And.intro eT_def (show ∀ q, eWd q = [.sl true 1 (q.1.map eI), .sl true 1 (q.2.map eI)] from fun _ => rfl))
 have hll := hok.some
 refine CtrK.of (rs := [.tmp 6, .tmp 7]) Tok true Tryz.func25 rfl rfl rfl rfl (by simp [ofDL]) (fun w0 kp hgl => ?_)
 simp only [↓sx0, sxE, encs, sevalprocAttr]
 refine LoopW.comp [2, 3, 4, 8, 9] (by simp only [sx2, encs, sxR, sevalprocAttr] <;> (try simp) <;> (try omega)) ?_
 simp only [sx2, sxR, sevalprocAttr]
 refine LoopW.up Tok (fun x : Nat × List (List (List Int)) => [(8, .row 0), (9, (.v (.int .i64 ((x.1 : Int)))))]) (fun x => []) (fun x => []) (fun x => [.own 3 1 (x.2.flatten.flatten.map eI)]) (fun x => QsTo l br lp x.2 x.1 ∧ x.2.flatten.flatten.length ≤ x.1 * 1000000) (fun x => lp.length - x.1) ((0, [])) (by simp only [sx2, encs, sxR, sevalprocAttr] <;> (try simp) <;> (try omega)) ?_ ?_
 ·exact ⟨⟨rfl, Nat.zero_le _, fun i _ h => by simp at h, fun i _ h => by simp at h⟩, by simp⟩
 rintro ⟨k, qs⟩ ⟨hq, htl⟩
 simp only at hq htl
 have hk := hq.le
 simp only [↓sx0, sxE, encs, sevalprocAttr]
 by_cases hk2 : k < lp.length
 ·obtain ⟨g1, g2⟩ := hsz _ (List.getElem_mem hk2)
  refine BrW.yes (by omega) ?_
  simp only [↓sx0, sxE, encs, sevalprocAttr]
  refine DrawW.plan Tok mixed (.q 0 <| .q 2 <| .q 4 <| .q 5 <| .q 6 <| .q 7 <| .q 8 <| .e 1 [2, 8] <| .e 3 [8] <| .e 9 [] <| .e 10 [] <| .q 11 <| .q 12 <| .q 13 <| .q 14 <| .q 15 <| .done) (by kernel_rfl) (by kernel_rfl) ?_
  simp only [↓sx0, sxE, encs, sevalprocAttr]
  refine IxW.nat hk2 ?_
  simp only [↓sx0, sxE, encs, sevalprocAttr]
  repeat' (first | (with_reducible refine And.intro ?_ ?_) | ((with_reducible refine Vc.go ?_ fun _ => ?_); (focus (first | trivial | omega | (simp only [InK]; omega) | (simp [InK] <;> omega))); (try simp only [↓sx0, sxE, encs, sevalprocAttr])) | (refine CallI.fn (copyFount_s n bd true l (by omega)) ?_ ?_; (focus ((simp only [sx3, encs, sxR, sevalprocAttr] <;> (try simp) <;> (try rfl)); done)); (try simp only [↓sx0, sxE, encs, sevalprocAttr])) | (refine CallI.fn (copyRules_s true true true pt ex br lf rt hpl.1 hpl.2.1 hpl.2.2) ?_ ?_; (focus ((simp only [sx3, encs, sxR, sevalprocAttr] <;> (try simp) <;> (try rfl)); done)); (try simp only [↓sx0, sxE, encs, sevalprocAttr])) | (refine CallI.fn (copyTexts_s b2 lp[k].words (by omega)) ?_ ?_; (focus ((simp only [sx3, encs, sxR, sevalprocAttr] <;> (try simp) <;> (try rfl)); done)); (try simp only [↓sx0, sxE, encs, sevalprocAttr])))
  all_goals
   refine CallI.ctrK (words_s n bd l pt ex br lp[k].words lf rt hn hs hok h1 h2 h3 hr (by omega)) glob_ok hgl rfl (by simp only [sx3, encs, sxR, sevalprocAttr] <;> (try simp) <;> (try rfl)) ?_
   rintro _ ⟨e, ps, rfl, hps⟩
   simp only [↓sx0, sxE, encs, sevalprocAttr]
   refine BrW.dec (fun he => ?_) (fun he => ?_)
   ·repeat' (first | (with_reducible refine BrW.yes (by omega) ?_) | (with_reducible refine BrW.no (by omega) ?_) | (with_reducible refine BrW.dec (fun _ => ?_) (fun _ => ?_)) | (with_reducible refine BrW.of (fun _ => ?_) (fun _ => ?_)) | ((with_reducible refine Vc.go ?_ fun _ => ?_); (focus (first | omega | (simp only [InK]; omega) | (simp [InK] <;> omega)))) | simp only [↓sx0, sxE, encs, sevalprocAttr])
    exact EndW.p (.tup [.sl true 1 [], (.v (.int .i64 e))]) ⟨e, [], rfl, by simp, fun h => absurd h he⟩ (by simp [leV, leL]) (by simp [kpV, kpVL, kpLL])
   simp only [↓sx0, sxE, encs, sevalprocAttr]
   obtain ⟨hpn, hpR⟩ := hps (by omega)
   have hpl1 : ∀ j (h : j < ps.length), ps[j].1.length ≤ 1000 := fun j h => by
    have r1 := (hpR j h (by omega)).len _ rfl
    have r2 := g2 _ (List.getElem_mem (show j < lp[k].words.length by omega))
    omega
   refine LoopW.comp [2, 3, 4, 8, 9, 10, 12] (by simp only [sx2, encs, sxR, sevalprocAttr] <;> (try simp) <;> (try omega)) ?_
   simp only [sx2, sxR, sevalprocAttr]
   refine LoopW.up Tok (fun x : Nat => [(8, .row 0), (12, (.v (.int .i64 ((x : Int)))))]) (fun x => []) (fun x => [(0, (qs.flatten.flatten ++ ((ps.take x).map (·.1)).flatten).map eI)]) (fun x => []) (fun x => x ≤ ps.length ∧ ((ps.take x).map (·.1)).flatten.length ≤ x * 1000) (fun x => ps.length - x) (0) (by simp only [sx2, encs, sxR, sevalprocAttr] <;> (try simp) <;> (try omega)) ?_ ?_
   ·exact ⟨Nat.zero_le _, by simp⟩
   rintro j ⟨hj, hjl⟩
   have hjl2 : (qs.flatten.flatten ++ ((ps.take j).map (·.1)).flatten).length ≤ 2000000000 := by rw [List.length_append]; omega
   simp only [↓sx0, sxE, encs, sevalprocAttr]
   by_cases hj2 : j < ps.length
   ·have hp1 := hpl1 j hj2
    have hnx : ((ps.take (j + 1)).map (·.1)).flatten = ((ps.take j).map (·.1)).flatten ++ ps[j].1 := by
     rw [List.take_add_one, List.getElem?_eq_getElem hj2, List.map_append, List.flatten_append]; simp
    have hmap : (qs.flatten.flatten ++ ((ps.take (j + 1)).map (·.1)).flatten).map eI = (qs.flatten.flatten ++ ((ps.take j).map (·.1)).flatten).map eI ++ ps[j].1.map eI := by
     rw [hnx, ← List.append_assoc, List.map_append]
    refine BrW.yes (by omega) ?_
    simp only [↓sx0, sxE, encs, sevalprocAttr]
    refine IxW.nat hj2 ?_
    simp only [↓sx0, sxE, encs, sevalprocAttr]
    repeat ((with_reducible refine Vc.go ?_ fun _ => ?_); (focus (first | omega | (simp only [InK]; omega) | (simp [InK] <;> omega))); simp only [↓sx0, sxE, encs, sevalprocAttr])
    rw [← hmap]
    refine ⟨j + 1, StLe.auto (by simp only [sx2, encs, sxR, sevalprocAttr] <;> (try simp) <;> (try omega)), ?_, ?_⟩
    ·exact ⟨by omega, by rw [hnx, List.length_append]; omega⟩
    ·omega
   ·have hje : j = ps.length := by omega
    subst hje
    rw [List.take_length] at hjl ⊢
    have hql : (ps.map (·.1)).length = lp[k].words.length := by simp [hpn]
    have hff : (qs ++ [ps.map (·.1)]).flatten.flatten = qs.flatten.flatten ++ (ps.map (·.1)).flatten := by simp
    refine BrW.no (by omega) ?_
    simp only [↓sx0, sxE, encs, sevalprocAttr]
    repeat ((with_reducible refine Vc.go ?_ fun _ => ?_); (focus (first | omega | (simp only [InK]; omega) | (simp [InK] <;> omega))); simp only [↓sx0, sxE, encs, sevalprocAttr])
    rw [← hff]
    refine ⟨(k + 1, qs ++ [ps.map (·.1)]), StLe.auto (by simp only [sx2, encs, sxR, sevalprocAttr] <;> (try simp) <;> (try omega)), ?_, ?_⟩
    ·refine ⟨hq.next hk2 hql fun i h3 h4 => ?_, by rw [hff, List.length_append]; omega⟩
     have h5 : i < ps.length := by simpa using h4
     have := hpR i h5 h3
     simpa using this
    ·simp only; omega
 ·have hke : k = lp.length := by omega
  subst hke
  refine BrW.no (by omega) ?_
  simp only [↓sx0, sxE, encs, sevalprocAttr]
  exact EndW.p (.tup [.sl true 1 (qs.flatten.flatten.map eI), (.v (.int .i64 0))]) ⟨0, qs.flatten.flatten, rfl, by omega, fun _ => ⟨qs, ⟨hq.len, hq.wlen, hq.set⟩, rfl⟩⟩ (by simp [leV, leL]) (by simp only [kpV, kpVL, kpLL_map]; simp [kpL, kpD, eI])
end Go.Proofs.YtgcmppghjfidfaaGreatDoor
/-
  Chapter 2, walks: the limits of the law (few sorts, short rules, light copies).
-/
namespace Go.Proofs.YtgcmppghjfidfaaGreatDoor
open Go Go.Vx
set_option maxRecDepth 20000
def Sh (few most : Nat) (l : List ByteArray) : Prop := (l.length ≤ few ∨ most < l.length ∧ l.length ≤ most + 2) ∧ ∀ j (h : j < l.length), l[j].size ≤ 40
def shB (few most : Nat) (l : List ByteArray) : Bool := decide (l.length ≤ few ∨ most < l.length ∧ l.length ≤ most + 2) && l.all fun s => decide (s.size ≤ 40)
theorem shB_Sh {few most : Nat} {l : List ByteArray} (h : shB few most l = true) : Sh few most l := by
  rw [shB, Bool.and_eq_true, decide_eq_true_eq, List.all_eq_true] at h
  exact ⟨h.1, fun j hj => of_decide_eq_true (h.2 _ (List.getElem_mem hj))⟩
theorem all_no {α : Type} {p : α → Bool} {l : List α} {j : Nat} (hj : j < l.length) (h : p l[j] = false) : l.all p = false := by
  rw [List.all_eq_false]
  exact ⟨_, List.getElem_mem hj, by rw [h]; simp⟩
theorem all_yes {α : Type} {p : α → Bool} {l : List α} (h : ∀ j (hj : j < l.length), p l[j] = true) : l.all p = true := by
  rw [List.all_eq_true]
  intro x hx
  obtain ⟨j, hj, rfl⟩ := List.getElem_of_mem hx
  exact h j hj
def ZB (p : Prop) (rr : Ret) : Prop := ∃ e : Bool, rr = ⟨(.v (.bool (e))), []⟩ ∧ (e = true → p)
theorem short_s (b : Bool) (l : List ByteArray) (few most : Nat) (hl : l.length ≤ maxLen) (hf : few ≤ most) (hm : most ≤ 1000000) : Ctr Tryz.prog 57 [.sl b 1 (l.map eS), (.v (.int .i64 ((few : Int)))), (.v (.int .i64 ((most : Int))))] (fun rr => rr = ⟨(.v (.bool (shB few most l))), []⟩) := by
  have hl2 : l.length ≤ 9223372036854775807 := by simp only [maxLen] at hl; omega
  refine Ctr.of (rs := [.tmp 6]) Tok true Tryz.func57 rfl rfl rfl rfl (by simp [ofDL]) (fun w0 kp => ?_)
  simp only [↓sx0, xE, sevalprocAttr]
  by_cases hlen : l.length ≤ few ∨ most < l.length ∧ l.length ≤ most + 2
  · have hsb : shB few most l = l.all fun s => decide (s.size ≤ 40) := by rw [shB, decide_eq_true hlen, Bool.true_and]
    rw [hsb]
    repeat' (first | (with_reducible refine BrW.yes (by omega) ?_) | (with_reducible refine BrW.no (by omega) ?_) | (with_reducible refine BrW.dec (fun _ => ?_) (fun _ => ?_)) | simp only [↓sx0, xE, sevalprocAttr] | ((with_reducible refine Vc.go ?_ fun _ => ?_); (focus (first | omega | (simp only [InK]; omega)))))
    all_goals try (exfalso; omega)
    all_goals
      refine LoopW.comp [0, 7] (by simp only [sx2, xR, sevalprocAttr] <;> (try simp) <;> (try omega)) ?_
      simp only [sx2, sxR, sevalprocAttr]
      refine LoopW.up Tok (fun k : Nat => [(7, (.v (.int .i64 k)))]) (fun k => []) (fun k => []) (fun k => []) (fun k => k ≤ l.length ∧ ∀ j (_ : j < k) (h : j < l.length), l[j].size ≤ 40) (fun k => l.length - k) (0) (by simp only [sx2, xR, sevalprocAttr] <;> (try simp) <;> (try omega)) ?_ ?_
      · exact ⟨by omega, fun j h => by omega⟩
      rintro k ⟨hk, hp⟩
      simp only [↓sx0, xE, sevalprocAttr]
      by_cases hk2 : k < l.length
      · refine BrW.yes (by omega) ?_
        simp only [↓sx0, xE, sevalprocAttr]
        refine IxW.nat hk2 ?_
        simp only [↓sx0, xE, sevalprocAttr]
        refine BrW.dec (fun h40 => ?_) (fun h40 => ?_)
        · simp only [↓sx0, xE, sevalprocAttr]
          have := all_no (p := fun s : ByteArray => decide (s.size ≤ 40)) hk2 (decide_eq_false (by omega))
          refine EndW.fn ?_ ?_ <;> simp only [sx4, xK, sevalprocAttr] <;> (try simp [this]) <;> (try omega)
        · repeat' (first | (with_reducible refine BrW.yes (by omega) ?_) | (with_reducible refine BrW.no (by omega) ?_) | (with_reducible refine BrW.dec (fun _ => ?_) (fun _ => ?_)) | (with_reducible refine BrW.of (fun _ => ?_) (fun _ => ?_)) | ((with_reducible refine Vc.go ?_ fun _ => ?_); (focus (first | omega | (simp only [InK]; omega) | (simp [InK] <;> omega)))) | simp only [↓sx0, xE, sevalprocAttr])
          refine ⟨k + 1, StLe.auto (by simp only [sx2, xR, sevalprocAttr] <;> (try simp) <;> (try omega)), ?_, ?_⟩
          · refine ⟨by omega, fun j h h2 => ?_⟩
            by_cases hjk : j = k
            · subst hjk; omega
            · exact hp j (by omega) h2
          · omega
      · refine BrW.no (by omega) ?_
        simp only [↓sx0, xE, sevalprocAttr]
        have := all_yes (p := fun s : ByteArray => decide (s.size ≤ 40)) (l := l) fun j h => decide_eq_true (hp j (by omega) h)
        refine EndW.fn ?_ ?_ <;> simp only [sx4, xK, sevalprocAttr] <;> (try simp [this]) <;> (try omega)
  · have hsb : shB few most l = false := by rw [shB, decide_eq_false hlen, Bool.false_and]
    rw [hsb]
    repeat' (first | (with_reducible refine BrW.yes (by omega) ?_) | (with_reducible refine BrW.no (by omega) ?_) | (with_reducible refine BrW.dec (fun _ => ?_) (fun _ => ?_)) | simp only [↓sx0, xE, sevalprocAttr] | ((with_reducible refine Vc.go ?_ fun _ => ?_); (focus (first | omega | (simp only [InK]; omega)))))
    all_goals (refine EndW.fn ?_ ?_ <;> simp only [sx4, xK, sevalprocAttr] <;> (try simp) <;> (try omega))
set_option maxHeartbeats 4000000 in
theorem shortR_s (b1 b2 b3 : Bool) (pt ex br : List ByteArray) (lf rt : Int) (h1 : pt.length ≤ maxLen) (h2 : ex.length ≤ maxLen) (h3 : br.length ≤ maxLen) :
    Ctr Tryz.prog 21 [.agg [.sl b1 1 (pt.map eS), .sl b2 1 (ex.map eS), .sl b3 1 (br.map eS), (.v (.int .i64 lf)), (.v (.int .i64 rt))]] (ZB (Sh 6 60 pt ∧ Sh 6 40 ex ∧ Sh 6 40 br)) := by
  refine Ctr.of (rs := [.tmp 2]) Tok true Tryz.func21 rfl rfl rfl rfl (by simp [ofDL]) (fun w0 kp => ?_)
  simp only [↓sx0, xE, sevalprocAttr]
  refine CallI.fn (short_s b1 pt 6 60 h1 (by omega) (by omega)) (by simp only [sx3, xR, sevalprocAttr] <;> (try simp) <;> (try rfl)) ?_
  simp only [↓sx0, xE, sevalprocAttr]
  refine BrW.of (fun c1 => ?_) (fun c1 => ?_)
  · simp only [↓sx0, xE, sevalprocAttr]
    refine CallI.fn (short_s b2 ex 6 40 h2 (by omega) (by omega)) (by simp only [sx3, xR, sevalprocAttr] <;> (try simp) <;> (try rfl)) ?_
    simp only [↓sx0, xE, sevalprocAttr]
    refine BrW.of (fun c2 => ?_) (fun c2 => ?_)
    · simp only [↓sx0, xE, sevalprocAttr]
      refine CallI.fn (short_s b3 br 6 40 h3 (by omega) (by omega)) (by simp only [sx3, xR, sevalprocAttr] <;> (try simp) <;> (try rfl)) ?_
      simp only [↓sx0, xE, sevalprocAttr]
      exact EndB ⟨_, rfl, fun h => ⟨shB_Sh c1, shB_Sh c2, shB_Sh h⟩⟩
    · repeat' (first | (with_reducible refine BrW.yes (by omega) ?_) | (with_reducible refine BrW.no (by omega) ?_) | (with_reducible refine BrW.dec (fun _ => ?_) (fun _ => ?_)) | (with_reducible refine BrW.of (fun _ => ?_) (fun _ => ?_)) | ((with_reducible refine Vc.go ?_ fun _ => ?_); (focus (first | omega | (simp only [InK]; omega) | (simp [InK] <;> omega)))) | simp only [↓sx0, xE, sevalprocAttr])
      exact EndB ⟨_, rfl, fun h => by cases h⟩
  · repeat' (first | (with_reducible refine BrW.yes (by omega) ?_) | (with_reducible refine BrW.no (by omega) ?_) | (with_reducible refine BrW.dec (fun _ => ?_) (fun _ => ?_)) | (with_reducible refine BrW.of (fun _ => ?_) (fun _ => ?_)) | ((with_reducible refine Vc.go ?_ fun _ => ?_); (focus (first | omega | (simp only [InK]; omega) | (simp [InK] <;> omega)))) | simp only [↓sx0, xE, sevalprocAttr])
    exact EndB ⟨_, rfl, fun h => by cases h⟩
def ltB2 (l : List Pt) : Bool := decide (l.length ≤ 5 ∨ 60 < l.length ∧ l.length ≤ 62) && l.all fun p => shB 8 100 p.words
theorem ltB2_ok {l : List Pt} (h : ltB2 l = true) : (l.length ≤ 5 ∨ 60 < l.length ∧ l.length ≤ 62) ∧ ∀ p ∈ l, Sh 8 100 p.words := by
  rw [ltB2, Bool.and_eq_true, decide_eq_true_eq, List.all_eq_true] at h
  exact ⟨h.1, fun p hp => shB_Sh (h.2 p hp)⟩
theorem lightS_s (b b2 : Bool) (l : List Pt) (hl : l.length ≤ maxLen) (hw : ∀ p ∈ l, p.words.length ≤ maxLen) : Ctr Tryz.prog 22 [.sl b 2 (l.map (eP b2))] (fun rr => rr = ⟨(.v (.bool (ltB2 l))), []⟩) := by
  have hl2 : l.length ≤ 9223372036854775807 := by simp only [maxLen] at hl; omega
  refine Ctr.of (rs := [.tmp 2]) Tok true Tryz.func22 rfl rfl rfl rfl (by simp [ofDL]) (fun w0 kp => ?_)
  simp only [↓sx0, xE, sevalprocAttr]
  by_cases hlen : l.length ≤ 5 ∨ 60 < l.length ∧ l.length ≤ 62
  · have hsb : ltB2 l = l.all fun p => shB 8 100 p.words := by rw [ltB2, decide_eq_true hlen, Bool.true_and]
    rw [hsb]
    repeat' (first | (with_reducible refine BrW.yes (by omega) ?_) | (with_reducible refine BrW.no (by omega) ?_) | (with_reducible refine BrW.dec (fun _ => ?_) (fun _ => ?_)) | simp only [↓sx0, xE, sevalprocAttr] | ((with_reducible refine Vc.go ?_ fun _ => ?_); (focus (first | omega | (simp only [InK]; omega)))))
    all_goals try (exfalso; omega)
    all_goals
      refine LoopW.comp [0, 3] (by simp only [sx2, xR, sevalprocAttr] <;> (try simp) <;> (try omega)) ?_
      simp only [sx2, sxR, sevalprocAttr]
      refine LoopW.up Tok (fun k : Nat => [(3, (.v (.int .i64 k)))]) (fun k => []) (fun k => []) (fun k => []) (fun k => k ≤ l.length ∧ ∀ j (_ : j < k) (h : j < l.length), shB 8 100 l[j].words = true) (fun k => l.length - k) (0) (by simp only [sx2, xR, sevalprocAttr] <;> (try simp) <;> (try omega)) ?_ ?_
      · exact ⟨by omega, fun j h => by omega⟩
      rintro k ⟨hk, hp⟩
      simp only [↓sx0, xE, sevalprocAttr]
      by_cases hk2 : k < l.length
      · refine BrW.yes (by omega) ?_
        simp only [↓sx0, xE, sevalprocAttr]
        refine IxW.nat hk2 ?_
        simp only [↓sx0, xE, sevalprocAttr]
        refine CallI.fn (short_s b2 l[k].words 8 100 (hw _ (List.getElem_mem hk2)) (by omega) (by omega)) (by simp only [sx3, xR, sevalprocAttr] <;> (try simp) <;> (try rfl)) ?_
        simp only [↓sx0, xE, sevalprocAttr]
        refine BrW.of (fun hb => ?_) (fun hb => ?_)
        · repeat' (first | (with_reducible refine BrW.yes (by omega) ?_) | (with_reducible refine BrW.no (by omega) ?_) | (with_reducible refine BrW.dec (fun _ => ?_) (fun _ => ?_)) | (with_reducible refine BrW.of (fun _ => ?_) (fun _ => ?_)) | ((with_reducible refine Vc.go ?_ fun _ => ?_); (focus (first | omega | (simp only [InK]; omega) | (simp [InK] <;> omega)))) | simp only [↓sx0, xE, sevalprocAttr])
          refine ⟨k + 1, StLe.auto (by simp only [sx2, xR, sevalprocAttr] <;> (try simp) <;> (try omega)), ?_, ?_⟩
          · refine ⟨by omega, fun j h h2 => ?_⟩
            by_cases hjk : j = k
            · subst hjk; exact hb
            · exact hp j (by omega) h2
          · omega
        · simp only [↓sx0, xE, sevalprocAttr]
          have := all_no (p := fun p : Pt => shB 8 100 p.words) hk2 hb
          refine EndW.fn ?_ ?_ <;> simp only [sx4, xK, sevalprocAttr] <;> (try simp [this]) <;> (try omega)
      · refine BrW.no (by omega) ?_
        simp only [↓sx0, xE, sevalprocAttr]
        have := all_yes (p := fun p : Pt => shB 8 100 p.words) (l := l) fun j h => hp j (by omega) h
        refine EndW.fn ?_ ?_ <;> simp only [sx4, xK, sevalprocAttr] <;> (try simp [this]) <;> (try omega)
  · have hsb : ltB2 l = false := by rw [ltB2, decide_eq_false hlen, Bool.false_and]
    rw [hsb]
    repeat' (first | (with_reducible refine BrW.yes (by omega) ?_) | (with_reducible refine BrW.no (by omega) ?_) | (with_reducible refine BrW.dec (fun _ => ?_) (fun _ => ?_)) | simp only [↓sx0, xE, sevalprocAttr] | ((with_reducible refine Vc.go ?_ fun _ => ?_); (focus (first | omega | (simp only [InK]; omega)))))
    all_goals (refine EndW.fn ?_ ?_ <;> simp only [sx4, xK, sevalprocAttr] <;> (try simp) <;> (try omega))
def Fw (n : ByteArray) (l : List Srt) : Prop := n.size ≤ 30 ∧ (l.length ≤ 20 ∨ 120 < l.length ∧ l.length ≤ 122) ∧ ∀ j (h : j < l.length), l[j].name.size ≤ 30 ∧ l[j].text.size ≤ 10
set_option maxHeartbeats 4000000 in
theorem fewF_s (n : ByteArray) (bd : Int) (b : Bool) (l : List Srt) (hl : l.length ≤ maxLen) : Ctr Tryz.prog 20 [.agg [(.v (.string (n))), (.v (.int .i64 bd)), .sl b 4 (l.map eT)]] (ZB (Fw n l)) := by
  have hl2 : l.length ≤ 9223372036854775807 := by simp only [maxLen] at hl; omega
  have encs := And.intro encs eT_def
  refine Ctr.of (rs := [.tmp 2]) Tok true Tryz.func20 rfl rfl rfl rfl (by simp [ofDL]) (fun w0 kp => ?_)
  simp only [↓sx0, sxE, encs, sevalprocAttr]
  repeat' (first | (with_reducible refine BrW.yes (by omega) ?_) | (with_reducible refine BrW.no (by omega) ?_) | (with_reducible refine BrW.dec (fun _ => ?_) (fun _ => ?_)) | (with_reducible refine BrW.of (fun _ => ?_) (fun _ => ?_)) | ((with_reducible refine Vc.go ?_ fun _ => ?_); (focus (first | omega | (simp only [InK]; omega) | (simp [InK] <;> omega)))) | simp only [↓sx0, sxE, encs, sevalprocAttr])
  all_goals try exact EndB ⟨_, rfl, fun h => by cases h⟩
  all_goals
    have hlen : n.size ≤ 30 ∧ (l.length ≤ 20 ∨ 120 < l.length ∧ l.length ≤ 122) := by omega
    refine LoopW.comp [1, 3] (by simp only [sx2, encs, sxR, sevalprocAttr] <;> (try simp) <;> (try omega)) ?_
    simp only [sx2, sxR, sevalprocAttr]
    refine LoopW.up Tok (fun k : Nat => [(3, (.v (.int .i64 k)))]) (fun k => []) (fun k => []) (fun k => []) (fun k => k ≤ l.length ∧ ∀ j (_ : j < k) (h : j < l.length), l[j].name.size ≤ 30 ∧ l[j].text.size ≤ 10) (fun k => l.length - k) (0) (by simp only [sx2, encs, sxR, sevalprocAttr] <;> (try simp) <;> (try omega)) ?_ ?_
    · exact ⟨by omega, fun j h => by omega⟩
    rintro k ⟨hk, hp⟩
    simp only [↓sx0, sxE, encs, sevalprocAttr]
    by_cases hk2 : k < l.length
    · repeat' (first | (with_reducible refine BrW.yes (by omega) ?_) | (with_reducible refine BrW.no (by omega) ?_) | (with_reducible refine IxW.nat hk2 ?_) | (with_reducible refine BrW.dec (fun hq => ?_) (fun hq => ?_)) | (with_reducible refine BrW.of (fun hlt => ?_) (fun hlt => ?_)) | simp only [↓sx0, sxE, encs, sevalprocAttr] | ((with_reducible refine Vc.go ?_ fun _ => ?_); (focus (first | omega | (simp only [InK]; omega)))))
      all_goals first
        | exact EndB ⟨_, rfl, fun h => by cases h⟩
        | (refine ⟨k + 1, StLe.auto (by simp only [sx2, encs, sxR, sevalprocAttr] <;> (try simp) <;> (try omega)), ?_, ?_⟩
           · refine ⟨by omega, fun j h h2 => ?_⟩
             by_cases hjk : j = k
             · subst hjk; omega
             · exact hp j (by omega) h2
           · omega
           done)
    · refine BrW.no (by omega) ?_
      simp only [↓sx0, sxE, encs, sevalprocAttr]
      exact EndB ⟨_, rfl, fun _ => ⟨hlen.1, hlen.2, fun j h => hp j (by omega) h⟩⟩
end Go.Proofs.YtgcmppghjfidfaaGreatDoor
/-
 Chapter 8, walks: marks are applied, where all rows are closed again.
-/
namespace Go.Proofs.YtgcmppghjfidfaaGreatDoor
open Go Go.Vx
set_option maxRecDepth 20000
set_option maxHeartbeats 4000000 in
theorem cloneP_s (b b2 : Bool) (l : List Pt) (hl : l.length ≤ 1000) (hw : ∀ p ∈ l, p.words.length ≤ 1000) :
  Ctr Tryz.prog 49 [.sl b 2 (l.map (eP b2))] (fun rr => rr = ⟨.row 0, [.own 81 2 (l.map (eP true))]⟩) := by
 refine Ctr.of (rs := [.tmp 2]) Tok false Tryz.func49 rfl rfl rfl rfl (by simp [ofDL]) (fun w0 kp => ?_)
 simp only [↓sx0, xE, sevalprocAttr]
 have wl : ∀ k (h : k < l.length), (l[k].words.map eS).length ≤ 1000000 := fun k h => by have := hw _ (List.getElem_mem h); simp; omega
 refine LoopW.inv Tok (fun k : Nat => ⟨[(3, .row 0), (8, (.v (.int .i64 k))), (6, .sl b 2 (l.map (eP b2))), (7, (.v (.int .i64 l.length)))], [], [.own 81 2 ((l.take k).map (eP true))]⟩) (fun k => k ≤ l.length) (fun k => l.length - k) 0 (StLe.auto ?_) (Nat.zero_le _) ?_
 ·simp only [List.take_zero, List.map_nil]
  simp only [sx2, xR, sevalprocAttr] <;> (try simp) <;> (try omega)
 rintro k hk
 simp only [↓sx0, xE, sevalprocAttr]
 refine BrW.dec (fun hlt => ?_) (fun hlt => ?_)
 ·simp only [↓sx0, xE, sevalprocAttr]
  have hkl : k < l.length := by omega
  refine IxW.nat hkl ?_
  simp only [↓sx0, xE, sevalprocAttr]
  refine DrawW.plan Tok mixed (.q 0 <| .q 1 <| .q 2 <| .q 3 <| .q 4 <| .e 5 [2] <| .q 6 <| .e 7 [] <| .e 8 [] <| .q 9 <| .done) (by kernel_rfl) (by kernel_rfl) ?_
  simp only [↓sx0, xE, sevalprocAttr]
  refine CallI.ctr (cloneS_s b2 _ (kpS l[k].words) (wl k hkl)) (by simp only [sx3, xR, sevalprocAttr] <;> (try simp) <;> (try rfl)) ?_
  rintro _ rfl
  simp only [↓sx0, xE, sevalprocAttr]
  repeat ((with_reducible refine Vc.go ?_ fun _ => ?_); (focus (first | omega | (simp only [InK]; omega) | (simp [InK] <;> omega))); simp only [↓sx0, xE, sevalprocAttr])
  have hf : (l.take k).map (eP true) ++ [eP true l[k]] = (l.take (k + 1)).map (eP true) := by rw [List.take_succ_eq_append_getElem hkl, List.map_append]; rfl
  refine ⟨k + 1, StLe.auto ?_, by omega, by omega⟩
  simp only [← hf]
  simp only [sx2, xR, sevalprocAttr] <;> (try simp) <;> (try omega)
 ·simp only [↓sx0, xE, sevalprocAttr]
  have hke : k = l.length := by omega
  subst hke
  rw [List.take_length]
  have hkp := kpP l
  exact EndW.r [some 0] (by simp) (by simp only [sx4, sxF, xK, sevalprocAttr] <;> simp [hkp]) (by simp only [sx4, sxF, xK, sevalprocAttr] <;> simp [hkp]) (by simp only [sx4, sxF, xK, sevalprocAttr] <;> simp [hkp]) (by simp only [sx4, sxF, xK, sevalprocAttr] <;> simp [hkp])
/-- what stands in the place of a part. -/
def apL (l : List Pt) (m : Mk) (i k : Nat) (p : Pt) : List Pt :=
 if m.mark = 1 then l.set i ⟨p.kind, p.words.take k ++ p.words.drop (k + 1)⟩
 else if m.mark = 2 then l.set i (insP p k m.new)
 else if m.mark = 3 then l.set i ⟨p.kind, p.words.set k m.new⟩
 else if m.mark = 4 then l.set i ⟨p.kind, (p.words.set k (p.words.getD (k + 1) em)).set (k + 1) (p.words.getD k em)⟩
 else if m.mark = 5 then l.take i ++ ⟨p.kind, p.words.take k⟩ :: ⟨m.kind, p.words.drop k⟩ :: l.drop (i + 1)
 else if m.mark = 6 then l.take i ++ ⟨p.kind, p.words ++ (l.getD (i + 1) ⟨0, []⟩).words⟩ :: l.drop (i + 2)
 else l.set i ⟨m.kind, p.words⟩
def chk (l : List Pt) : List Pt × Int := if (partsErr l).2 = 0 then (l, 0) else ([], (partsErr l).2)
/-- applied, by the kinds of marks. -/
def apV (l : List Pt) (m : Mk) : List Pt × Int :=
 match l[m.part.toNat]? with
 | none => ([], 6)
 | some p =>
  let n : Int := p.words.length
  if (if m.mark = 2 then n else if m.mark = 4 then n - 2 else if m.mark = 6 then 100 else if m.mark = 7 then 0 else n - 1) < m.word ∨ (m.mark = 6 ∧ m.part = l.length - 1) then ([], 6)
  else if ((m.mark = 1 ∨ m.mark = 3) ∧ p.words.getD m.word.toNat em ≠ m.old) ∨ (m.mark = 6 ∧ (n ≠ m.word ∨ (l.getD (m.part.toNat + 1) ⟨0, []⟩).kind ≠ m.kind)) ∨ (m.mark = 7 ∧ p.kind ≠ m.was) then ([], 13)
  else chk (apL l m m.part.toNat m.word.toNat p)
theorem apV_at {l : List Pt} (m : Mk) {i : Nat} (hp : m.part = i) (hi : i < l.length) : apV l m =
  if (if m.mark = 2 then (l[i].words.length : Int) else if m.mark = 4 then (l[i].words.length : Int) - 2 else if m.mark = 6 then 100 else if m.mark = 7 then 0 else (l[i].words.length : Int) - 1) < m.word ∨ (m.mark = 6 ∧ m.part = l.length - 1) then ([], 6)
  else if ((m.mark = 1 ∨ m.mark = 3) ∧ l[i].words.getD m.word.toNat em ≠ m.old) ∨ (m.mark = 6 ∧ ((l[i].words.length : Int) ≠ m.word ∨ (l.getD (i + 1) ⟨0, []⟩).kind ≠ m.kind)) ∨ (m.mark = 7 ∧ l[i].kind ≠ m.was) then ([], 13)
  else chk (apL l m i m.word.toNat l[i]) := by
 rw [apV, hp, Int.toNat_natCast, List.getElem?_eq_getElem hi]
theorem elP_kind {l : List Pt} {i : Nat} (hi : i < l.length) (k : Int) : ((l.map (eP true)).modify (i : Int).toNat fun x => modE x 0 [.v (.int .i64 k)]) = (l.set i ⟨k, l[i].words⟩).map (eP true) := by
 rw [Int.toNat_natCast]
 apply List.ext_getElem?
 intro j
 rw [List.getElem?_modify]
 by_cases h : i = j
 ·subst h
  simp [modE, eP, hi]
 ·simp [h]
set_option maxHeartbeats 8000000 in
theorem appliedTurn_s (b b2 : Bool) (l : List Pt) (m : Mk) (i k : Nat) (hm : m.mark = 7) (hp : m.part = i) (hw : m.word = k) (hl : l.length ≤ 1000) (hws : ∀ p ∈ l, p.words.length ≤ 1000) :
  Ctr Tryz.prog 50 [.sl b 2 (l.map (eP b2)), mV m] (fun rr => rr = ⟨.tup [.sl true 2 ((apV l m).1.map (eP true)), (.v (.int .i64 ((apV l m).2)))], []⟩) := by
 have encs := And.intro encs mapE
 refine Ctr.of (rs := [.tmp 4, .tmp 5]) Tok true Tryz.func50 rfl rfl rfl rfl (by simp [ofDL]) (fun w0 kp => ?_)
 simp only [↓sx0, sxE, encs, sevalprocAttr]
 rw [hm, hp, hw]
 refine DrawW.plan Tok mixed (.q 0 <| .q 2 <| .e 1 [2] <| .e 3 [] <| .q 4 <| .q 5 <| .q 6 <| .q 7 <| .q 8 <| .done) (by kernel_rfl) (by kernel_rfl) ?_
 simp only [↓sx0, sxE, encs, sevalprocAttr]
 refine CallI.ctr (cloneP_s b b2 l hl hws) (by simp only [sx3, encs, sxR, sevalprocAttr] <;> (try simp) <;> (try rfl)) ?_
 rintro _ rfl
 simp only [↓sx0, sxE, encs, sevalprocAttr]
 refine CallI.inlG (rs := [.tmp 4, .tmp 5]) Tok (fun h => by first | cases h; done | rfl) Tryz.func82 rfl rfl rfl rfl (by simp) (fun ρ σ μ fr lp => ?_) (by refine ⟨_, ?_, rfl⟩; rfl)
 simp only [↓sx0, sxE, encs, sevalprocAttr]
 refine BrW.dec (fun hlt => ?_) (fun hlt => ?_)
 ·simp only [↓sx0, sxE, encs, sevalprocAttr]
  have hv : apV l m = ([], 6) := by
   rw [apV, hp, Int.toNat_natCast, List.getElem?_eq_none (by omega)]
  refine EndW.fn ?_ ?_ <;> simp only [sx4, encs, kpLL_map, sxR, sevalprocAttr] <;> (try simp [hv]) <;> (try omega)
 ·simp only [↓sx0, sxE, encs, sevalprocAttr]
  have hi : i < l.length := by omega
  have hwi : l[i].words.length ≤ 1000 := hws _ (List.getElem_mem hi)
  have hv0 := apV_at m hp hi
  have hge : (l.map (eP true))[(i : Int).toNat]? = some (eP true l[i]) := by rw [Int.toNat_natCast]; simp [hi]
  repeat ((with_reducible refine Vc.go ?_ fun _ => ?_); (focus (first | omega | (simp only [InK]; omega) | (simp [InK] <;> omega))); simp only [↓sx0, sxE, encs, sevalprocAttr])
  refine DrawW.plan Tok mixed (.q 0 <| .q 1 <| .q 2 <| .q 3 <| .q 4 <| .q 5 <| .q 6 <| .q 7 <| .q 8 <| .done) (by kernel_rfl) (by kernel_rfl) ?_
  simp only [↓sx0, sxE, encs, sevalprocAttr]
  refine ⟨by omega, _, hge, ?_⟩
  simp only [↓sx0, sxE, encs, sevalprocAttr]
  repeat ((with_reducible refine Vc.go ?_ fun _ => ?_); (focus (first | omega | (simp only [InK]; omega) | (simp [InK] <;> omega))); simp only [↓sx0, sxE, encs, sevalprocAttr])
  refine BrW.dec (fun h1 => ?_) (fun h1 => ?_)
  ·simp only [↓sx0, sxE, encs, sevalprocAttr]
   have hv : apV l m = ([], 6) := by
    rw [hv0, if_pos (.inl (by rw [hm, hw]; simpa using h1))]
   refine EndW.fn ?_ ?_ <;> simp only [sx4, encs, kpLL_map, sxR, sevalprocAttr] <;> (try simp [hv]) <;> (try omega)
  ·simp only [↓sx0, sxE, encs, sevalprocAttr]
   rw [if_neg (show ¬ _ by rw [hm, hw]; rintro (h | ⟨h, -⟩) <;> simp at h <;> omega)] at hv0
   refine DrawW.plan Tok mixed (.q 0 <| .q 1 <| .q 2 <| .q 3 <| .q 4 <| .q 5 <| .q 6 <| .q 7 <| .done) (by kernel_rfl) (by kernel_rfl) ?_
   simp only [↓sx0, sxE, encs, sevalprocAttr]
   refine ⟨by omega, _, hge, ?_⟩
   simp only [↓sx0, sxE, encs, sevalprocAttr]
   repeat ((with_reducible refine Vc.go ?_ fun _ => ?_); (focus (first | omega | (simp only [InK]; omega) | (simp [InK] <;> omega))); simp only [↓sx0, sxE, encs, sevalprocAttr])
   refine BrW.dec (fun h2 => ?_) (fun h2 => ?_)
   ·simp only [↓sx0, sxE, encs, sevalprocAttr]
    have hv : apV l m = ([], 13) := by
     rw [hv0, if_pos (.inr (.inr ⟨hm, by simpa using h2⟩))]
    refine EndW.fn ?_ ?_ <;> simp only [sx4, encs, kpLL_map, sxR, sevalprocAttr] <;> (try simp [hv]) <;> (try omega)
   ·simp only [↓sx0, sxE, encs, sevalprocAttr]
    repeat ((with_reducible refine Vc.go ?_ fun _ => ?_); (focus (first | omega | (simp only [InK]; omega) | (simp [InK] <;> omega))); simp only [↓sx0, sxE, encs, sevalprocAttr])
    rw [if_neg (show ¬ _ by rw [hm]; rintro (⟨h | h, -⟩ | ⟨h, -⟩ | ⟨-, h⟩) <;> first | omega | exact absurd h (by simpa using h2)), show apL l m i m.word.toNat l[i] = l.set i ⟨m.kind, l[i].words⟩ by simp [apL, hm]] at hv0
    have hrw : ((l.map (eP true)).modify (i : Int).toNat fun x => modE x 0 [.v (.int .i64 m.kind)]) = (l.set i ⟨m.kind, l[i].words⟩).map (eP true) := elP_kind hi m.kind
    rw [hrw]
    refine CallI.fn (checkCopy_s false true (l.set i ⟨m.kind, l[i].words⟩)) (by simp only [sx3, encs, sxR, sevalprocAttr] <;> (try simp) <;> (try rfl)) ?_
    simp only [↓sx0, sxE, encs, sevalprocAttr]
    have hkp := kpP (l.set i ⟨m.kind, l[i].words⟩)
    refine BrW.dec (fun h3 => ?_) (fun h3 => ?_)
    ·simp only [↓sx0, sxE, encs, sevalprocAttr]
     have hv : apV l m = ([], (partsErr (l.set i ⟨m.kind, l[i].words⟩)).2) := by rw [hv0, chk, if_neg (by simpa using h3)]
     refine EndW.fn ?_ ?_ <;> simp only [sx4, encs, kpLL_map, sxR, sevalprocAttr] <;> (try simp [hv]) <;> (try omega)
    ·simp only [↓sx0, sxE, encs, sevalprocAttr]
     have hv : apV l m = (l.set i ⟨m.kind, l[i].words⟩, 0) := by rw [hv0, chk, if_pos (by simpa using h3)]
     refine EndW.fn ?_ ?_ <;> simp only [sx4, encs, kpLL_map, sxR, sevalprocAttr] <;> (try simp [hv, hkp]) <;> (try omega)
end Go.Proofs.YtgcmppghjfidfaaGreatDoor
/-
 Chapter 8, walks: marks that join parts are applied.
-/
namespace Go.Proofs.YtgcmppghjfidfaaGreatDoor
open Go Go.Vx
set_option maxRecDepth 20000
def joL (l : List Pt) (i : Nat) (hi : i < l.length) (hj : i + 1 < l.length) : List Pt := l.take i ++ ⟨l[i].kind, l[i].words ++ l[i + 1].words⟩ :: l.drop (i + 2)
theorem elP_words {l : List Pt} {i : Nat} (hi : i < l.length) (ws : List ByteArray) : ((l.map (eP true)).modify (i : Int).toNat fun x => modE x 1 [.sl true 1 (ws.map eS)]) = (l.set i ⟨l[i].kind, ws⟩).map (eP true) := by
 rw [Int.toNat_natCast]
 apply List.ext_getElem?
 intro j
 rw [List.getElem?_modify]
 by_cases h : i = j
 ·subst h
  simp [modE, eP, hi]
 ·simp [h]
theorem elP_join {l : List Pt} {i : Nat} (hi : i < l.length) (hj : i + 1 < l.length) : (((l.set i ⟨l[i].kind, l[i].words ++ l[i + 1].words⟩).map (eP true)).take (i + 1) ++ ((l.set i ⟨l[i].kind, l[i].words ++ l[i + 1].words⟩).map (eP true)).drop (i + 2)) = (joL l i hi hj).map (eP true) := by
 rw [← List.map_take, ← List.map_drop, ← List.map_append]
 congr 1
 rw [joL, List.take_succ_eq_append_getElem (by simpa using hi), List.drop_set, if_pos (by omega)]
 simp [List.take_set_of_le]
set_option maxHeartbeats 8000000 in
theorem appliedJoin_s (b b2 : Bool) (l : List Pt) (m : Mk) (i k : Nat) (hm : m.mark = 6) (hp : m.part = i) (hw : m.word = k) (hl : l.length ≤ 1000) (hws : ∀ p ∈ l, p.words.length ≤ 1000) :
  Ctr Tryz.prog 50 [.sl b 2 (l.map (eP b2)), mV m] (fun rr => rr = ⟨.tup [.sl true 2 ((apV l m).1.map (eP true)), (.v (.int .i64 ((apV l m).2)))], []⟩) := by
 have encs := And.intro (And.intro encs mapE) (show ∀ p, eSL p = [.sl p.1 1 (p.2.map eS)] from fun _ => rfl)
 refine Ctr.of (rs := [.tmp 4, .tmp 5]) Tok true Tryz.func50 rfl rfl rfl rfl (by simp [ofDL]) (fun w0 kp => ?_)
 simp only [↓sx0, sxE, encs, sevalprocAttr]
 rw [hm, hp, hw]
 refine DrawW.plan Tok mixed (.q 0 <| .q 2 <| .e 1 [2] <| .e 3 [] <| .q 4 <| .q 5 <| .q 6 <| .q 7 <| .q 8 <| .done) (by kernel_rfl) (by kernel_rfl) ?_
 simp only [↓sx0, sxE, encs, sevalprocAttr]
 refine CallI.ctr (cloneP_s b b2 l hl hws) (by simp only [sx3, encs, sxR, sevalprocAttr] <;> (try simp) <;> (try rfl)) ?_
 rintro _ rfl
 simp only [↓sx0, sxE, encs, sevalprocAttr]
 refine CallI.inlG (rs := [.tmp 4, .tmp 5]) Tok (fun h => by first | cases h; done | rfl) Tryz.func82 rfl rfl rfl rfl (by simp) (fun ρ σ μ fr lp => ?_) (by refine ⟨_, ?_, rfl⟩; rfl)
 simp only [↓sx0, sxE, encs, sevalprocAttr]
 refine BrW.dec (fun hlt => ?_) (fun hlt => ?_)
 ·simp only [↓sx0, sxE, encs, sevalprocAttr]
  have hv : apV l m = ([], 6) := by
   rw [apV, hp, Int.toNat_natCast, List.getElem?_eq_none (by omega)]
  refine EndW.fn ?_ ?_ <;> simp only [sx4, encs, kpLL_map, sxR, sevalprocAttr] <;> (try simp [hv]) <;> (try omega)
 ·simp only [↓sx0, sxE, encs, sevalprocAttr]
  have hi : i < l.length := by omega
  have hwi : l[i].words.length ≤ 1000 := hws _ (List.getElem_mem hi)
  have hv0 := apV_at m hp hi
  have hge : (l.map (eP true))[(i : Int).toNat]? = some (eP true l[i]) := by rw [Int.toNat_natCast]; simp [hi]
  repeat ((with_reducible refine Vc.go ?_ fun _ => ?_); (focus (first | omega | (simp only [InK]; omega) | (simp [InK] <;> omega))); simp only [↓sx0, sxE, encs, sevalprocAttr])
  refine DrawW.plan Tok mixed (.q 0 <| .q 1 <| .q 2 <| .q 3 <| .q 4 <| .q 5 <| .q 6 <| .q 7 <| .q 8 <| .done) (by kernel_rfl) (by kernel_rfl) ?_
  simp only [↓sx0, sxE, encs, sevalprocAttr]
  refine ⟨by omega, _, hge, ?_⟩
  simp only [↓sx0, sxE, encs, sevalprocAttr]
  repeat ((with_reducible refine Vc.go ?_ fun _ => ?_); (focus (first | omega | (simp only [InK]; omega) | (simp [InK] <;> omega))); simp only [↓sx0, sxE, encs, sevalprocAttr])
  refine BrW.dec (fun h1 => ?_) (fun h1 => ?_)
  ·simp only [↓sx0, sxE, encs, sevalprocAttr]
   have hv : apV l m = ([], 6) := by
    rw [hv0, if_pos (.inl (by rw [hm, hw]; simpa using h1))]
   refine EndW.fn ?_ ?_ <;> simp only [sx4, encs, kpLL_map, sxR, sevalprocAttr] <;> (try simp [hv]) <;> (try omega)
  ·simp only [↓sx0, sxE, encs, sevalprocAttr]
   repeat ((with_reducible refine Vc.go ?_ fun _ => ?_); (focus (first | omega | (simp only [InK]; omega) | (simp [InK] <;> omega))); simp only [↓sx0, sxE, encs, sevalprocAttr])
   refine BrW.dec (fun h2 => ?_) (fun h2 => ?_)
   ·simp only [↓sx0, sxE, encs, sevalprocAttr]
    have hv : apV l m = ([], 6) := by
     rw [hv0, if_pos (.inr ⟨hm, by rw [hp]; simpa using h2⟩)]
    refine EndW.fn ?_ ?_ <;> simp only [sx4, encs, kpLL_map, sxR, sevalprocAttr] <;> (try simp [hv]) <;> (try omega)
   ·simp only [↓sx0, sxE, encs, sevalprocAttr]
    rw [if_neg (show ¬ _ by rw [hm, hw, hp]; rintro (h | ⟨-, h⟩) <;> first | omega | (simp at h; omega))] at hv0
    have hj : i + 1 < l.length := by omega
    have hgj : (l.map (eP true))[(((i : Int)) + 1).toNat]? = some (eP true l[i + 1]) := by rw [show ((i : Int) + 1).toNat = i + 1 by omega]; simp [hj]
    refine DrawW.plan Tok mixed (.q 0 <| .q 1 <| .q 2 <| .q 3 <| .q 4 <| .q 5 <| .q 6 <| .q 7 <| .q 8 <| .q 9 <| .q 10 <| .q 11 <| .q 12 <| .q 13 <| .q 14 <| .q 15 <| .done) (by kernel_rfl) (by kernel_rfl) ?_
    simp only [↓sx0, sxE, encs, sevalprocAttr]
    refine BrW.dec (fun h3 => ?_) (fun h3 => ?_)
    ·simp only [↓sx0, sxE, encs, sevalprocAttr]
     have hv : apV l m = ([], 13) := by
      rw [hv0, if_pos (.inr (.inl ⟨hm, .inl (by rw [hw]; simpa using h3)⟩))]
     refine EndW.fn ?_ ?_ <;> simp only [sx4, encs, kpLL_map, sxR, sevalprocAttr] <;> (try simp [hv]) <;> (try omega)
    ·simp only [↓sx0, sxE, encs, sevalprocAttr]
     repeat ((with_reducible refine Vc.go ?_ fun _ => ?_); (focus (first | omega | (simp only [InK]; omega) | (simp [InK] <;> omega))); simp only [↓sx0, sxE, encs, sevalprocAttr])
     refine ⟨by omega, _, hgj, ?_⟩
     simp only [↓sx0, sxE, encs, sevalprocAttr]
     repeat ((with_reducible refine Vc.go ?_ fun _ => ?_); (focus (first | omega | (simp only [InK]; omega) | (simp [InK] <;> omega))); simp only [↓sx0, sxE, encs, sevalprocAttr])
     refine BrW.dec (fun h4 => ?_) (fun h4 => ?_)
     ·simp only [↓sx0, sxE, encs, sevalprocAttr]
      have hv : apV l m = ([], 13) := by
       rw [hv0, if_pos (.inr (.inl ⟨hm, .inr (by simpa [hj] using h4)⟩))]
      refine EndW.fn ?_ ?_ <;> simp only [sx4, encs, kpLL_map, sxR, sevalprocAttr] <;> (try simp [hv]) <;> (try omega)
     ·simp only [↓sx0, sxE, encs, sevalprocAttr]
      rw [if_neg (show ¬ _ by rw [hm, hw]; rintro (⟨h | h, -⟩ | ⟨-, h | h⟩ | ⟨h, -⟩) <;> first | omega | exact absurd h (by simpa using h3) | exact absurd h (by simpa [hj] using h4)), show apL l m i m.word.toNat l[i] = joL l i hi hj by simp [apL, hm, joL, hj]] at hv0
      refine DrawW.plan Tok mixed (.q 0 <| .q 1 <| .q 2 <| .q 3 <| .q 4 <| .q 5 <| .q 6 <| .q 7 <| .q 8 <| .q 9 <| .q 10 <| .q 11 <| .e 12 [] <| .e 13 [] <| .q 14 <| .q 15 <| .e 16 [] <| .done) (by kernel_rfl) (by kernel_rfl) ?_
      simp only [↓sx0, sxE, encs, sevalprocAttr]
      refine ⟨by omega, _, hge, ?_⟩
      simp only [↓sx0, sxE, encs, sevalprocAttr]
      repeat ((with_reducible refine Vc.go ?_ fun _ => ?_); (focus (first | omega | (simp only [InK]; omega) | (simp [InK] <;> omega))); simp only [↓sx0, sxE, encs, sevalprocAttr])
      refine ⟨by omega, _, hgj, ?_⟩
      simp only [↓sx0, sxE, encs, sevalprocAttr]
      have hwj : l[i + 1].words.length ≤ 1000 := hws _ (List.getElem_mem hj)
      have hcat : cat [(true, l[i].words), (true, l[i + 1].words)] = l[i].words ++ l[i + 1].words := by simp [cat]
      refine CallI.ctr (concat_s false [(true, l[i].words), (true, l[i + 1].words)] (by simp) (by rw [hcat, List.length_append]; omega)) (by simp only [sx3, encs, sxR, sevalprocAttr] <;> (try simp) <;> (try rfl)) ?_
      rintro _ rfl
      rw [hcat]
      simp only [↓sx0, sxE, encs, sevalprocAttr]
      repeat ((with_reducible refine Vc.go ?_ fun _ => ?_); (focus (first | omega | (simp only [InK]; omega) | (simp [InK] <;> omega))); simp only [↓sx0, sxE, encs, sevalprocAttr])
      rw [show ((i : Int) + 1) = ((i + 1 : Nat) : Int) by omega, show ((i : Int) + 2) = ((i + 2 : Nat) : Int) by omega]
      have hje := elP_words hi (l[i].words ++ l[i + 1].words)
      refine CallI.turnD (r := 0) (e := 81) (s := 2) rfl (deleteP_s _ (i + 1) (i + 2) (by omega) (by simp; omega) (by simp; omega)) ?_
      rw [hje, elP_join hi hj]
      simp only [↓sx0, sxE, encs, sevalprocAttr]
      refine CallI.fn (checkCopy_s false true (joL l i hi hj)) (by simp only [sx3, encs, sxR, sevalprocAttr] <;> (try simp) <;> (try rfl)) ?_
      simp only [↓sx0, sxE, encs, sevalprocAttr]
      have hkp := kpP (joL l i hi hj)
      refine BrW.dec (fun h5 => ?_) (fun h5 => ?_)
      ·simp only [↓sx0, sxE, encs, sevalprocAttr]
       have hv : apV l m = ([], (partsErr (joL l i hi hj)).2) := by rw [hv0, chk, if_neg (by simpa using h5)]
       refine EndW.fn ?_ ?_ <;> simp only [sx4, encs, kpLL_map, sxR, sevalprocAttr] <;> (try simp [hv]) <;> (try omega)
      ·simp only [↓sx0, sxE, encs, sevalprocAttr]
       have hv : apV l m = (joL l i hi hj, 0) := by rw [hv0, chk, if_pos (by simpa using h5)]
       refine EndW.fn ?_ ?_ <;> simp only [sx4, encs, kpLL_map, sxR, sevalprocAttr] <;> (try simp [hv, hkp]) <;> (try omega)
end Go.Proofs.YtgcmppghjfidfaaGreatDoor
/-
 Chapter 8, walks: marks that break parts are applied.
-/
namespace Go.Proofs.YtgcmppghjfidfaaGreatDoor
open Go Go.Vx
set_option maxRecDepth 20000
def brL (l : List Pt) (m : Mk) (i k : Nat) (hi : i < l.length) : List Pt := l.take i ++ ⟨l[i].kind, l[i].words.take k⟩ :: ⟨m.kind, l[i].words.drop k⟩ :: l.drop (i + 1)
theorem elP_break {l : List Pt} (m : Mk) {i k : Nat} (hi : i < l.length) : (((l.set i ⟨l[i].kind, l[i].words.take k⟩).map (eP true)).take (i + 1) ++ [.v (.int .i64 m.kind), .sl true 1 ((l[i].words.drop k).map eS)] :: ((l.set i ⟨l[i].kind, l[i].words.take k⟩).map (eP true)).drop (i + 1)) = (brL l m i k hi).map (eP true) := by
 rw [← List.map_take, ← List.map_drop, show ([.v (.int .i64 m.kind), .sl true 1 ((l[i].words.drop k).map eS)] : List D) = eP true ⟨m.kind, l[i].words.drop k⟩ from rfl, ← List.map_cons, ← List.map_append]
 congr 1
 rw [brL, List.take_succ_eq_append_getElem (by simpa using hi), List.drop_set, if_pos (by omega)]
 simp [List.take_set_of_le]
set_option maxHeartbeats 8000000 in
theorem appliedBreak_s (b b2 : Bool) (l : List Pt) (m : Mk) (i k : Nat) (hm : m.mark = 5) (hp : m.part = i) (hw : m.word = k) (hl : l.length ≤ 1000) (hws : ∀ p ∈ l, p.words.length ≤ 1000) :
  Ctr Tryz.prog 50 [.sl b 2 (l.map (eP b2)), mV m] (fun rr => rr = ⟨.tup [.sl true 2 ((apV l m).1.map (eP true)), (.v (.int .i64 ((apV l m).2)))], []⟩) := by
 have encs := And.intro (And.intro encs mapE) (show ∀ p, eSL p = [.sl p.1 1 (p.2.map eS)] from fun _ => rfl)
 refine Ctr.of (rs := [.tmp 4, .tmp 5]) Tok true Tryz.func50 rfl rfl rfl rfl (by simp [ofDL]) (fun w0 kp => ?_)
 simp only [↓sx0, sxE, encs, sevalprocAttr]
 rw [hm, hp, hw]
 refine DrawW.plan Tok mixed (.q 0 <| .q 2 <| .e 1 [2] <| .e 3 [] <| .q 4 <| .q 5 <| .q 6 <| .q 7 <| .q 8 <| .done) (by kernel_rfl) (by kernel_rfl) ?_
 simp only [↓sx0, sxE, encs, sevalprocAttr]
 refine CallI.ctr (cloneP_s b b2 l hl hws) (by simp only [sx3, encs, sxR, sevalprocAttr] <;> (try simp) <;> (try rfl)) ?_
 rintro _ rfl
 simp only [↓sx0, sxE, encs, sevalprocAttr]
 refine CallI.inlG (rs := [.tmp 4, .tmp 5]) Tok (fun h => by first | cases h; done | rfl) Tryz.func82 rfl rfl rfl rfl (by simp) (fun ρ σ μ fr lp => ?_) (by refine ⟨_, ?_, rfl⟩; rfl)
 simp only [↓sx0, sxE, encs, sevalprocAttr]
 refine BrW.dec (fun hlt => ?_) (fun hlt => ?_)
 ·simp only [↓sx0, sxE, encs, sevalprocAttr]
  have hv : apV l m = ([], 6) := by
   rw [apV, hp, Int.toNat_natCast, List.getElem?_eq_none (by omega)]
  refine EndW.fn ?_ ?_ <;> simp only [sx4, encs, kpLL_map, sxR, sevalprocAttr] <;> (try simp [hv]) <;> (try omega)
 ·simp only [↓sx0, sxE, encs, sevalprocAttr]
  have hi : i < l.length := by omega
  have hwi : l[i].words.length ≤ 1000 := hws _ (List.getElem_mem hi)
  have hv0 := apV_at m hp hi
  have hge : (l.map (eP true))[(i : Int).toNat]? = some (eP true l[i]) := by rw [Int.toNat_natCast]; simp [hi]
  repeat ((with_reducible refine Vc.go ?_ fun _ => ?_); (focus (first | omega | (simp only [InK]; omega) | (simp [InK] <;> omega))); simp only [↓sx0, sxE, encs, sevalprocAttr])
  refine DrawW.plan Tok mixed (.q 0 <| .q 1 <| .q 2 <| .q 3 <| .q 4 <| .q 5 <| .q 6 <| .q 7 <| .q 8 <| .done) (by kernel_rfl) (by kernel_rfl) ?_
  simp only [↓sx0, sxE, encs, sevalprocAttr]
  refine ⟨by omega, _, hge, ?_⟩
  simp only [↓sx0, sxE, encs, sevalprocAttr]
  repeat ((with_reducible refine Vc.go ?_ fun _ => ?_); (focus (first | omega | (simp only [InK]; omega) | (simp [InK] <;> omega))); simp only [↓sx0, sxE, encs, sevalprocAttr])
  refine BrW.dec (fun h1 => ?_) (fun h1 => ?_)
  ·simp only [↓sx0, sxE, encs, sevalprocAttr]
   have hv : apV l m = ([], 6) := by
    rw [hv0, if_pos (.inl (by rw [hm, hw]; simpa using h1))]
   refine EndW.fn ?_ ?_ <;> simp only [sx4, encs, kpLL_map, sxR, sevalprocAttr] <;> (try simp [hv]) <;> (try omega)
  ·simp only [↓sx0, sxE, encs, sevalprocAttr]
   rw [if_neg (show ¬ _ by rw [hm, hw]; rintro (h | ⟨h, -⟩) <;> first | omega | (simp at h; omega)), if_neg (show ¬ _ by rw [hm]; rintro (⟨h | h, -⟩ | ⟨h, -⟩ | ⟨h, -⟩) <;> omega), show apL l m i m.word.toNat l[i] = brL l m i k hi by simp [apL, hm, hw, brL]] at hv0
   have hki : k < l[i].words.length := by omega
   refine DrawW.plan Tok mixed (.q 0 <| .q 1 <| .q 2 <| .q 3 <| .q 4 <| .q 5 <| .q 6 <| .q 7 <| .e2 8 [1] (.q 9 <| .e 10 [1, 5] <| .e 11 [] <| .done) 10 [1, 5] (.e 8 [1] <| .q 9 <| .e 11 [] <| .done)) (by kernel_rfl) (by kernel_rfl) ?_
   simp only [↓sx0, sxE, encs, sevalprocAttr]
   refine ⟨by omega, _, hge, ?_⟩
   simp only [↓sx0, sxE, encs, sevalprocAttr]
   repeat ((with_reducible refine Vc.go ?_ fun _ => ?_); (focus (first | omega | (simp only [InK]; omega) | (simp [InK] <;> omega))); simp only [↓sx0, sxE, encs, sevalprocAttr])
   have hdr : (List.drop (k : Int).toNat (l[i].words.map eS)) = (l[i].words.drop k).map eS := by rw [Int.toNat_natCast, List.map_drop]
   have htk : (List.take (k : Int).toNat (l[i].words.map eS)) = (l[i].words.take k).map eS := by rw [Int.toNat_natCast, List.map_take]
   rw [hdr]
   refine ⟨?_, ?_⟩
   all_goals
    refine CallI.ctr (cloneS_s true _ (kpS (l[i].words.drop k)) (by simp; omega)) (by simp only [sx3, encs, sxR, sevalprocAttr] <;> (try simp) <;> (try rfl)) ?_
    rintro _ rfl
    simp only [↓sx0, sxE, encs, sevalprocAttr]
    repeat ((with_reducible refine Vc.go ?_ fun _ => ?_); (focus (first | omega | (simp only [InK]; omega) | (simp [InK] <;> omega))); simp only [↓sx0, sxE, encs, sevalprocAttr])
    refine ⟨by omega, _, hge, ?_⟩
    simp only [↓sx0, sxE, encs, sevalprocAttr]
    repeat ((with_reducible refine Vc.go ?_ fun _ => ?_); (focus (first | omega | (simp only [InK]; omega) | (simp [InK] <;> omega))); simp only [↓sx0, sxE, encs, sevalprocAttr])
    rw [htk]
    rw [show ((i : Int) + 1) = ((i + 1 : Nat) : Int) by omega]
    have hje := elP_words hi (l[i].words.take k)
    refine CallI.turn2 (r := 0) (k := 3) (e := 81) (s := 2) (e2 := 81) (s2 := 2) rfl rfl (by decide) (by decide) (insertP_s _ _ (i + 1) (by simp; omega) (by simp; omega) (by simp; omega)) ?_
    rw [hje, elP_break m hi]
    simp only [↓sx0, sxE, encs, sevalprocAttr]
    refine CallI.fn (checkCopy_s false true (brL l m i k hi)) (by simp only [sx3, encs, sxR, sevalprocAttr] <;> (try simp) <;> (try rfl)) ?_
    simp only [↓sx0, sxE, encs, sevalprocAttr]
    have hkp := kpP (brL l m i k hi)
    refine BrW.dec (fun h5 => ?_) (fun h5 => ?_)
    ·simp only [↓sx0, sxE, encs, sevalprocAttr]
     have hv : apV l m = ([], (partsErr (brL l m i k hi)).2) := by rw [hv0, chk, if_neg (by simpa using h5)]
     refine EndW.fn ?_ ?_ <;> simp only [sx4, encs, kpLL_map, sxR, sevalprocAttr] <;> (try simp [hv]) <;> (try omega)
    ·simp only [↓sx0, sxE, encs, sevalprocAttr]
     have hv : apV l m = (brL l m i k hi, 0) := by rw [hv0, chk, if_pos (by simpa using h5)]
     refine EndW.fn ?_ ?_ <;> simp only [sx4, encs, kpLL_map, sxR, sevalprocAttr] <;> (try simp [hv, hkp]) <;> (try omega)
end Go.Proofs.YtgcmppghjfidfaaGreatDoor
/-
 Chapter 8, walks: words that go out.
-/
namespace Go.Proofs.YtgcmppghjfidfaaGreatDoor
open Go Go.Vx
set_option maxRecDepth 20000
set_option maxHeartbeats 4000000 in
theorem appliedMiss_s (b b2 : Bool) (l : List Pt) (m : Mk) (i : Nat) (hp : m.part = i) (hi : ¬ i < l.length) (hl : l.length ≤ 1000) (hws : ∀ p ∈ l, p.words.length ≤ 1000) :
  Ctr Tryz.prog 50 [.sl b 2 (l.map (eP b2)), mV m] (fun rr => rr = ⟨.tup [.sl true 2 ((apV l m).1.map (eP true)), (.v (.int .i64 ((apV l m).2)))], []⟩) := by
 refine Ctr.of (rs := [.tmp 4, .tmp 5]) Tok true Tryz.func50 rfl rfl rfl rfl (by simp [ofDL]) (fun w0 kp => ?_)
 simp only [↓sx0, xE, sevalprocAttr]
 rw [hp]
 refine DrawW.plan Tok mixed (.q 0 <| .q 2 <| .e 1 [2] <| .e 3 [] <| .q 4 <| .q 5 <| .q 6 <| .q 7 <| .q 8 <| .done) (by kernel_rfl) (by kernel_rfl) ?_
 simp only [↓sx0, xE, sevalprocAttr]
 refine CallI.ctr (cloneP_s b b2 l hl hws) (by simp only [sx3, xR, sevalprocAttr] <;> (try simp) <;> (try rfl)) ?_
 rintro _ rfl
 simp only [↓sx0, xE, sevalprocAttr]
 refine CallI.inlG (rs := [.tmp 4, .tmp 5]) Tok (fun h => by first | cases h; done | rfl) Tryz.func82 rfl rfl rfl rfl (by simp) (fun ρ σ μ fr lp => ?_) (by refine ⟨_, ?_, rfl⟩; rfl)
 simp only [↓sx0, xE, sevalprocAttr]
 refine BrW.yes (by omega) ?_
 simp only [↓sx0, xE, sevalprocAttr]
 have hv : apV l m = ([], 6) := by
  rw [apV, hp, Int.toNat_natCast, List.getElem?_eq_none (by omega)]
 refine EndW.fn ?_ ?_ <;> simp only [sx4, xK, sevalprocAttr] <;> (try simp [hv]) <;> (try omega)
def outP (p : Pt) (k : Nat) : Pt := ⟨p.kind, p.words.take k ++ p.words.drop (k + 1)⟩
set_option maxHeartbeats 8000000 in
theorem appliedOut_s (b b2 : Bool) (l : List Pt) (m : Mk) (i k : Nat) (hm : m.mark = 1) (hp : m.part = i) (hw : m.word = k) (hl : l.length ≤ 1000) (hws : ∀ p ∈ l, p.words.length ≤ 1000) (hn : ∀ p ∈ l, 0 < p.words.length) (hi : i < l.length) :
  Ctr Tryz.prog 50 [.sl b 2 (l.map (eP b2)), mV m] (fun rr => rr = ⟨.tup [.sl true 2 ((apV l m).1.map (eP true)), (.v (.int .i64 ((apV l m).2)))], []⟩) := by
 have encs := And.intro encs mapE
 have hwi : l[i].words.length ≤ 1000 := hws _ (List.getElem_mem hi)
 have hni : 0 < l[i].words.length := hn _ (List.getElem_mem hi)
 have hv0 := apV_at m hp hi
 refine Ctr.of (rs := [.tmp 4, .tmp 5]) Tok true Tryz.func50 rfl rfl rfl rfl (by simp [ofDL]) (fun w0 kp => ?_)
 simp only [↓sx0, sxE, encs, sevalprocAttr]
 rw [hm, hp, hw]
 refine DrawW.plan Tok mixed (.q 0 <| .q 2 <| .e 1 [2] <| .e 3 [] <| .q 4 <| .q 5 <| .q 6 <| .q 7 <| .q 8 <| .done) (by kernel_rfl) (by kernel_rfl) ?_
 simp only [↓sx0, sxE, encs, sevalprocAttr]
 refine CallI.ctrA (clone_s b b2 l i hl hi hws hni) (by simp only [sx3, encs, sxR, sevalprocAttr] <;> (try simp) <;> (try rfl)) ?_
 rintro _ _ _ ⟨rfl, ⟨ad, n0, c0, rfl⟩, rfl⟩
 simp only [↓sx0, sxE, encs, sevalprocAttr]
 refine CallI.inlG (rs := [.tmp 4, .tmp 5]) Tok (fun h => by first | cases h; done | rfl) Tryz.func82 rfl rfl rfl rfl (by simp) (fun ρ σ μ fr lp => ?_) (by refine ⟨_, ?_, rfl⟩; rfl)
 simp only [↓sx0, sxE, encs, sevalprocAttr]
 have hel := elsA_len l i (.slice (some ad) n0 c0)
 have hge := elsA_get hi (.slice (some ad) n0 c0)
 refine BrW.no (by omega) ?_
 simp only [↓sx0, sxE, encs, sevalprocAttr]
 repeat ((with_reducible refine Vc.go ?_ fun _ => ?_); (focus (first | omega | (simp only [InK]; omega) | (simp [InK] <;> omega))); simp only [↓sx0, sxE, encs, sevalprocAttr])
 refine DrawW.plan Tok mixed (.q 0 <| .q 1 <| .q 2 <| .q 3 <| .q 4 <| .q 5 <| .q 6 <| .q 7 <| .q 8 <| .done) (by kernel_rfl) (by kernel_rfl) ?_
 simp only [↓sx0, sxE, encs, sevalprocAttr]
 refine ⟨by omega, _, (by rw [Int.toNat_natCast]; exact hge), ?_⟩
 simp only [↓sx0, sxE, encs, sevalprocAttr]
 repeat ((with_reducible refine Vc.go ?_ fun _ => ?_); (focus (first | omega | (simp only [InK]; omega) | (simp [InK] <;> omega))); simp only [↓sx0, sxE, encs, sevalprocAttr])
 refine BrW.dec (fun h1 => ?_) (fun h1 => ?_)
 ·simp only [↓sx0, sxE, encs, sevalprocAttr]
  have hv : apV l m = ([], 6) := by
   rw [hv0, if_pos (.inl (by rw [hm, hw]; simp; omega))]
  refine EndW.fn ?_ ?_ <;> simp only [sx4, encs, kpLL_map, sxR, sevalprocAttr] <;> (try simp [hv]) <;> (try omega)
 ·simp only [↓sx0, sxE, encs, sevalprocAttr]
  have hk : k < l[i].words.length := by omega
  rw [if_neg (show ¬ _ by rw [hm, hw]; rintro (h | ⟨h, -⟩) <;> first | omega | (simp at h; omega))] at hv0
  refine DrawW.plan Tok mixed (.q 0 <| .q 1 <| .q 2 <| .q 3 <| .q 4 <| .q 5 <| .q 6 <| .q 7 <| .q 8 <| .q 9 <| .q 10 <| .done) (by kernel_rfl) (by kernel_rfl) ?_
  simp only [↓sx0, sxE, encs, sevalprocAttr]
  refine ⟨by omega, _, (by rw [Int.toNat_natCast]; exact hge), ?_⟩
  simp only [↓sx0, sxE, encs, sevalprocAttr]
  repeat ((with_reducible refine Vc.go ?_ fun _ => ?_); (focus (first | omega | (simp only [InK]; omega) | (simp [InK] <;> omega))); simp only [↓sx0, sxE, encs, sevalprocAttr])
  have hgw : (l[i].words.map eS)[(k : Int).toNat]? = some (eS l[i].words[k]) := by rw [Int.toNat_natCast]; simp [hk]
  refine ⟨by omega, _, hgw, ?_⟩
  simp only [↓sx0, sxE, encs, sevalprocAttr]
  have hgd : l[i].words.getD m.word.toNat em = l[i].words[k] := by rw [hw, Int.toNat_natCast, List.getD_eq_getElem?_getD, List.getElem?_eq_getElem hk]; rfl
  rw [hgd] at hv0
  refine BrW.dec (fun h2 => ?_) (fun h2 => ?_)
  ·simp only [↓sx0, sxE, encs, sevalprocAttr]
   have hv : apV l m = ([], 13) := by
    rw [hv0, if_pos (.inl ⟨.inl hm, by simpa using h2⟩)]
   refine EndW.fn ?_ ?_ <;> simp only [sx4, encs, kpLL_map, sxR, sevalprocAttr] <;> (try simp [hv]) <;> (try omega)
  ·simp only [↓sx0, sxE, encs, sevalprocAttr]
   rw [if_neg (show ¬ _ by rw [hm]; rintro (⟨-, h⟩ | ⟨h, -⟩ | ⟨h, -⟩) <;> first | omega | exact absurd h (by simpa using h2)), show apL l m i m.word.toNat l[i] = l.set i (outP l[i] k) by simp [apL, hm, hw, outP]] at hv0
   refine ⟨by omega, _, (by rw [Int.toNat_natCast]; exact hge), ?_⟩
   simp only [↓sx0, sxE, encs, sevalprocAttr]
   repeat ((with_reducible refine Vc.go ?_ fun _ => ?_); (focus (first | omega | (simp only [InK]; omega) | (simp [InK] <;> omega))); simp only [↓sx0, sxE, encs, sevalprocAttr])
   rw [show ((k : Int) + 1) = ((k + 1 : Nat) : Int) by omega]
   refine CallI.turnD (r := 1) (e := 9) (s := 1) rfl (deleteS_s (l[i].words.map eS) k (k + 1) (by omega) (by simp; omega) (by simp; omega)) ?_
   rw [show (l[i].words.map eS).take k ++ (l[i].words.map eS).drop (k + 1) = (outP l[i] k).words.map eS by simp [outP, List.map_take, List.map_drop]]
   simp only [↓sx0, sxE, encs, sevalprocAttr]
   repeat ((with_reducible refine Vc.go ?_ fun _ => ?_); (focus (first | omega | (simp only [InK]; omega) | (simp [InK] <;> omega))); simp only [↓sx0, sxE, encs, sevalprocAttr])
   rw [Int.toNat_natCast, elsA_put hi (.slice (some ad) n0 c0) (outP l[i] k) rfl]
   refine CallI.fn (checkCopy_s false true (l.set i (outP l[i] k))) (by simp only [sx3, encs, sxR, sevalprocAttr] <;> (try simp) <;> (try rfl)) ?_
   simp only [↓sx0, sxE, encs, sevalprocAttr]
   have hkp := kpP (l.set i (outP l[i] k))
   refine BrW.dec (fun h5 => ?_) (fun h5 => ?_)
   ·simp only [↓sx0, sxE, encs, sevalprocAttr]
    have hv : apV l m = ([], (partsErr (l.set i (outP l[i] k))).2) := by rw [hv0, chk, if_neg (by simpa using h5)]
    refine EndW.fn ?_ ?_ <;> simp only [sx4, encs, kpLL_map, sxR, sevalprocAttr] <;> (try simp [hv]) <;> (try omega)
   ·simp only [↓sx0, sxE, encs, sevalprocAttr]
    have hv : apV l m = (l.set i (outP l[i] k), 0) := by rw [hv0, chk, if_pos (by simpa using h5)]
    refine EndW.fn ?_ ?_ <;> simp only [sx4, encs, kpLL_map, sxR, sevalprocAttr] <;> (try simp [hv, hkp]) <;> (try omega)
end Go.Proofs.YtgcmppghjfidfaaGreatDoor
/-
 Chapter 8, walks: words that come in, all cases.
-/
namespace Go.Proofs.YtgcmppghjfidfaaGreatDoor
open Go Go.Vx
set_option maxRecDepth 20000
theorem insertA_s (l : List ByteArray) (i : Nat) (t : ByteArray) (hi : i ≤ l.length) (h0 : 0 < l.length) (hl : l.length ≤ 1000000) : Turn2 Tryz.prog 122 9 1 (l.map eS) (.int .i64 (i : Int)) 9 1 [[.v (.string t)]] ((l.take i ++ t :: l.drop i).map eS) := by
 by_cases h : i < l.length
 ·exact insert_s l i t h hl
 ·have he : i = l.length := by omega
  subst he
  have := insertS_end (l.map eS) [.v (.string t)] (by simpa using h0) (by simpa using hl)
  rw [List.take_length, List.drop_length, List.map_append]
  simpa [eS] using this
set_option maxHeartbeats 8000000 in
theorem appliedInA_s (b b2 : Bool) (l : List Pt) (m : Mk) (i k : Nat) (hm : m.mark = 2) (hp : m.part = i) (hw : m.word = k) (hl : l.length ≤ 1000) (hws : ∀ p ∈ l, p.words.length ≤ 1000) (hn : ∀ p ∈ l, 0 < p.words.length) (hi : i < l.length) :
  Ctr Tryz.prog 50 [.sl b 2 (l.map (eP b2)), mV m] (fun rr => rr = ⟨.tup [.sl true 2 ((apV l m).1.map (eP true)), (.v (.int .i64 ((apV l m).2)))], []⟩) := by
 have encs := And.intro encs mapE
 have hwi : l[i].words.length ≤ 1000 := hws _ (List.getElem_mem hi)
 have hni : 0 < l[i].words.length := hn _ (List.getElem_mem hi)
 have hv0 := apV_at m hp hi
 refine Ctr.of (rs := [.tmp 4, .tmp 5]) Tok true Tryz.func50 rfl rfl rfl rfl (by simp [ofDL]) (fun w0 kp => ?_)
 simp only [↓sx0, sxE, encs, sevalprocAttr]
 rw [hm, hp, hw]
 refine DrawW.plan Tok mixed (.q 0 <| .q 2 <| .e 1 [2] <| .e 3 [] <| .q 4 <| .q 5 <| .q 6 <| .q 7 <| .q 8 <| .done) (by kernel_rfl) (by kernel_rfl) ?_
 simp only [↓sx0, sxE, encs, sevalprocAttr]
 refine CallI.ctrA (clone_s b b2 l i hl hi hws hni) (by simp only [sx3, encs, sxR, sevalprocAttr] <;> (try simp) <;> (try rfl)) ?_
 rintro _ _ _ ⟨rfl, ⟨ad, n0, c0, rfl⟩, rfl⟩
 simp only [↓sx0, sxE, encs, sevalprocAttr]
 refine CallI.inlG (rs := [.tmp 4, .tmp 5]) Tok (fun h => by first | cases h; done | rfl) Tryz.func82 rfl rfl rfl rfl (by simp) (fun ρ σ μ fr lp => ?_) (by refine ⟨_, ?_, rfl⟩; rfl)
 simp only [↓sx0, sxE, encs, sevalprocAttr]
 have hel := elsA_len l i (.slice (some ad) n0 c0)
 have hge := elsA_get hi (.slice (some ad) n0 c0)
 refine BrW.no (by omega) ?_
 simp only [↓sx0, sxE, encs, sevalprocAttr]
 repeat ((with_reducible refine Vc.go ?_ fun _ => ?_); (focus (first | omega | (simp only [InK]; omega) | (simp [InK] <;> omega))); simp only [↓sx0, sxE, encs, sevalprocAttr])
 refine DrawW.plan Tok mixed (.q 0 <| .q 1 <| .q 2 <| .q 3 <| .q 4 <| .q 5 <| .q 6 <| .q 7 <| .q 8 <| .done) (by kernel_rfl) (by kernel_rfl) ?_
 simp only [↓sx0, sxE, encs, sevalprocAttr]
 refine ⟨by omega, _, (by rw [Int.toNat_natCast]; exact hge), ?_⟩
 simp only [↓sx0, sxE, encs, sevalprocAttr]
 repeat ((with_reducible refine Vc.go ?_ fun _ => ?_); (focus (first | omega | (simp only [InK]; omega) | (simp [InK] <;> omega))); simp only [↓sx0, sxE, encs, sevalprocAttr])
 refine BrW.dec (fun h1 => ?_) (fun h1 => ?_)
 ·simp only [↓sx0, sxE, encs, sevalprocAttr]
  have hv : apV l m = ([], 6) := by
   rw [hv0, if_pos (.inl (by rw [hm, hw]; simp; omega))]
  refine EndW.fn ?_ ?_ <;> simp only [sx4, encs, kpLL_map, sxR, sevalprocAttr] <;> (try simp [hv]) <;> (try omega)
 ·simp only [↓sx0, sxE, encs, sevalprocAttr]
  have hk : k ≤ l[i].words.length := by omega
  rw [if_neg (show ¬ _ by rw [hm, hw]; rintro (h | ⟨h, -⟩) <;> first | omega | (simp at h; omega)), if_neg (show ¬ _ by rw [hm]; rintro (⟨h | h, -⟩ | ⟨h, -⟩ | ⟨h, -⟩) <;> omega), show apL l m i m.word.toNat l[i] = l.set i (insP l[i] k m.new) by simp [apL, hm, hw]] at hv0
  refine DrawW.plan Tok mixed (.q 0 <| .q 1 <| .q 2 <| .q 3 <| .q 4 <| .q 5 <| .q 6 <| .q 7 <| .e 8 [4] <| .e 9 [] <| .q 10 <| .q 11 <| .e 12 [] <| .done) (by kernel_rfl) (by kernel_rfl) ?_
  simp only [↓sx0, sxE, encs, sevalprocAttr]
  refine ⟨by omega, _, (by rw [Int.toNat_natCast]; exact hge), ?_⟩
  simp only [↓sx0, sxE, encs, sevalprocAttr]
  refine CallI.turn2 (r := 1) (k := 3) (x := .int .i64 (k : Int)) (e := 9) (s := 1) (e2 := 9) (s2 := 1) rfl rfl (by decide) (by decide) (insertA_s l[i].words k m.new hk hni (by omega)) ?_
  simp only [↓sx0, sxE, encs, sevalprocAttr]
  repeat ((with_reducible refine Vc.go ?_ fun _ => ?_); (focus (first | omega | (simp only [InK]; omega) | (simp [InK] <;> omega))); simp only [↓sx0, sxE, encs, sevalprocAttr])
  rw [Int.toNat_natCast, show (l[i].words.take k ++ m.new :: l[i].words.drop k) = (insP l[i] k m.new).words from rfl, elsA_put hi (.slice (some ad) n0 c0) (insP l[i] k m.new) rfl]
  refine CallI.fn (checkCopy_s false true (l.set i (insP l[i] k m.new))) (by simp only [sx3, encs, sxR, sevalprocAttr] <;> (try simp) <;> (try rfl)) ?_
  simp only [↓sx0, sxE, encs, sevalprocAttr]
  have hkp := kpP (l.set i (insP l[i] k m.new))
  refine BrW.dec (fun h5 => ?_) (fun h5 => ?_)
  ·simp only [↓sx0, sxE, encs, sevalprocAttr]
   have hv : apV l m = ([], (partsErr (l.set i (insP l[i] k m.new))).2) := by rw [hv0, chk, if_neg (by simpa using h5)]
   refine EndW.fn ?_ ?_ <;> simp only [sx4, encs, kpLL_map, sxR, sevalprocAttr] <;> (try simp [hv]) <;> (try omega)
  ·simp only [↓sx0, sxE, encs, sevalprocAttr]
   have hv : apV l m = (l.set i (insP l[i] k m.new), 0) := by rw [hv0, chk, if_pos (by simpa using h5)]
   refine EndW.fn ?_ ?_ <;> simp only [sx4, encs, kpLL_map, sxR, sevalprocAttr] <;> (try simp [hv, hkp]) <;> (try omega)
end Go.Proofs.YtgcmppghjfidfaaGreatDoor
/-
 Chapter 8, walks: words that are changed.
-/
namespace Go.Proofs.YtgcmppghjfidfaaGreatDoor
open Go Go.Vx
set_option maxRecDepth 20000
def chP (p : Pt) (k : Nat) (t : ByteArray) : Pt := ⟨p.kind, p.words.set k t⟩
theorem elS_put {l : List ByteArray} {k : Nat} (hk : k < l.length) {t : ByteArray} : ((l.map eS).modify (k : Int).toNat fun x => modE x 0 [.v (.string t)]) = (l.set k t).map eS := by
 rw [Int.toNat_natCast]
 apply List.ext_getElem?
 intro j
 rw [List.getElem?_modify]
 by_cases h : k = j
 ·subst h
  simp [modE, eS, hk]
 ·simp [h]
theorem elsA_close {l : List Pt} {i : Nat} (hi : i < l.length) (u : Value) (p : Pt) (hk : p.kind = l[i].kind) : (elsA l i u).set i [.v (.int .i64 l[i].kind), .sl true 1 (p.words.map eS)] = (l.set i p).map (eP true) := by
 unfold elsA
 rw [List.set_set, List.map_set, ← hk]
 rfl
set_option maxHeartbeats 8000000 in
theorem appliedChange_s (b b2 : Bool) (l : List Pt) (m : Mk) (i k : Nat) (hm : m.mark = 3) (hp : m.part = i) (hw : m.word = k) (hl : l.length ≤ 1000) (hws : ∀ p ∈ l, p.words.length ≤ 1000) (hn : ∀ p ∈ l, 0 < p.words.length) (hi : i < l.length) :
  Ctr Tryz.prog 50 [.sl b 2 (l.map (eP b2)), mV m] (fun rr => rr = ⟨.tup [.sl true 2 ((apV l m).1.map (eP true)), (.v (.int .i64 ((apV l m).2)))], []⟩) := by
 have encs := And.intro encs mapE
 have hwi : l[i].words.length ≤ 1000 := hws _ (List.getElem_mem hi)
 have hni : 0 < l[i].words.length := hn _ (List.getElem_mem hi)
 have hv0 := apV_at m hp hi
 refine Ctr.of (rs := [.tmp 4, .tmp 5]) Tok true Tryz.func50 rfl rfl rfl rfl (by simp [ofDL]) (fun w0 kp => ?_)
 simp only [↓sx0, sxE, encs, sevalprocAttr]
 rw [hm, hp, hw]
 refine DrawW.plan Tok mixed (.q 0 <| .q 2 <| .e 1 [2] <| .e 3 [] <| .q 4 <| .q 5 <| .q 6 <| .q 7 <| .q 8 <| .done) (by kernel_rfl) (by kernel_rfl) ?_
 simp only [↓sx0, sxE, encs, sevalprocAttr]
 refine CallI.ctrA (clone_s b b2 l i hl hi hws hni) (by simp only [sx3, encs, sxR, sevalprocAttr] <;> (try simp) <;> (try rfl)) ?_
 rintro _ _ _ ⟨rfl, ⟨ad, n0, c0, rfl⟩, rfl⟩
 simp only [↓sx0, sxE, encs, sevalprocAttr]
 refine CallI.inlG (rs := [.tmp 4, .tmp 5]) Tok (fun h => by first | cases h; done | rfl) Tryz.func82 rfl rfl rfl rfl (by simp) (fun ρ σ μ fr lp => ?_) (by refine ⟨_, ?_, rfl⟩; rfl)
 simp only [↓sx0, sxE, encs, sevalprocAttr]
 have hel := elsA_len l i (.slice (some ad) n0 c0)
 have hge := elsA_get hi (.slice (some ad) n0 c0)
 refine BrW.no (by omega) ?_
 simp only [↓sx0, sxE, encs, sevalprocAttr]
 repeat ((with_reducible refine Vc.go ?_ fun _ => ?_); (focus (first | omega | (simp only [InK]; omega) | (simp [InK] <;> omega))); simp only [↓sx0, sxE, encs, sevalprocAttr])
 refine DrawW.plan Tok mixed (.q 0 <| .q 1 <| .q 2 <| .q 3 <| .q 4 <| .q 5 <| .q 6 <| .q 7 <| .q 8 <| .done) (by kernel_rfl) (by kernel_rfl) ?_
 simp only [↓sx0, sxE, encs, sevalprocAttr]
 refine ⟨by omega, _, (by rw [Int.toNat_natCast]; exact hge), ?_⟩
 simp only [↓sx0, sxE, encs, sevalprocAttr]
 repeat ((with_reducible refine Vc.go ?_ fun _ => ?_); (focus (first | omega | (simp only [InK]; omega) | (simp [InK] <;> omega))); simp only [↓sx0, sxE, encs, sevalprocAttr])
 refine BrW.dec (fun h1 => ?_) (fun h1 => ?_)
 ·simp only [↓sx0, sxE, encs, sevalprocAttr]
  have hv : apV l m = ([], 6) := by
   rw [hv0, if_pos (.inl (by rw [hm, hw]; simp; omega))]
  refine EndW.fn ?_ ?_ <;> simp only [sx4, encs, kpLL_map, sxR, sevalprocAttr] <;> (try simp [hv]) <;> (try omega)
 ·simp only [↓sx0, sxE, encs, sevalprocAttr]
  have hk : k < l[i].words.length := by omega
  rw [if_neg (show ¬ _ by rw [hm, hw]; rintro (h | ⟨h, -⟩) <;> first | omega | (simp at h; omega))] at hv0
  refine DrawW.plan Tok mixed (.q 0 <| .q 1 <| .q 2 <| .q 3 <| .q 4 <| .q 5 <| .q 6 <| .q 7 <| .q 8 <| .q 9 <| .q 10 <| .done) (by kernel_rfl) (by kernel_rfl) ?_
  simp only [↓sx0, sxE, encs, sevalprocAttr]
  refine ⟨by omega, _, (by rw [Int.toNat_natCast]; exact hge), ?_⟩
  simp only [↓sx0, sxE, encs, sevalprocAttr]
  repeat ((with_reducible refine Vc.go ?_ fun _ => ?_); (focus (first | omega | (simp only [InK]; omega) | (simp [InK] <;> omega))); simp only [↓sx0, sxE, encs, sevalprocAttr])
  have hgw : (l[i].words.map eS)[(k : Int).toNat]? = some (eS l[i].words[k]) := by rw [Int.toNat_natCast]; simp [hk]
  refine ⟨by omega, _, hgw, ?_⟩
  simp only [↓sx0, sxE, encs, sevalprocAttr]
  have hgd : l[i].words.getD m.word.toNat em = l[i].words[k] := by rw [hw, Int.toNat_natCast, List.getD_eq_getElem?_getD, List.getElem?_eq_getElem hk]; rfl
  rw [hgd] at hv0
  refine BrW.dec (fun h2 => ?_) (fun h2 => ?_)
  ·simp only [↓sx0, sxE, encs, sevalprocAttr]
   have hv : apV l m = ([], 13) := by
    rw [hv0, if_pos (.inl ⟨.inr hm, by simpa using h2⟩)]
   refine EndW.fn ?_ ?_ <;> simp only [sx4, encs, kpLL_map, sxR, sevalprocAttr] <;> (try simp [hv]) <;> (try omega)
  ·simp only [↓sx0, sxE, encs, sevalprocAttr]
   rw [if_neg (show ¬ _ by rw [hm]; rintro (⟨-, h⟩ | ⟨h, -⟩ | ⟨h, -⟩) <;> first | omega | exact absurd h (by simpa using h2)), show apL l m i m.word.toNat l[i] = l.set i (chP l[i] k m.new) by simp [apL, hm, hw, chP]] at hv0
   refine DrawW.plan Tok mixed (.q 0 <| .q 1 <| .q 2 <| .q 3 <| .q 4 <| .q 5 <| .q 6 <| .q 7 <| .e 8 [] <| .done) (by kernel_rfl) (by kernel_rfl) ?_
   simp only [↓sx0, sxE, encs, sevalprocAttr]
   refine ⟨by omega, _, (by rw [Int.toNat_natCast]; exact hge), ?_⟩
   simp only [↓sx0, sxE, encs, sevalprocAttr]
   repeat ((with_reducible refine Vc.go ?_ fun _ => ?_); (focus (first | omega | (simp only [InK]; omega) | (simp [InK] <;> omega))); simp only [↓sx0, sxE, encs, sevalprocAttr])
   rw [elS_put hk]
   refine CallI.close (k := 1) (s := 1) (ks := (chP l[i] k m.new).words.map eS) (r := 0) (e' := 81) (s' := 2) (els := elsA l i (.slice (some ad) n0 c0)) (i := i) (c := 1) (el := [.v (.int .i64 l[i].kind), .v (.slice (some ad) n0 c0)]) ⟨.slice (some ad) n0 c0, 9, rfl, rfl, by decide, rfl, by decide, by decide, hge, rfl⟩ ?_
   simp only [closeS, setN, List.set_cons_succ, List.set_cons_zero]
   rw [elsA_close hi (.slice (some ad) n0 c0) (chP l[i] k m.new) rfl]
   refine CallI.fn (checkCopy_s false true (l.set i (chP l[i] k m.new))) (by simp only [sx3, encs, sxR, sevalprocAttr] <;> (try simp) <;> (try rfl)) ?_
   simp only [↓sx0, sxE, encs, sevalprocAttr]
   have hkp := kpP (l.set i (chP l[i] k m.new))
   refine BrW.dec (fun h5 => ?_) (fun h5 => ?_)
   ·simp only [↓sx0, sxE, encs, sevalprocAttr]
    have hv : apV l m = ([], (partsErr (l.set i (chP l[i] k m.new))).2) := by rw [hv0, chk, if_neg (by simpa using h5)]
    refine EndW.fn ?_ ?_ <;> simp only [sx4, encs, kpLL_map, sxR, sevalprocAttr] <;> (try simp [hv]) <;> (try omega)
   ·simp only [↓sx0, sxE, encs, sevalprocAttr]
    have hv : apV l m = (l.set i (chP l[i] k m.new), 0) := by rw [hv0, chk, if_pos (by simpa using h5)]
    refine EndW.fn ?_ ?_ <;> simp only [sx4, encs, kpLL_map, sxR, sevalprocAttr] <;> (try simp [hv, hkp]) <;> (try omega)
end Go.Proofs.YtgcmppghjfidfaaGreatDoor
