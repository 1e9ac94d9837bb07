/-
 Chapter 8, walks: the laws are awake.
-/
import Derived.Test.YtmbemlmkfoblhaaGreatDoorVGE
import Derived.Test.YtmbemlmkfoblhaaGreatDoorVGG
import Derived.Test.YtmbemlmkfoblhaaGreatDoorVItB
import Derived.Test.YtmbemlmkfoblhaaGreatDoorVBld
set_option linter.unusedSimpArgs false
set_option linter.unusedVariables false
namespace Go.Proofs.YtmbemlmkfoblhaaGreatDoor
open Go Go.Vx
set_option maxRecDepth 20000
def foxL : List Pt := [⟨1, [⟨#[116, 104, 101]⟩, ⟨#[113, 117, 105, 99, 107]⟩, ⟨#[102, 111, 120]⟩]⟩]
def fox4 : List Pt := [⟨1, [⟨#[116, 104, 101]⟩, ⟨#[118, 101, 114, 121]⟩, ⟨#[113, 117, 105, 99, 107]⟩, ⟨#[102, 111, 120]⟩]⟩]
def inMk : Mk := ⟨2, 0, 1, ⟨#[]⟩, ⟨#[118, 101, 114, 121]⟩, 0, 0⟩
def outMk : Mk := ⟨1, 0, 3, ⟨#[102, 111, 120]⟩, ⟨#[]⟩, 0, 0⟩
def outMk2 : Mk := ⟨1, 0, 2, ⟨#[102, 111, 120]⟩, ⟨#[]⟩, 0, 0⟩
def wdsA : List ByteArray := [⟨#[116, 104, 101]⟩, ⟨#[113, 117, 105, 99, 107]⟩, ⟨#[102, 111, 120]⟩]
def wdsB : List ByteArray := [⟨#[97]⟩, ⟨#[113, 117, 105, 99, 107]⟩, ⟨#[114, 101, 100]⟩, ⟨#[102, 111, 120]⟩]
def edsL : List Ed := [⟨0, 0⟩, ⟨1, 1⟩, ⟨-1, 2⟩, ⟨2, 3⟩]
set_option maxHeartbeats 4000000 in
theorem SwQ_s (a b : Mk) (za : MkSz a) (zb : MkSz b) (e1 : mkErr a = 0) (e2 : mkErr b = 0) (q1 : a.mark ≠ 5) (q2 : a.mark ≠ 6) (q3 : b.mark ≠ 5) (q4 : b.mark ≠ 6) : Ctr Tryz.prog 23 [mV a, mV b] (fun rr => rr = ⟨.tup [prSV (swapF (quietP a b)).1, (.v (.int .i64 ((swapF (quietP a b)).2)))], []⟩) := by
 have encs := And.intro encs prE
 refine Ctr.of (rs := [.cell 4 52, .tmp 5]) Tok true Tryz.func23 rfl rfl rfl rfl (by simp [ofDL]) (fun w0 kp => ?_)
 simp only [↓sx0, sxE, encs, sevalprocAttr]
 refine LoopW.comp [2, 3, 4, 11, 12] (by simp only [sx2, encs, sxR, sevalprocAttr] <;> (try simp) <;> (try omega)) ?_
 simp only [sx2, sxR, sevalprocAttr]
 refine LoopW.up Tok (fun k : Nat => [(12, (.v (.int .i64 k)))]) (fun k => []) (fun k => []) (fun k => []) (fun k => k ≤ 2) (fun k => 2 - k) (0) (by simp only [sx2, encs, sxR, sevalprocAttr] <;> (try simp) <;> (try omega)) ?_ ?_
 ·omega
 rintro k hk
 simp only [↓sx0, sxE, encs, sevalprocAttr]
 refine BrW.dec (fun hlt => ?_) (fun hlt => ?_)
 ·have hk2 : k = 0 ∨ k = 1 := by omega
  rcases hk2 with rfl | rfl
  ·simp only [↓sx0, sxE, encs, sevalprocAttr]
   refine ArrIx.go (by simp) ?_
   simp only [↓sx0, sxE, encs, sevalprocAttr]
   refine CallI.fn (checkMark_s a za) (by simp only [sx3, encs, sxR, sevalprocAttr] <;> (try simp) <;> (try rfl)) ?_
   simp only [↓sx0, sxE, encs, sevalprocAttr]
   refine BrW.dec (fun he => ?_) (fun he => ?_)
   ·exact absurd e1 he
   ·simp only [↓sx0, sxE, encs, sevalprocAttr]
    repeat ((with_reducible refine Vc.go ?_ fun _ => ?_); (focus (first | omega | (simp only [InK]; omega) | (simp [InK] <;> omega))); simp only [↓sx0, sxE, encs, sevalprocAttr])
    refine ⟨1, StLe.auto (by simp only [sx2, encs, sxR, sevalprocAttr] <;> (try simp) <;> (try omega)), ?_, ?_⟩
    ·omega
    ·omega
  ·simp only [↓sx0, sxE, encs, sevalprocAttr]
   refine ArrIx.go (by simp) ?_
   simp only [↓sx0, sxE, encs, sevalprocAttr]
   refine CallI.fn (checkMark_s b zb) (by simp only [sx3, encs, sxR, sevalprocAttr] <;> (try simp) <;> (try rfl)) ?_
   simp only [↓sx0, sxE, encs, sevalprocAttr]
   refine BrW.dec (fun he => ?_) (fun he => ?_)
   ·exact absurd e2 he
   ·simp only [↓sx0, sxE, encs, sevalprocAttr]
    repeat ((with_reducible refine Vc.go ?_ fun _ => ?_); (focus (first | omega | (simp only [InK]; omega) | (simp [InK] <;> omega))); simp only [↓sx0, sxE, encs, sevalprocAttr])
    refine ⟨2, StLe.auto (by simp only [sx2, encs, sxR, sevalprocAttr] <;> (try simp) <;> (try omega)), ?_, ?_⟩
    ·omega
    ·omega
 ·simp only [↓sx0, sxE, encs, sevalprocAttr]
  refine CallI.fn (swappedQ_s a b (mk_ok e1).2.1 (mk_ok e2).2.1 q1 q2 q3 q4) (by simp only [sx3, encs, sxR, sevalprocAttr] <;> (try simp) <;> (try rfl)) ?_
  simp only [↓sx0, sxE, encs, sevalprocAttr]
  refine EndW.fn ?_ ?_ <;> simp only [sx4, encs, kpLL_map, sxR, sevalprocAttr] <;> (try simp) <;> (try omega)
theorem fox_s : Ctr Tryz.prog 22 [] (fun rr => rr = ⟨.sl true 2 (foxL.map (eP true)), []⟩) := by
 refine Ctr.of (rs := [.tmp 0]) Tok true Tryz.func22 rfl rfl rfl rfl (by simp [ofDL]) (fun w0 kp => ?_)
 simp only [↓sx0, xE, sevalprocAttr]
 repeat ((with_reducible refine Vc.go ?_ fun _ => ?_); (focus (first | omega | (simp only [InK]; omega) | (simp [InK] <;> omega))); simp only [↓sx0, xE, sevalprocAttr])
 refine EndW.fn ?_ ?_ <;> simp only [sx4, xK, sevalprocAttr] <;> (try simp [foxL, eP, eS]) <;> (try omega)
theorem fox_err : (partsErr foxL).2 = 0 := by kernel_rfl
theorem fox_ins : foxL.set 0 (insP foxL[0] 1 inMk.new) = fox4 := by kernel_rfl
theorem fox4_err : (partsErr fox4).2 = 0 := by kernel_rfl
theorem in_err : mkErr inMk = 0 := by kernel_rfl
theorem out_err : mkErr outMk = 0 := by kernel_rfl
theorem sw_v : swapF (quietP inMk outMk) = ((outMk2, inMk), 0) := by kernel_rfl
theorem kept_v : keptV [3, 1, 2, 1] [1, 2, 4] = ([(1, 0), (2, 1)], 0) := by kernel_rfl
theorem eds_v : edV wdsA wdsB edsL = (2, 0) := by kernel_rfl
theorem awE : (foxL = ([⟨1, [⟨#[116, 104, 101]⟩, ⟨#[113, 117, 105, 99, 107]⟩, ⟨#[102, 111, 120]⟩]⟩] : List Pt)) ∧ (fox4 = ([⟨1, [⟨#[116, 104, 101]⟩, ⟨#[118, 101, 114, 121]⟩, ⟨#[113, 117, 105, 99, 107]⟩, ⟨#[102, 111, 120]⟩]⟩] : List Pt)) ∧ (inMk = (⟨2, 0, 1, ⟨#[]⟩, ⟨#[118, 101, 114, 121]⟩, 0, 0⟩ : Mk)) ∧ (outMk = (⟨1, 0, 3, ⟨#[102, 111, 120]⟩, ⟨#[]⟩, 0, 0⟩ : Mk)) ∧ (outMk2 = (⟨1, 0, 2, ⟨#[102, 111, 120]⟩, ⟨#[]⟩, 0, 0⟩ : Mk)) ∧ (wdsA = ([⟨#[116, 104, 101]⟩, ⟨#[113, 117, 105, 99, 107]⟩, ⟨#[102, 111, 120]⟩] : List ByteArray)) ∧ (wdsB = ([⟨#[97]⟩, ⟨#[113, 117, 105, 99, 107]⟩, ⟨#[114, 101, 100]⟩, ⟨#[102, 111, 120]⟩] : List ByteArray)) ∧ (edsL = ([⟨0, 0⟩, ⟨1, 1⟩, ⟨-1, 2⟩, ⟨2, 3⟩] : List Ed)) := ⟨rfl, rfl, rfl, rfl, rfl, rfl, rfl, rfl⟩
theorem awake_s : Ctr Tryz.prog 5 [] (fun rr => rr = ⟨(.v (.bool (true))), []⟩) := by
 have hA := AppliedIn_s true true foxL inMk 0 1 rfl rfl rfl (by decide) (by decide) (by decide) (by decide) ⟨by decide, by decide⟩ fox_err in_err (by rw [fox_ins]; exact fox4_err)
 rw [fox_ins] at hA
 have hS := SwQ_s inMk outMk ⟨by decide, by decide⟩ ⟨by decide, by decide⟩ in_err out_err (by decide) (by decide) (by decide) (by decide)
 rw [sw_v] at hS
 have hK := kept_s false false [3, 1, 2, 1] [1, 2, 4]
 rw [kept_v] at hK
 have hE := checkEdits_s false false false wdsA wdsB edsL (by unfold AllSz; decide) (by unfold AllSz; decide) (by decide)
 rw [eds_v] at hE
 have encs := And.intro (And.intro encs (show ∀ p, eJ p = [(.v (.int .i64 ((p.1 : Int)))), (.v (.int .i64 ((p.2 : Int))))] from fun _ => rfl)) (And.intro awE prE)
 refine Ctr.of (rs := [.tmp 0]) Tok true Tryz.func5 rfl rfl rfl rfl (by simp [ofDL]) (fun w0 kp => ?_)
 simp only [↓sx0, sxE, encs, sevalprocAttr]
 refine DrawW.plan Tok mixed (.q 1 <| .e 0 [1] <| .e 2 [] <| .q 3 <| .q 4 <| .q 5 <| .q 6 <| .q 7 <| .done) (by kernel_rfl) (by kernel_rfl) ?_
 simp only [↓sx0, sxE, encs, sevalprocAttr]
 refine CallI.fn (fox_s) (by simp only [sx3, encs, sxR, sevalprocAttr] <;> (try simp) <;> (try rfl)) ?_
 simp only [↓sx0, sxE, encs, sevalprocAttr]
 refine CallI.fn (hA) (by simp only [sx3, encs, sxR, sevalprocAttr] <;> (try simp) <;> (try rfl)) ?_
 simp only [↓sx0, sxE, encs, sevalprocAttr]
 refine CallI.fn (hS) (by simp only [sx3, encs, sxR, sevalprocAttr] <;> (try simp) <;> (try rfl)) ?_
 simp only [↓sx0, sxE, encs, sevalprocAttr]
 refine CallI.fn (hK) (by simp only [sx3, encs, sxR, sevalprocAttr] <;> (try simp) <;> (try rfl)) ?_
 simp only [↓sx0, sxE, encs, sevalprocAttr]
 refine CallI.fn (hE) (by simp only [sx3, encs, sxR, sevalprocAttr] <;> (try simp) <;> (try rfl)) ?_
 simp only [↓sx0, sxE, encs, sevalprocAttr]
 refine ⟨by omega, _, rfl, ?_⟩
 simp only [↓sx0, sxE, encs, sevalprocAttr]
 refine CallI.fn (texts_s true false [⟨#[116, 104, 101]⟩, ⟨#[118, 101, 114, 121]⟩, ⟨#[113, 117, 105, 99, 107]⟩, ⟨#[102, 111, 120]⟩] [⟨#[116, 104, 101]⟩, ⟨#[118, 101, 114, 121]⟩, ⟨#[113, 117, 105, 99, 107]⟩, ⟨#[102, 111, 120]⟩] (by decide)) (by simp only [sx3, encs, sxR, sevalprocAttr] <;> (try simp) <;> (try rfl)) ?_
 simp only [↓sx0, sxE, encs, sevalprocAttr]
 repeat ((with_reducible refine Vc.go trivial fun _ => ?_); simp only [↓sx0, sxE, encs, sevalprocAttr])
 refine ⟨by omega, _, rfl, ?_⟩
 simp only [↓sx0, sxE, encs, sevalprocAttr]
 refine EndW.fn ?_ ?_ <;> simp only [sx4, encs, kpLL_map, sxR, sevalprocAttr] <;> (try simp) <;> (try omega)
end Go.Proofs.YtmbemlmkfoblhaaGreatDoor
/-
 Chapter 8, walks: lists of marks.
-/
namespace Go.Proofs.YtmbemlmkfoblhaaGreatDoor
open Go Go.Vx
set_option maxRecDepth 20000
def brB (m : Mk) : Bool := decide (m.old.size ≤ 40 ∧ m.new.size ≤ 40)
def lenB (n : Nat) : Bool := decide (n ≤ 8) || (decide (60 < n) && decide (n ≤ 62))
def fewB (l : List Mk) : Bool := lenB l.length && l.all brB
theorem fewB_bad {l : List Mk} {k : Nat} (h : k < l.length) (hb : brB l[k] = false) : fewB l = false := by
 rw [fewB, Bool.and_eq_false_iff]
 refine .inr ?_
 rw [← Bool.not_eq_true, List.all_eq_true]
 intro hc
 have := hc _ (List.getElem_mem h)
 rw [hb] at this; cases this
theorem all_take_succ {α : Type} {p : α → Bool} {l : List α} {k : Nat} (h : k < l.length) (h1 : (l.take k).all p = true) (h2 : p l[k] = true) : (l.take (k + 1)).all p = true := by
 rw [List.take_succ_eq_append_getElem h, List.all_append, h1]; simp [h2]
theorem few_s (b : Bool) (l : List Mk) (hl : l.length ≤ maxLen) : Ctr Tryz.prog 13 [.sl b 7 (l.map eM)] (fun rr => rr = ⟨(.v (.bool (fewB l))), []⟩) := by
 simp only [maxLen] at hl
 refine Ctr.of (rs := [.tmp 2]) Tok true Tryz.func13 rfl rfl rfl rfl (by simp [ofDL]) (fun w0 kp => ?_)
 simp only [↓sx0, xE, sevalprocAttr]
 have main : ∀ (hle : lenB l.length = true), fewB l = l.all brB := fun h => by rw [fewB, h, Bool.true_and]
 have no : ∀ (hle : lenB l.length = false), fewB l = false := fun h => by rw [fewB, h, Bool.false_and]
 by_cases hf : lenB l.length = true
 ·have hf2 := hf
  simp only [lenB, Bool.or_eq_true, Bool.and_eq_true, decide_eq_true_eq] at hf2
  rw [main hf]
  by_cases h8 : l.length ≤ 8
  ·repeat ((with_reducible refine BrW.no (by omega) ?_); simp only [↓sx0, xE, sevalprocAttr])
   refine LoopW.comp [0, 3] (by simp only [sx2, xR, sevalprocAttr] <;> (try simp) <;> (try omega)) ?_
   simp only [sx2, sxR, sevalprocAttr]
   refine LoopW.up Tok (fun k : Nat => [(3, (.v (.int .i64 k)))]) (fun k => []) (fun k => []) (fun k => []) (fun k => k ≤ l.length ∧ (l.take k).all brB = true) (fun k => l.length - k) (0) (by simp only [sx2, xR, sevalprocAttr] <;> (try simp) <;> (try omega)) ?_ ?_
   ·exact ⟨by omega, by simp⟩
   rintro k ⟨hk, ht⟩
   simp only [↓sx0, xE, sevalprocAttr]
   refine BrW.dec (fun hlt => ?_) (fun hlt => ?_)
   ·simp only [↓sx0, xE, sevalprocAttr]
    have hkl : k < l.length := by omega
    refine IxW.nat hkl ?_
    simp only [↓sx0, xE, sevalprocAttr]
    refine CallI.fn (brief_s l[k]) (by simp only [sx3, xR, sevalprocAttr] <;> (try simp) <;> (try rfl)) ?_
    simp only [↓sx0, xE, sevalprocAttr]
    refine BrW.of (fun hb => ?_) (fun hb => ?_)
    ·simp only [↓sx0, xE, sevalprocAttr]
     repeat ((with_reducible refine Vc.go ?_ fun _ => ?_); (focus (first | omega | (simp only [InK]; omega) | (simp [InK] <;> omega))); simp only [↓sx0, xE, sevalprocAttr])
     refine ⟨k + 1, StLe.auto (by simp only [sx2, xR, sevalprocAttr] <;> (try simp) <;> (try omega)), ?_, ?_⟩
     ·exact ⟨hkl, all_take_succ hkl ht hb⟩
     ·omega
    ·have := fewB_bad hkl hb
     rw [main hf] at this
     simp only [↓sx0, xE, sevalprocAttr]
     refine EndW.fn ?_ ?_ <;> simp only [sx4, xK, sevalprocAttr] <;> (try simp [this]) <;> (try omega)
   ·simp only [↓sx0, xE, sevalprocAttr]
    have hke : k = l.length := by omega
    subst hke
    rw [List.take_length] at ht
    refine EndW.fn ?_ ?_ <;> simp only [sx4, xK, sevalprocAttr] <;> (try simp [ht]) <;> (try omega)
  ·repeat ((first | (with_reducible refine BrW.yes (by omega) ?_) | (with_reducible refine BrW.no (by omega) ?_)); (try simp only [↓sx0, xE, sevalprocAttr]))
   refine LoopW.comp [0, 3] (by simp only [sx2, xR, sevalprocAttr] <;> (try simp) <;> (try omega)) ?_
   simp only [sx2, sxR, sevalprocAttr]
   refine LoopW.up Tok (fun k : Nat => [(3, (.v (.int .i64 k)))]) (fun k => []) (fun k => []) (fun k => []) (fun k => k ≤ l.length ∧ (l.take k).all brB = true) (fun k => l.length - k) (0) (by simp only [sx2, xR, sevalprocAttr] <;> (try simp) <;> (try omega)) ?_ ?_
   ·exact ⟨by omega, by simp⟩
   rintro k ⟨hk, ht⟩
   simp only [↓sx0, xE, sevalprocAttr]
   refine BrW.dec (fun hlt => ?_) (fun hlt => ?_)
   ·simp only [↓sx0, xE, sevalprocAttr]
    have hkl : k < l.length := by omega
    refine IxW.nat hkl ?_
    simp only [↓sx0, xE, sevalprocAttr]
    refine CallI.fn (brief_s l[k]) (by simp only [sx3, xR, sevalprocAttr] <;> (try simp) <;> (try rfl)) ?_
    simp only [↓sx0, xE, sevalprocAttr]
    refine BrW.of (fun hb => ?_) (fun hb => ?_)
    ·simp only [↓sx0, xE, sevalprocAttr]
     repeat ((with_reducible refine Vc.go ?_ fun _ => ?_); (focus (first | omega | (simp only [InK]; omega) | (simp [InK] <;> omega))); simp only [↓sx0, xE, sevalprocAttr])
     refine ⟨k + 1, StLe.auto (by simp only [sx2, xR, sevalprocAttr] <;> (try simp) <;> (try omega)), ?_, ?_⟩
     ·exact ⟨hkl, all_take_succ hkl ht hb⟩
     ·omega
    ·have := fewB_bad hkl hb
     rw [main hf] at this
     simp only [↓sx0, xE, sevalprocAttr]
     refine EndW.fn ?_ ?_ <;> simp only [sx4, xK, sevalprocAttr] <;> (try simp [this]) <;> (try omega)
   ·simp only [↓sx0, xE, sevalprocAttr]
    have hke : k = l.length := by omega
    subst hke
    rw [List.take_length] at ht
    refine EndW.fn ?_ ?_ <;> simp only [sx4, xK, sevalprocAttr] <;> (try simp [ht]) <;> (try omega)
 ·have hf : lenB l.length = false := by simpa using hf
  have hf2 := hf
  simp only [lenB, Bool.or_eq_false_iff, Bool.and_eq_false_iff, decide_eq_false_iff_not] at hf2
  rw [no hf]
  by_cases h8 : l.length ≤ 60
  ·repeat ((first | (with_reducible refine BrW.yes (by omega) ?_) | (with_reducible refine BrW.no (by omega) ?_)); (try simp only [↓sx0, xE, sevalprocAttr]))
   refine EndW.fn ?_ ?_ <;> simp only [sx4, xK, sevalprocAttr] <;> (try simp) <;> (try omega)
  ·repeat ((first | (with_reducible refine BrW.yes (by omega) ?_) | (with_reducible refine BrW.no (by omega) ?_)); (try simp only [↓sx0, xE, sevalprocAttr]))
   refine EndW.fn ?_ ?_ <;> simp only [sx4, xK, sevalprocAttr] <;> (try simp) <;> (try omega)
theorem brief_sz {m : Mk} (h : brB m = true) : MkSz m := by
 simp only [brB, decide_eq_true_eq] at h
 exact ⟨by omega, by omega⟩
def AllMk (l : List Mk) : Prop := ∀ m ∈ l, MkSz m
theorem few_all {l : List Mk} (h : fewB l = true) : AllMk l ∧ l.length ≤ 62 := by
 simp only [fewB, Bool.and_eq_true, List.all_eq_true] at h
 refine ⟨fun m hm => brief_sz (h.2 m hm), ?_⟩
 have := h.1
 simp only [lenB, Bool.or_eq_true, Bool.and_eq_true, decide_eq_true_eq] at this
 omega
theorem copyMarks_s (b : Bool) (l : List Mk) (hl : l.length ≤ 1000000) : Ctr Tryz.prog 15 [.sl b 7 (l.map eM)] (fun rr => rr = ⟨.sl true 7 (l.map eM), []⟩) := by
 refine Ctr.of (rs := [.tmp 2]) Tok true Tryz.func15 rfl rfl rfl rfl (by simp [ofDL]) (fun w0 kp => ?_)
 simp only [↓sx0, xE, sevalprocAttr]
 repeat ((with_reducible refine Vc.go ?_ fun _ => ?_); (focus (first | omega | (simp only [InK]; omega) | (simp [InK] <;> omega))); simp only [↓sx0, xE, sevalprocAttr])
 refine EndW.fn ?_ ?_ <;> simp only [sx4, xK, sevalprocAttr] <;> (try simp) <;> (try omega)
theorem sameM_s (b b' : Bool) (l m : List Mk) (hl : l.length ≤ 1000000000) : Ctr Tryz.prog 19 [.sl b 7 (l.map eM), .sl b' 7 (m.map eM)] (fun rr => rr = ⟨(.v (.bool (decide (l = m)))), []⟩) := by
 refine Ctr.of (rs := [.tmp 4]) Tok true Tryz.func19 rfl rfl rfl rfl (by simp [ofDL]) (fun w0 kp => ?_)
 simp only [↓sx0, xE, sevalprocAttr]
 refine BrW.dec (fun hn => ?_) (fun hn => ?_)
 ·simp only [↓sx0, xE, sevalprocAttr]
  have : ¬ l = m := fun h => hn (by rw [h])
  refine EndW.fn ?_ ?_ <;> simp only [sx4, xK, sevalprocAttr] <;> (try simp [this]) <;> (try omega)
 ·simp only [↓sx0, xE, sevalprocAttr]
  have hn2 : l.length = m.length := by omega
  refine LoopW.comp [0, 1, 5] (by simp only [sx2, xR, sevalprocAttr] <;> (try simp) <;> (try omega)) ?_
  simp only [sx2, sxR, sevalprocAttr]
  refine LoopW.up Tok (fun k : Nat => [(5, (.v (.int .i64 k)))]) (fun k => []) (fun k => []) (fun k => []) (fun k => k ≤ l.length ∧ l.take k = m.take k) (fun k => l.length - k) (0) (by simp only [sx2, xR, sevalprocAttr] <;> (try simp) <;> (try omega)) ?_ ?_
  ·exact ⟨by omega, by simp⟩
  rintro k ⟨hk, ht⟩
  simp only [↓sx0, xE, sevalprocAttr]
  refine BrW.dec (fun hlt => ?_) (fun hlt => ?_)
  ·simp only [↓sx0, xE, sevalprocAttr]
   have h1 : k < l.length := by omega
   have h2 : k < m.length := by omega
   refine DrawW.plan Tok mixed (.q 0 <| .q 1 <| .q 2 <| .q 3 <| .q 4 <| .q 5 <| .q 6 <| .q 7 <| .q 8 <| .done) (by kernel_rfl) (by kernel_rfl) ?_
   simp only [↓sx0, xE, sevalprocAttr]
   refine IxW.nat h1 ?_
   simp only [↓sx0, xE, sevalprocAttr]
   refine IxW.nat h2 ?_
   simp only [↓sx0, xE, sevalprocAttr]
   refine BrW.dec (fun hne => ?_) (fun hne => ?_)
   ·simp only [↓sx0, xE, sevalprocAttr]
    have : ¬ l = m := fun h => hne (Eq.mpr mk_eq (by subst h; rfl))
    refine EndW.fn ?_ ?_ <;> simp only [sx4, xK, sevalprocAttr] <;> (try simp [this]) <;> (try omega)
   ·simp only [↓sx0, xE, sevalprocAttr]
    have he : l[k] = m[k] := Eq.mp mk_eq (Decidable.not_not.1 hne)
    (with_reducible refine Vc.go ?_ fun _ => ?_); focus (first | omega | (simp only [InK]; omega) | (simp [InK] <;> omega))
    simp only [↓sx0, xE, sevalprocAttr]
    refine ⟨k + 1, StLe.auto (by simp only [sx2, xR, sevalprocAttr] <;> (try simp) <;> (try omega)), ?_, ?_⟩
    ·exact ⟨h1, take_eq_succ h1 h2 ht he⟩
    ·omega
  ·simp only [↓sx0, xE, sevalprocAttr]
   have hke : k = l.length := by omega
   subst hke
   rw [List.take_length, hn2, List.take_length] at ht
   refine EndW.fn ?_ ?_ <;> simp only [sx4, xK, sevalprocAttr] <;> (try simp [ht]) <;> (try omega)
/-- the error of marks. -/
def lstE : List Mk → Int
 | [] => 0
 | m :: l => if mkErr m = 0 then lstE l else mkErr m
def lstErr (l : List Mk) : Int := if 60 < l.length then 8 else lstE l
theorem lstE_drop {l : List Mk} {k : Nat} (h : k < l.length) : lstE (l.drop k) = if mkErr l[k] = 0 then lstE (l.drop (k + 1)) else mkErr l[k] := by
 rw [List.drop_eq_getElem_cons h, lstE]
theorem checkMarksR_s (b : Bool) (l : List Mk) (hz : AllMk l) (hl : l.length ≤ 1000000000) : Ctr Tryz.prog 16 [.sl b 7 (l.map eM)] (fun rr => rr = ⟨(.v (.int .i64 (lstErr l))), []⟩) := by
 refine Ctr.of (rs := [.tmp 2]) Tok true Tryz.func16 rfl rfl rfl rfl (by simp [ofDL]) (fun w0 kp => ?_)
 simp only [↓sx0, xE, sevalprocAttr]
 refine BrW.dec (fun h60 => ?_) (fun h60 => ?_)
 ·rw [show lstErr l = 8 by rw [lstErr, if_pos (by omega)]]
  simp only [↓sx0, xE, sevalprocAttr]
  refine EndW.fn ?_ ?_ <;> simp only [sx4, xK, sevalprocAttr] <;> (try simp) <;> (try omega)
 ·rw [show lstErr l = lstE l by rw [lstErr, if_neg (by omega)]]
  simp only [↓sx0, xE, sevalprocAttr]
  refine LoopW.comp [0, 3] (by simp only [sx2, xR, sevalprocAttr] <;> (try simp) <;> (try omega)) ?_
  simp only [sx2, sxR, sevalprocAttr]
  refine LoopW.up Tok (fun k : Nat => [(3, (.v (.int .i64 k)))]) (fun k => []) (fun k => []) (fun k => []) (fun k => k ≤ l.length ∧ lstE (l.drop k) = lstE l) (fun k => l.length - k) (0) (by simp only [sx2, xR, sevalprocAttr] <;> (try simp) <;> (try omega)) ?_ ?_
  ·exact ⟨by omega, rfl⟩
  rintro k ⟨hk, ht⟩
  simp only [↓sx0, xE, sevalprocAttr]
  refine BrW.dec (fun hlt => ?_) (fun hlt => ?_)
  ·simp only [↓sx0, xE, sevalprocAttr]
   have h1 : k < l.length := by omega
   have hs := lstE_drop h1
   refine IxW.nat h1 ?_
   simp only [↓sx0, xE, sevalprocAttr]
   refine CallI.fn (checkMarkR_s l[k] (hz _ (List.getElem_mem h1))) (by simp only [sx3, xR, sevalprocAttr] <;> (try simp) <;> (try rfl)) ?_
   simp only [↓sx0, xE, sevalprocAttr]
   refine BrW.dec (fun he => ?_) (fun he => ?_)
   ·rw [if_neg he] at hs
    rw [← ht, hs]
    simp only [↓sx0, xE, sevalprocAttr]
    refine EndW.fn ?_ ?_ <;> simp only [sx4, xK, sevalprocAttr] <;> (try simp) <;> (try omega)
   ·rw [if_pos (Decidable.not_not.1 he)] at hs
    simp only [↓sx0, xE, sevalprocAttr]
    repeat ((with_reducible refine Vc.go ?_ fun _ => ?_); (focus (first | omega | (simp only [InK]; omega) | (simp [InK] <;> omega))); simp only [↓sx0, xE, sevalprocAttr])
    refine ⟨k + 1, StLe.auto (by simp only [sx2, xR, sevalprocAttr] <;> (try simp) <;> (try omega)), ?_, ?_⟩
    ·exact ⟨h1, by rw [← hs, ht]⟩
    ·omega
  ·simp only [↓sx0, xE, sevalprocAttr]
   have hke : k = l.length := by omega
   subst hke
   rw [List.drop_length] at ht
   rw [← ht]
   refine EndW.fn ?_ ?_ <;> simp only [sx4, xK, sevalprocAttr] <;> (try simp [lstE]) <;> (try omega)
def eML (p : Bool × List Mk) : List D := [.sl p.1 7 (p.2.map eM)]
def lstsErr : List (Bool × List Mk) → Int
 | [] => 0
 | p :: ls => if lstErr p.2 = 0 then lstsErr ls else lstErr p.2
theorem lsts_drop {l : List (Bool × List Mk)} {k : Nat} (h : k < l.length) : lstsErr (l.drop k) = if lstErr l[k].2 = 0 then lstsErr (l.drop (k + 1)) else lstErr l[k].2 := by
 rw [List.drop_eq_getElem_cons h, lstsErr]
theorem checkMarks_s (b : Bool) (ls : List (Bool × List Mk)) (hz : ∀ p ∈ ls, AllMk p.2 ∧ p.2.length ≤ 1000000000) (hl : ls.length ≤ 1000000000) : Ctr Tryz.prog 45 [.sl b 1 (ls.map eML)] (fun rr => rr = ⟨(.v (.int .i64 (lstsErr ls))), []⟩) := by
 have encs := And.intro encs (show ∀ p, eML p = [.sl p.1 7 (p.2.map eM)] from fun _ => rfl)
 refine Ctr.of (rs := [.tmp 2]) Tok true Tryz.func45 rfl rfl rfl rfl (by simp [ofDL]) (fun w0 kp => ?_)
 simp only [↓sx0, sxE, encs, sevalprocAttr]
 refine LoopW.comp [8, 9, 10] (by simp only [sx2, encs, sxR, sevalprocAttr] <;> (try simp) <;> (try omega)) ?_
 simp only [sx2, sxR, sevalprocAttr]
 refine LoopW.up Tok (fun i : Nat => [(10, (.v (.int .i64 i)))]) (fun i => []) (fun i => []) (fun i => []) (fun i => i ≤ ls.length ∧ lstsErr (ls.drop i) = lstsErr ls) (fun i => ls.length - i) (0) (by simp only [sx2, encs, sxR, sevalprocAttr] <;> (try simp) <;> (try omega)) ?_ ?_
 ·exact ⟨by omega, rfl⟩
 rintro i ⟨hi, hI⟩
 simp only [↓sx0, sxE, encs, sevalprocAttr]
 refine BrW.dec (fun hlt => ?_) (fun hlt => ?_)
 ·simp only [↓sx0, sxE, encs, sevalprocAttr]
  have hil : i < ls.length := by omega
  obtain ⟨hz1, hl1⟩ := hz _ (List.getElem_mem hil)
  have hS := lsts_drop hil
  refine IxW.nat hil ?_
  simp only [↓sx0, sxE, encs, sevalprocAttr]
  generalize ls[i] = p at hz1 hl1 hS ⊢
  obtain ⟨pb, l⟩ := p
  simp only at hz1 hl1 hS ⊢
  refine BrW.dec (fun h60 => ?_) (fun h60 => ?_)
  ·have hE : lstErr l = 8 := by rw [lstErr, if_pos (by omega)]
   rw [hE, if_neg (by omega)] at hS
   rw [← hI, hS]
   simp only [↓sx0, sxE, encs, sevalprocAttr]
   refine EndW.fn ?_ ?_ <;> simp only [sx4, encs, kpLL_map, sxR, sevalprocAttr] <;> (try simp) <;> (try omega)
  ·have hE : lstErr l = lstE l := by rw [lstErr, if_neg (by omega)]
   rw [hE] at hS
   simp only [↓sx0, sxE, encs, sevalprocAttr]
   refine LoopW.comp [8, 9, 10, 17, 18, 19] (by simp only [sx2, encs, sxR, sevalprocAttr] <;> (try simp) <;> (try omega)) ?_
   simp only [sx2, sxR, sevalprocAttr]
   refine LoopW.up Tok (fun k : Nat => [(19, (.v (.int .i64 k)))]) (fun k => []) (fun k => []) (fun k => []) (fun k => k ≤ l.length ∧ lstE (l.drop k) = lstE l) (fun k => l.length - k) (0) (by simp only [sx2, encs, sxR, sevalprocAttr] <;> (try simp) <;> (try omega)) ?_ ?_
   ·exact ⟨by omega, rfl⟩
   rintro k ⟨hk, ht⟩
   simp only [↓sx0, sxE, encs, sevalprocAttr]
   refine BrW.dec (fun hlt2 => ?_) (fun hlt2 => ?_)
   ·simp only [↓sx0, sxE, encs, sevalprocAttr]
    have h1 : k < l.length := by omega
    have hs := lstE_drop h1
    refine IxW.nat h1 ?_
    simp only [↓sx0, sxE, encs, sevalprocAttr]
    refine CallI.fn (checkMark_s l[k] (hz1 _ (List.getElem_mem h1))) (by simp only [sx3, encs, sxR, sevalprocAttr] <;> (try simp) <;> (try rfl)) ?_
    simp only [↓sx0, sxE, encs, sevalprocAttr]
    refine BrW.dec (fun he => ?_) (fun he => ?_)
    ·rw [if_neg he] at hs
     rw [← ht, hs, if_neg he] at hS
     rw [← hI, hS]
     simp only [↓sx0, sxE, encs, sevalprocAttr]
     refine EndW.fn ?_ ?_ <;> simp only [sx4, encs, kpLL_map, sxR, sevalprocAttr] <;> (try simp) <;> (try omega)
    ·rw [if_pos (Decidable.not_not.1 he)] at hs
     simp only [↓sx0, sxE, encs, sevalprocAttr]
     repeat ((with_reducible refine Vc.go ?_ fun _ => ?_); (focus (first | omega | (simp only [InK]; omega) | (simp [InK] <;> omega))); simp only [↓sx0, sxE, encs, sevalprocAttr])
     refine ⟨k + 1, StLe.auto (by simp only [sx2, encs, sxR, sevalprocAttr] <;> (try simp) <;> (try omega)), ?_, ?_⟩
     ·exact ⟨h1, by rw [← hs, ht]⟩
     ·omega
   ·simp only [↓sx0, sxE, encs, sevalprocAttr]
    have hke : k = l.length := by omega
    subst hke
    rw [List.drop_length] at ht
    rw [← ht, if_pos (show lstE [] = 0 from rfl)] at hS
    repeat ((with_reducible refine Vc.go ?_ fun _ => ?_); (focus (first | omega | (simp only [InK]; omega) | (simp [InK] <;> omega))); simp only [↓sx0, sxE, encs, sevalprocAttr])
    refine ⟨i + 1, StLe.auto (by simp only [sx2, encs, sxR, sevalprocAttr] <;> (try simp) <;> (try omega)), ?_, ?_⟩
    ·exact ⟨hil, by rw [← hS, hI]⟩
    ·omega
 ·simp only [↓sx0, sxE, encs, sevalprocAttr]
  have hke : i = ls.length := by omega
  subst hke
  rw [List.drop_length] at hI
  rw [← hI]
  refine EndW.fn ?_ ?_ <;> simp only [sx4, encs, kpLL_map, sxR, sevalprocAttr] <;> (try simp [lstsErr]) <;> (try omega)
end Go.Proofs.YtmbemlmkfoblhaaGreatDoor
/-
 Chapter 8, walks: lines of texts, and the builder.
-/
namespace Go.Proofs.YtmbemlmkfoblhaaGreatDoor
open Go Go.Vx Go.Shelf Go.RowKit
set_option maxRecDepth 20000
def laysIdBR : Ren := ⟨fun | 137 => 78 | 217 => 99 | 266 => 132 | n => n, fun | 9 => 9 | 5 => 5 | 3 => 3 | n => n, fun n => n⟩
set_option maxRecDepth 100000 in
theorem laysIdB : Lays.n137 Tryz.prog laysIdBR := { mixed := rfl, f137 := Tryz.func78, f217 := Tryz.func99, f266 := Tryz.func132, t3 := Tryz.underlying3, a3 := Tryz.isAgg3, z3 := Tryz.sizeOf3, v3 := Tryz.zeroValue3, t5 := Tryz.underlying5, a5 := Tryz.isAgg5, z5 := Tryz.sizeOf5, v5 := Tryz.zeroValue5, t9 := Tryz.underlying9, a9 := Tryz.isAgg9, z9 := Tryz.sizeOf9, v9 := Tryz.zeroValue9 }
theorem idx_T (l : List UInt8) : Ctr Tryz.prog 78 [(.v (.string (bs l))), .v (.int .u8 10)] (fun rr => rr = ⟨(.v (.int .i64 (Lib.indexByte l 10))), []⟩) :=
 Ctr.vals (xs := [.string (bs l), .int .u8 10]) Tryz.func78 rfl rfl (u := .int .i64 (Lib.indexByte l 10)) (fun g => rfl) fun w => (Any.strings_IndexByte laysIdB (bs l) 10 w).mono fun e w' ⟨he, hw⟩ => ⟨by rw [he, bs_toList]; rfl, by rw [hw]; exact Below.refl _ _⟩
theorem wstr_s : WStr Tryz.prog 46 97 5 :=
 ⟨⟨_, Tryz.func46, rfl, rfl⟩, fun B b p v n l s w hp hb ho hn hl hB => wstr_raw (ρ := laysJoinR) { laysJoin with } xJoin B b p v n l s w hp hb ho hn hl hB⟩
theorem bstr_s : BStr Tryz.prog 47 97 5 :=
 ⟨⟨_, Tryz.func47, rfl, rfl⟩, fun B b p v l w hb ho hl => bstr_raw (ρ := laysJoinR) { laysJoin with } xJoin B b p v l w hb ho hl, fun B b p w hb => Any.Builder_String_nil (ρ := laysJoinR) { laysJoin with } xJoin B b p w hb⟩
/-- the lines of a text, each with its end. -/
def finL : List (List UInt8) → List (List UInt8)
 | [] => []
 | [l] => if l = [] then [] else [l]
 | p :: q :: ps => (p ++ [10]) :: finL (q :: ps)
def lnsL (s : List UInt8) : List (List UInt8) := finL (cutL 10 [] s)
theorem cutL_ne (c : UInt8) : ∀ (l acc : List UInt8), ∃ p ps, cutL c acc l = p :: ps
 | [], acc => ⟨_, _, rfl⟩
 | b :: l, acc => by
  rw [cutL]
  split
  ·exact ⟨_, _, rfl⟩
  ·exact cutL_ne c l _
theorem lns_hit {A B : List UInt8} (h : ¬ (10 : UInt8) ∈ A) : lnsL (A ++ 10 :: B) = (A ++ [10]) :: lnsL B := by
 obtain ⟨p, ps, hp⟩ := cutL_ne 10 B []
 rw [lnsL, cut_hit A [] B h, hp, lnsL, hp, List.nil_append, finL]
theorem lns_miss {r : List UInt8} (h : ¬ (10 : UInt8) ∈ r) (hr : r ≠ []) : lnsL r = [r] := by
 rw [lnsL, cut_miss r [] h, List.nil_append, finL, if_neg hr]
theorem lns_nil : lnsL [] = [] := rfl
def lnY (p : List UInt8) : List SV := [(.v (.string (bs p)))]
theorem lnY_def : ∀ p, lnY p = [(.v (.string (bs p)))] := fun _ => rfl
structure LS where
 O : List (List UInt8)
 r : List UInt8
set_option maxHeartbeats 4000000 in
theorem linesIt_s (s : List UInt8) (hs : s.length ≤ 1000000) : ItCtrB Tryz.prog 77 9 [(.v (.string (bs s)))] ((lnsL s).map lnY) := by
 have encs := And.intro encs lnY_def
 refine ItCtrB.of Tok Tryz.func77 rfl rfl rfl rfl (by decide) (fun w0 kp yd hok => ?_)
 simp only [↓sx0, sxE, encs, sevalprocAttr]
 skip
 refine LoopW.comp [0, 1] (by simp only [sx2, encs, sxR, sevalprocAttr] <;> (try simp) <;> (try omega)) ?_
 simp only [sx2, sxR, sevalprocAttr]
 refine LoopW.upG Tok (fun x : LS => []) (fun x => [(0, [(.v (.string (bs x.r)))])]) (fun x => []) (fun x => []) (fun x => x.O.map lnY) (fun x => lnsL s = x.O ++ lnsL x.r ∧ x.r.length ≤ s.length) (fun x => x.r.length) (⟨[], s⟩) (by simp only [sx2, encs, sxR, sevalprocAttr] <;> (try simp [lnY, encs]) <;> (try omega)) ?_ ?_
 ·exact ⟨rfl, Nat.le_refl _⟩
 rintro ⟨O, r⟩ ⟨hO, hr⟩
 simp only at hO hr
 simp only [↓sx0, sxE, encs, sevalprocAttr]
 have hsz := bs_size r
 refine BrW.dec (fun hlt => ?_) (fun hlt => ?_)
 ·simp only [↓sx0, sxE, encs, sevalprocAttr]
  have hlt : 0 < r.length := by omega
  refine CallI.fn (idx_T r) (by simp only [sx3, encs, sxR, sevalprocAttr] <;> (try simp) <;> (try rfl)) ?_
  simp only [↓sx0, sxE, encs, sevalprocAttr]
  by_cases hm : (10 : UInt8) ∈ r
  ·obtain ⟨A, B, rfl, hA⟩ := split_first hm
   rw [Go.Vx.byte_at A B hA]
   have hlen : (A ++ 10 :: B).length = A.length + 1 + B.length := by simp; omega
   refine BrW.yes (by omega) ?_
   simp only [↓sx0, sxE, encs, sevalprocAttr]
   have e1 : ∀ i j, i = 0 → j = A.length + 1 → (bs (A ++ 10 :: B)).extract i j = bs (A ++ [10]) := fun i j h1 h2 => by
    rw [show A ++ 10 :: B = [] ++ (A ++ [10]) ++ B by simp]; exact bs_ext [] (A ++ [10]) B i j h1 (by simp [h2])
   have e2 : ∀ i j, i = A.length + 1 → j = A.length + 1 + B.length → (bs (A ++ 10 :: B)).extract i j = bs B := fun i j h1 h2 => by
    rw [show A ++ 10 :: B = (A ++ [10]) ++ B ++ [] by simp]; exact bs_ext (A ++ [10]) B [] i j (by simp [h1]) (by simp [h2])
   refine DrawW.plan Tok mixed (.q 0 <| .q 1 <| .q 2 <| .q 3 <| .q 4 <| .q 5 <| .q 6 <| .q 7 <| .q 8 <| .e 9 [] <| .done) (by kernel_rfl) (by kernel_rfl) ?_
   simp only [↓sx0, sxE, encs, sevalprocAttr]
   repeat ((with_reducible refine Vc.go ?_ fun _ => ?_); (focus (first | omega | (simp only [InK]; omega) | (simp [InK] <;> omega))); simp only [↓sx0, sxE, encs, sevalprocAttr])
   rw [e1 _ _ (by omega) (by omega), e2 _ _ (by omega) (by omega)]
   have hst := lns_hit (B := B) hA
   have hpre : O.map lnY ++ [[(.v (.string (bs (A ++ [10]))))]] <+: (lnsL s).map lnY := by
    rw [hO, hst]
    exact ⟨(lnsL B).map lnY, by simp [lnY]⟩
   have hadd : (O ++ [A ++ [10]]).map lnY = O.map lnY ++ [[(.v (.string (bs (A ++ [10]))))]] := by simp [lnY]
   refine YldI.of (ys := O.map lnY) hok rfl rfl (by simp only [sx2, sxA, encs, sxR, sevalprocAttr] <;> rfl) (by simp only [sx2, sxA, encs, sxR, sevalprocAttr] <;> rfl) rfl rfl rfl (hpre) ?_ ?_
   ·simp only [↓sx0, sxE, encs, sevalprocAttr]
    repeat ((with_reducible refine Vc.go ?_ fun _ => ?_); (focus (first | omega | (simp only [InK]; omega) | (simp [InK] <;> omega))); simp only [↓sx0, sxE, encs, sevalprocAttr])
    refine ⟨⟨O ++ [A ++ [10]], B⟩, StLe.auto (by simp only [sx2, encs, sxR, sevalprocAttr] <;> (try simp [hadd, encs]) <;> (try omega)), ?_, ?_⟩
    ·exact ⟨by rw [hO, hst]; simp, by show B.length ≤ s.length; omega⟩
    ·simp only; omega
   ·simp only [↓sx0, sxE, encs, sevalprocAttr]
    intro h
    cases h
  ·rw [Go.Vx.byte_no r hm]
   refine BrW.no (by omega) ?_
   have hst := lns_miss hm (fun e => by rw [e] at hlt; simp at hlt)
   have hpre : O.map lnY ++ [[(.v (.string (bs r)))]] <+: (lnsL s).map lnY := by
    rw [hO, hst]
    exact ⟨[], by simp [lnY]⟩
   have hadd : (O ++ [r]).map lnY = O.map lnY ++ [[(.v (.string (bs r)))]] := by simp [lnY]
   simp only [↓sx0, sxE, encs, sevalprocAttr]
   repeat ((with_reducible refine Vc.go ?_ fun _ => ?_); (focus (first | omega | (simp only [InK]; omega) | (simp [InK] <;> omega))); simp only [↓sx0, sxE, encs, sevalprocAttr])
   refine YldI.of (ys := O.map lnY) hok rfl rfl (by simp only [sx2, sxA, encs, sxR, sevalprocAttr] <;> rfl) (by simp only [sx2, sxA, encs, sxR, sevalprocAttr] <;> rfl) rfl rfl rfl (hpre) ?_ ?_
   ·simp only [↓sx0, sxE, encs, sevalprocAttr]
    repeat ((with_reducible refine Vc.go ?_ fun _ => ?_); (focus (first | omega | (simp only [InK]; omega) | (simp [InK] <;> omega))); simp only [↓sx0, sxE, encs, sevalprocAttr])
    refine ⟨⟨O ++ [r], []⟩, StLe.auto (by simp only [sx2, encs, sxR, sevalprocAttr] <;> (try simp [hadd, bs_nil, encs]) <;> (try omega)), ?_, ?_⟩
    ·exact ⟨by rw [hO, hst, lns_nil]; simp, by simp⟩
    ·simp only [List.length_nil]; omega
   ·simp only [↓sx0, sxE, encs, sevalprocAttr]
    intro h
    cases h
 ·simp only [↓sx0, sxE, encs, sevalprocAttr]
  have hr0 : r = [] := List.length_eq_zero_iff.1 (by omega)
  subst hr0
  rw [lns_nil, List.append_nil] at hO
  rw [hO]
  intro _
  rfl
theorem b10 : (⟨#[10]⟩ : ByteArray) = bs [10] := rfl
theorem sz10 : (⟨#[10]⟩ : ByteArray).size = 1 := rfl
theorem hasSuf_yes (A : List UInt8) (hl : A.length ≤ 1000000) : Ctr Tryz.prog 100 [(.v (.string (bs (A ++ [10])))), (.v (.string (⟨#[10]⟩)))] (fun rr => rr = ⟨(.v (.bool (true))), []⟩) := by
 have hsz := bs_size (A ++ [10])
 have hs1 := sz10
 have hex : ∀ i j, i = A.length → j = A.length + 1 → (bs (A ++ [10])).extract i j = bs [10] := fun i j h1 h2 => by
  rw [show A ++ [10] = A ++ [10] ++ [] by simp]; exact bs_ext A [10] [] i j h1 (by simp [h2])
 simp only [List.length_append, List.length_singleton] at hsz
 refine Ctr.of (rs := [.tmp 4]) Tok true Tryz.func100 rfl rfl rfl rfl (by simp [ofDL]) (fun w0 kp => ?_)
 simp only [↓sx0, xE, sevalprocAttr]
 refine BrW.yes (by omega) ?_
 simp only [↓sx0, xE, sevalprocAttr]
 repeat ((with_reducible refine Vc.go ?_ fun _ => ?_); (focus (first | omega | (simp only [InK]; omega) | (simp [InK] <;> omega))); simp only [↓sx0, xE, sevalprocAttr])
 rw [hex _ _ (by omega) (by omega)]
 refine EndW.fn ?_ ?_ <;> simp only [sx4, xK, sevalprocAttr] <;> (try simp [b10]) <;> (try omega)
theorem hasSuf_no (r : List UInt8) (hr : r ≠ []) (hn : ¬ (10 : UInt8) ∈ r) (hl : r.length ≤ 1000000) : Ctr Tryz.prog 100 [(.v (.string (bs r))), (.v (.string (⟨#[10]⟩)))] (fun rr => rr = ⟨(.v (.bool (false))), []⟩) := by
 obtain ⟨A, x, rfl⟩ : ∃ A x, r = A ++ [x] := ⟨r.dropLast, r.getLast hr, (List.dropLast_concat_getLast hr).symm⟩
 have hsz := bs_size (A ++ [x])
 have hs1 := sz10
 have hx : ¬ x = 10 := fun e => hn (by simp [e])
 have hex : ∀ i j, i = A.length → j = A.length + 1 → (bs (A ++ [x])).extract i j = bs [x] := fun i j h1 h2 => by
  rw [show A ++ [x] = A ++ [x] ++ [] by simp]; exact bs_ext A [x] [] i j h1 (by simp [h2])
 simp only [List.length_append, List.length_singleton] at hsz hl
 have hne : ¬ bs [x] = ⟨#[10]⟩ := fun e => hx (by rw [b10, bs_inj] at e; simpa using e)
 refine Ctr.of (rs := [.tmp 4]) Tok true Tryz.func100 rfl rfl rfl rfl (by simp [ofDL]) (fun w0 kp => ?_)
 simp only [↓sx0, xE, sevalprocAttr]
 refine BrW.yes (by omega) ?_
 simp only [↓sx0, xE, sevalprocAttr]
 repeat ((with_reducible refine Vc.go ?_ fun _ => ?_); (focus (first | omega | (simp only [InK]; omega) | (simp [InK] <;> omega))); simp only [↓sx0, xE, sevalprocAttr])
 rw [hex _ _ (by omega) (by omega)]
 refine EndW.fn ?_ ?_ <;> simp only [sx4, xK, sevalprocAttr] <;> (try simp [hne]) <;> (try omega)
theorem cutSuf_yes (A : List UInt8) (hl : A.length ≤ 1000000) : Ctr Tryz.prog 49 [(.v (.string (bs (A ++ [10])))), (.v (.string (⟨#[10]⟩)))] (fun rr => rr = ⟨.tup [(.v (.string (bs A))), (.v (.bool (true)))], []⟩) := by
 have hsz := bs_size (A ++ [10])
 have hs1 := sz10
 have hex : ∀ i j, i = 0 → j = A.length → (bs (A ++ [10])).extract i j = bs A := fun i j h1 h2 => by
  rw [show A ++ [10] = [] ++ A ++ [10] by simp]; exact bs_ext [] A [10] i j h1 (by simp [h2])
 simp only [List.length_append, List.length_singleton] at hsz
 refine Ctr.of (rs := [.tmp 4, .tmp 5]) Tok true Tryz.func49 rfl rfl rfl rfl (by simp [ofDL]) (fun w0 kp => ?_)
 simp only [↓sx0, xE, sevalprocAttr]
 refine CallI.inl (rs := [.tmp 4, .tmp 5]) Tok Tryz.func79 rfl rfl rfl rfl (by simp) (fun ρ σ μ fr lp => ?_)
 simp only [↓sx0, xE, sevalprocAttr]
 refine CallI.fn (hasSuf_yes A hl) (by simp only [sx3, xR, sevalprocAttr] <;> (try simp) <;> (try rfl)) ?_
 simp only [↓sx0, xE, sevalprocAttr]
 repeat ((with_reducible refine Vc.go ?_ fun _ => ?_); (focus (first | omega | (simp only [InK]; omega) | (simp [InK] <;> omega))); simp only [↓sx0, xE, sevalprocAttr])
 rw [hex _ _ (by omega) (by omega)]
 refine EndW.fn ?_ ?_ <;> simp only [sx4, xK, sevalprocAttr] <;> (try simp) <;> (try omega)
theorem cutSuf_no (r : List UInt8) (hr : r ≠ []) (hn : ¬ (10 : UInt8) ∈ r) (hl : r.length ≤ 1000000) : Ctr Tryz.prog 49 [(.v (.string (bs r))), (.v (.string (⟨#[10]⟩)))] (fun rr => rr = ⟨.tup [(.v (.string (bs r))), (.v (.bool (false)))], []⟩) := by
 refine Ctr.of (rs := [.tmp 4, .tmp 5]) Tok true Tryz.func49 rfl rfl rfl rfl (by simp [ofDL]) (fun w0 kp => ?_)
 simp only [↓sx0, xE, sevalprocAttr]
 refine CallI.inl (rs := [.tmp 4, .tmp 5]) Tok Tryz.func79 rfl rfl rfl rfl (by simp) (fun ρ σ μ fr lp => ?_)
 simp only [↓sx0, xE, sevalprocAttr]
 refine CallI.fn (hasSuf_no r hr hn hl) (by simp only [sx3, xR, sevalprocAttr] <;> (try simp) <;> (try rfl)) ?_
 simp only [↓sx0, xE, sevalprocAttr]
 refine EndW.fn ?_ ?_ <;> simp only [sx4, xK, sevalprocAttr] <;> (try simp) <;> (try omega)
end Go.Proofs.YtmbemlmkfoblhaaGreatDoor
/-
 Chapter 8, walks: lists of marks written.
-/
namespace Go.Proofs.YtmbemlmkfoblhaaGreatDoor
open Go Go.Vx
set_option maxRecDepth 20000
theorem mkT_len {m : Mk} {c : Nat} (hI : MkI m) (hc : 40 ≤ c) (ho : m.old.size ≤ c) (hn : m.new.size ≤ c) : (mkT m).length ≤ (c + 1) * 5 := by
 have hl := join_len (mkW m) c (fun w hw => by
  obtain ⟨h1, h2, h3, h4⟩ := hI
  have l1 := itoa_len h1; have l2 := itoa_len h2; have l3 := itoa_len h3; have l4 := itoa_len h4
  have lo : m.old.data.toList.length ≤ c := ho
  have ln : m.new.data.toList.length ≤ c := hn
  have hN : ∀ j, (nmB j).data.toList.length ≤ c := fun j => Nat.le_trans (nmB_len j) (by omega)
  unfold mkW at hw
  repeat' split at hw
  all_goals (simp only [List.mem_cons, List.not_mem_nil, or_false] at hw)
  all_goals (first | (rcases hw with rfl | rfl | rfl | rfl | rfl) | (rcases hw with rfl | rfl | rfl | rfl) | (rcases hw with rfl | rfl | rfl) | exact hw.elim)
  all_goals (first | exact hN _ | exact lo | exact ln | exact Nat.le_trans l1 (by omega) | exact Nat.le_trans l2 (by omega) | exact Nat.le_trans l3 (by omega) | exact Nat.le_trans l4 (by omega)))
 have hw5 : (mkW m).length ≤ 5 := by
  unfold mkW
  repeat' split
  all_goals (simp only [List.length_cons, List.length_nil]; omega)
 exact Nat.le_trans hl (Nat.mul_le_mul_left (c + 1) hw5)
/-- the text of marks. -/
def lT : List Mk → List UInt8
 | [] => []
 | m :: l => mkT m ++ 10 :: lT l
theorem lT_app (a b : List Mk) : lT (a ++ b) = lT a ++ lT b := by
 induction a with
 | nil => rfl
 | cons m a ih => rw [List.cons_append, lT, lT, ih]; simp
theorem lT_succ {l : List Mk} {k : Nat} (h : k < l.length) : lT (l.take (k + 1)) = lT (l.take k) ++ (mkT l[k] ++ [10]) := by
 rw [List.take_succ_eq_append_getElem h, lT_app]; simp [lT]
def MkP (m : Mk) : Prop := MkI m ∧ m.old.size ≤ 1000 ∧ m.new.size ≤ 1000
theorem lT_len : ∀ {l : List Mk}, (∀ m ∈ l, MkP m) → (lT l).length ≤ 6000 * l.length
 | [], _ => by simp [lT]
 | m :: l, h => by
  have ih := lT_len (l := l) (fun x hx => h x (by simp [hx]))
  obtain ⟨h1, h2, h3⟩ := h m (by simp)
  have := mkT_len h1 (c := 1000) (by decide) h2 h3
  simp only [lT, List.length_append, List.length_cons]; omega
/-- what Print answers. -/
def prtL (l : List Mk) : ByteArray × Int := if lstErr l = 0 then (bs (lT l), 0) else (em, lstErr l)
def bldX : Nat → SV
 | 0 => .v (.pointer none)
 | _ + 1 => .box 0 0
theorem bldX_eq : bldX 0 = .v (.pointer none) ∧ (∀ k, bldX (k + 1) = .box 0 0) ∧ byE [] = [] := ⟨rfl, fun _ => rfl, rfl⟩
theorem bldX_or (k : Nat) : bldX k = .v (.pointer none) ∨ bldX k = .box 0 0 := by
 cases k
 ·exact .inl rfl
 ·exact .inr rfl
set_option maxHeartbeats 8000000 in
theorem print_s (b : Bool) (l : List Mk) (hz : AllMk l) (hP : ∀ m ∈ l, MkP m) (hl : l.length ≤ 1000) : CtrK glob Tryz.prog 14 [.sl b 7 (l.map eM)] (fun rr => rr = ⟨.tup [(.v (.string ((prtL l).1))), (.v (.int .i64 ((prtL l).2)))], []⟩) := by
 have encs := And.intro encs (And.intro (show ∀ p, eML p = [.sl p.1 7 (p.2.map eM)] from fun _ => rfl) bldX_eq)
 have hL : lstsErr [(b, l)] = lstErr l := by simp only [lstsErr]; split <;> simp_all
 have hC := checkMarks_s false [(b, l)] (by simpa using ⟨hz, by omega⟩) (by simp)
 rw [hL] at hC
 refine CtrK.of (rs := [.tmp 2, .tmp 3]) Tok true Tryz.func14 rfl rfl rfl rfl (by simp [ofDL]) (fun w0 kp hgl => ?_)
 simp only [↓sx0, sxE, encs, sevalprocAttr]
 refine CallI.fn (hC) (by simp only [sx3, encs, sxR, sevalprocAttr] <;> (try simp) <;> (try rfl)) ?_
 simp only [↓sx0, sxE, encs, sevalprocAttr]
 refine BrW.dec (fun he => ?_) (fun he => ?_)
 ·rw [show prtL l = (em, lstErr l) by rw [prtL, if_neg he]]
  simp only [↓sx0, sxE, encs, sevalprocAttr]
  refine EndW.fn ?_ ?_ <;> simp only [sx4, encs, kpLL_map, sxR, sevalprocAttr] <;> (try simp [em]) <;> (try omega)
 ·have he : lstErr l = 0 := Decidable.not_not.1 he
  rw [show prtL l = (bs (lT l), 0) by rw [prtL, if_pos he]]
  by_cases hn : l = []
  ·subst hn
   simp only [↓sx0, sxE, encs, sevalprocAttr]
   refine LoopW.comp [5, 14, 15, 16] (by simp only [sx2, encs, sxR, sevalprocAttr] <;> (try simp) <;> (try omega)) ?_
   simp only [sx2, sxR, sevalprocAttr]
   refine LoopW.up Tok (fun k : Nat => [(16, (.v (.int .i64 0)))]) (fun k => []) (fun k => []) (fun k => []) (fun k => True) (fun k => 0) (0) (by simp only [sx2, encs, sxR, sevalprocAttr] <;> (try simp) <;> (try omega)) ?_ ?_
   ·trivial
   rintro k -
   simp only [↓sx0, sxE, encs, sevalprocAttr]
   refine CallI.bstr0 bstr_s rfl ?_
   simp only [↓sx0, sxE, encs, sevalprocAttr]
   refine EndW.fn ?_ ?_ <;> simp only [sx4, encs, kpLL_map, sxR, sevalprocAttr] <;> (try simp [lT, bs]) <;> (try omega)
  ·simp only [↓sx0, sxE, encs, sevalprocAttr]
   refine LoopW.comp [5, 14, 15, 16] (by simp only [sx2, encs, sxR, sevalprocAttr] <;> (try simp) <;> (try omega)) ?_
   simp only [sx2, sxR, sevalprocAttr]
   refine LoopW.up Tok (fun k : Nat => [(16, (.v (.int .i64 ((k : Int)))))]) (fun k => [(0, [bldX k, .row 0])]) (fun k => []) (fun k => [.own 5 1 (byE (lT (l.take k)))]) (fun k => k ≤ l.length) (fun k => l.length - k) (0) (by simp only [sx2, encs, sxR, sevalprocAttr] <;> (try simp [byE, lT, encs]) <;> (try omega)) ?_ ?_
   ·omega
   rintro k hk
   simp only [↓sx0, sxE, encs, sevalprocAttr]
   refine BrW.dec (fun hlt => ?_) (fun hlt => ?_)
   ·simp only [↓sx0, sxE, encs, sevalprocAttr]
    have hkl : k < l.length := by omega
    refine IxW.nat hkl ?_
    simp only [↓sx0, sxE, encs, sevalprocAttr]
    have hPk := hP _ (List.getElem_mem hkl)
    have hT := mkT_len hPk.1 (c := 1000) (by decide) hPk.2.1 hPk.2.2
    have hTs := bs_size (mkT l[k] ++ [10])
    have hLk : (lT (l.take k)).length ≤ 6000 * 1000 := Nat.le_trans (lT_len fun m hm => hP m (List.mem_of_mem_take hm)) (Nat.mul_le_mul_left _ (by rw [List.length_take]; omega))
    have hsucc := lT_succ hkl
    simp only [List.length_append, List.length_singleton] at hTs
    refine CallI.fnK (formatMark_s l[k] hPk.1 hPk.2.1 hPk.2.2) glob_ok hgl rfl (by simp only [sx3, encs, sxR, sevalprocAttr] <;> (try simp) <;> (try rfl)) ?_
    simp only [↓sx0, sxE, encs, sevalprocAttr]
    have hTz := bs_size (mkT l[k])
    have hs1 := sz10
    repeat ((with_reducible refine Vc.go ?_ fun _ => ?_); (focus (first | omega | (simp only [InK]; omega) | (simp [InK] <;> omega))); simp only [↓sx0, sxE, encs, sevalprocAttr])
    rw [b10, bs_add]
    refine CallI.wstr wstr_s rfl (bldX_or k) rfl (by omega) ?_
    rw [bs_toList, ← hsucc]
    generalize l[k] = x at *
    simp only [↓sx0, sxE, encs, sevalprocAttr]
    repeat ((with_reducible refine Vc.go ?_ fun _ => ?_); (focus (first | omega | (simp only [InK]; omega) | (simp [InK] <;> omega))); simp only [↓sx0, sxE, encs, sevalprocAttr])
    refine ⟨k + 1, StLe.auto (by simp only [sx2, encs, sxR, sevalprocAttr] <;> (try simp) <;> (try omega)), ?_, ?_⟩
    ·omega
    ·omega
   ·simp only [↓sx0, sxE, encs, sevalprocAttr]
    have hke : k = l.length := by omega
    subst hke
    rw [List.take_length]
    refine CallI.bstr bstr_s rfl rfl (fun e => ?_) ?_
    ·cases l with
     | nil => exact hn rfl
     | cons m l => simp [lT] at e
    ·simp only [↓sx0, sxE, encs, sevalprocAttr]
     refine EndW.fn ?_ ?_ <;> simp only [sx4, encs, kpLL_map, sxR, sevalprocAttr] <;> (try simp [bs]) <;> (try omega)
end Go.Proofs.YtmbemlmkfoblhaaGreatDoor
/-
 Chapter 8, walks: lists of marks read.
-/
namespace Go.Proofs.YtmbemlmkfoblhaaGreatDoor
open Go Go.Vx
set_option maxRecDepth 20000
/-- what is read of the pieces between the ends of lines, behind marks that were read. -/
def prsL (acc : List Mk) : List (List UInt8) → List Mk × Int × Int
 | [] => (acc, 0, 0)
 | [l] => if l = [] then (if 60 < acc.length then ([], 0, 8) else (acc, 0, 0)) else ([], (acc.length : Int) + 1, 7)
 | p :: q :: ps => if (prsM nuR p).2 = 0 then prsL (acc ++ [(prsM nuR p).1]) (q :: ps) else ([], (acc.length : Int) + 1, (prsM nuR p).2)
/-- what Parse answers. -/
def parL (s : List UInt8) : List Mk × Int × Int := if 60000 < s.length then ([], 0, 8) else prsL [] (cutL 10 [] s)
theorem finL_get : ∀ {ps : List (List UInt8)} {n : Nat} {x : List UInt8}, (finL ps)[n]? = some x → ∃ p rest, ps.drop n = p :: rest ∧ ((rest = [] ∧ p ≠ [] ∧ x = p) ∨ (∃ q qs, rest = q :: qs ∧ x = p ++ [10]))
 | [], n, x, h => by simp [finL] at h
 | [l], n, x, h => by
  rw [finL] at h
  split at h
  ·simp at h
  ·rename_i hl
   cases n with
   | zero => simp at h; subst h; exact ⟨l, [], rfl, .inl ⟨rfl, hl, rfl⟩⟩
   | succ n => simp at h
 | p :: q :: ps, 0, x, h => by
  rw [finL] at h
  simp at h
  exact ⟨p, q :: ps, rfl, .inr ⟨q, ps, rfl, h.symm⟩⟩
 | p :: q :: ps, n + 1, x, h => by
  rw [finL] at h
  exact finL_get (ps := q :: ps) (n := n) (by simpa using h)
theorem finL_end : ∀ {ps : List (List UInt8)}, (finL ps).length < ps.length → ps.drop (finL ps).length = [[]]
 | [], h => by simp at h
 | [l], h => by
  by_cases hl : l = []
  ·subst hl; rfl
  ·rw [finL, if_neg hl] at h; simp at h
 | p :: q :: ps, h => by
  rw [finL] at h ⊢
  simp only [List.length_cons] at h ⊢
  exact finL_end (ps := q :: ps) (by simpa using h)
theorem cutL_not {c : UInt8} : ∀ {l acc w : List UInt8}, ¬ c ∈ acc → w ∈ cutL c acc l → ¬ c ∈ w
 | [], acc, w, ha, h => by
  simp only [cutL, List.mem_singleton] at h
  rw [h]; exact ha
 | b :: l, acc, w, ha, h => by
  rw [cutL] at h
  split at h
  ·rcases List.mem_cons.1 h with rfl | h
   ·exact ha
   ·exact cutL_not (by simp) h
  ·rename_i hb
   exact cutL_not (fun e => by
    rcases List.mem_append.1 e with e | e
    ·exact ha e
    ·simp at e; exact hb e.symm) h
def accN (ps : List (List UInt8)) (n : Nat) : List Mk := (ps.take n).map fun p => (prsM nuR p).1
theorem accN_len {ps : List (List UInt8)} {n : Nat} (h : n ≤ ps.length) : (accN ps n).length = n := by simp [accN]; omega
theorem accN_succ {ps : List (List UInt8)} {n : Nat} {p : List UInt8} {r : List (List UInt8)} (h : ps.drop n = p :: r) : accN ps (n + 1) = accN ps n ++ [(prsM nuR p).1] := by
 have hn : n < ps.length := by
  have := congrArg List.length h
  simp at this; omega
 have hp : ps[n] = p := by
  have := List.drop_eq_getElem_cons hn
  rw [h] at this; exact (List.cons.inj this).1.symm
 rw [accN, List.take_succ_eq_append_getElem hn, List.map_append, hp]; rfl
/-- so many lines were right. -/
def JL (ps : List (List UInt8)) (n : Nat) : Prop := n < ps.length ∧ prsL [] ps = prsL (accN ps n) (ps.drop n)
set_option maxHeartbeats 16000000 in
theorem parse_s (s : List UInt8) (hs : (s.length ≤ 60000 ∧ ∀ w ∈ cutL 10 [] s, w.length ≤ 1000) ∨ 60000 < s.length ∧ s.length ≤ 1000000) : CtrK glob Tryz.prog 17 [(.v (.string (bs s)))] (fun rr => rr = ⟨.tup [.sl true 7 ((parL s).1.map eM), (.v (.int .i64 ((parL s).2.1))), (.v (.int .i64 ((parL s).2.2)))], []⟩) := by
 have hsz := bs_size s
 have encs := And.intro encs lnY_def
 refine CtrK.of (rs := [.cell 2 35, .cell 3 3, .cell 4 27]) Tok true Tryz.func17 rfl rfl rfl rfl (by simp [ofDL]) (fun w0 kp hgl => ?_)
 simp only [↓sx0, sxE, encs, sevalprocAttr]
 refine BrW.dec (fun hbig => ?_) (fun hbig => ?_)
 ·rw [show parL s = ([], 0, 8) by rw [parL, if_pos (by omega)]]
  simp only [↓sx0, sxE, encs, sevalprocAttr]
  refine EndW.fn ?_ ?_ <;> simp only [sx4, encs, kpLL_map, sxR, sevalprocAttr] <;> (try simp) <;> (try omega)
 ·have hs : s.length ≤ 60000 ∧ ∀ w ∈ cutL 10 [] s, w.length ≤ 1000 := by
   rcases hs with hs | hs
   ·exact hs
   ·omega
  obtain ⟨hs, hs2⟩ := hs
  rw [show parL s = prsL [] (cutL 10 [] s) by rw [parL, if_neg (by omega)]]
  simp only [↓sx0, sxE, encs, sevalprocAttr]
  refine CallI.inl (rs := [.tmp 2]) Tok Tryz.func48 rfl rfl rfl rfl (by simp) (fun ρ σ μ fr lp => ?_)
  simp only [↓sx0, sxE, encs, sevalprocAttr]
  have hps : ∃ ps, ps = cutL 10 [] s := ⟨_, rfl⟩
  obtain ⟨ps, hps⟩ := hps
  have hit := linesIt_s s (by omega)
  have hln : ∀ w ∈ ps, w.length ≤ 1000 ∧ ¬ (10 : UInt8) ∈ w := fun w hw => by
   rw [hps] at hw
   exact ⟨hs2 w hw, cutL_not (by simp) hw⟩
  have hlns : lnsL s = finL ps := by rw [lnsL, hps]
  have hpl : ps.length ≤ s.length + 1 := by rw [hps, cutL_len]; have := List.count_le_length (a := (10 : UInt8)) (l := s); omega
  have hpn : 0 < ps.length := by rw [hps, cutL_len]; omega
  rw [← hps]
  rw [hlns] at hit
  have encs := And.intro encs (And.intro sxFb (show accN ps 0 = [] from rfl))
  refine RangeW.itB rfl Tok (fun _ => rfl) (fun hro => by first | rfl | exact (by rw [hro] at *; contradiction)) hit [(2, .box 0 0), (3, .box 1 0), (4, .box 2 0), (5, .box 3 0), (15, .clo 77 [.box 4 0])]
   [some ⟨35, [.v (.slice none 0 0)]⟩, some ⟨3, [(.v (.int .i64 0))]⟩, some ⟨27, [(.v (.int .i64 0))]⟩, some ⟨35, [.row 0]⟩, some ⟨9, [(.v (.string (bs s)))]⟩]
   (fun _ => [some ⟨35, [.v (.slice none 0 0)]⟩, some ⟨3, [(.v (.int .i64 0))]⟩, some ⟨27, [(.v (.int .i64 0))]⟩, some ⟨35, [.row 0]⟩, none])
   (fun ys => [.own 23 7 ((accN ps ys.length).map eM)]) (fun ys => JL ps ys.length) ⟨hpn, rfl⟩ (by simp only [sx2, encs, sxR, sevalprocAttr] <;> (try simp) <;> (try omega)) rfl rfl rfl rfl (by simp [lnY]) ?_ (fun hJall => ?_)
  ·rintro pre d hpre ⟨hn, hJ⟩ ρ σ μ ho' hy hs'
   obtain ⟨yd', ro, mks, fr, lp, sz⟩ := ho'
   obtain ⟨q, hq⟩ := hpre
   have hget : ((finL ps).map lnY)[pre.length]? = some d := by rw [← hq]; simp
   rw [List.getElem?_map] at hget
   obtain ⟨x, hx, rfl⟩ := Option.map_eq_some_iff.1 hget
   obtain ⟨p, rest, hdr, hc⟩ := finL_get hx
   have hlen : (pre ++ [lnY x]).length = pre.length + 1 := by simp
   rw [hlen, accN_succ hdr]
   have hacc := accN_len (n := pre.length) (ps := ps) (by omega)
   have hpm : p ∈ ps := List.mem_of_mem_drop (i := pre.length) (by rw [hdr]; simp)
   obtain ⟨hp1, hp2⟩ := hln p hpm
   rw [hdr] at hJ
   have hsuc := accN_succ hdr
   have cP := parseMark_s p (by omega)
   rw [prsM_same] at cP
   generalize accN ps pre.length = acc at *
   rcases hc with ⟨rfl, hpne, rfl⟩ | ⟨q', qs, rfl, rfl⟩
   ·rw [hJ, prsL, if_neg hpne]
    rw [lnY_def]
    simp only [↓sx0, sxE, encs, sevalprocAttr]
    intro fr' hfr
    refine CallI.fn (cutSuf_no x hpne hp2 (by omega)) (by simp only [sx3, encs, sxR, sevalprocAttr] <;> (try simp) <;> (try rfl)) ?_
    simp only [↓sx0, sxE, encs, sevalprocAttr]
    refine CallI.fnKI (cP) glob_ok hgl rfl hfr (by simp only [sx3, encs, sxR, sevalprocAttr] <;> (try simp) <;> (try rfl)) ?_
    simp only [↓sx0, sxE, encs, sevalprocAttr]
    refine DrawW.plan Tok mixed (.q 0 <| .q 1 <| .q 2 <| .q 3 <| .e 4 [0] <| .e 5 [] <| .e 6 [] <| .done) (by kernel_rfl) (by kernel_rfl) ?_
    simp only [↓sx0, sxE, encs, sevalprocAttr]
    repeat ((with_reducible refine Vc.go ?_ fun _ => ?_); (focus (first | omega | (simp only [InK]; omega) | (simp [InK] <;> omega))); simp only [↓sx0, sxE, encs, sevalprocAttr])
    rw [hacc]
    refine EndW.fn ?_ ?_ <;> simp only [sx4, encs, kpLL_map, sxR, sevalprocAttr] <;> (try simp) <;> (try omega)
   ·rw [lnY_def]
    simp only [↓sx0, sxE, encs, sevalprocAttr]
    intro fr' hfr
    refine CallI.fn (cutSuf_yes p (by omega)) (by simp only [sx3, encs, sxR, sevalprocAttr] <;> (try simp) <;> (try rfl)) ?_
    simp only [↓sx0, sxE, encs, sevalprocAttr]
    refine CallI.fnKI (cP) glob_ok hgl rfl hfr (by simp only [sx3, encs, sxR, sevalprocAttr] <;> (try simp) <;> (try rfl)) ?_
    simp only [↓sx0, sxE, encs, sevalprocAttr]
    refine BrW.dec (fun he => ?_) (fun he => ?_)
    ·rw [hJ, prsL, if_neg he, hacc]
     simp only [↓sx0, sxE, encs, sevalprocAttr]
     refine DrawW.plan Tok mixed (.q 0 <| .q 1 <| .q 2 <| .q 3 <| .e 4 [0] <| .e 5 [] <| .e 6 [] <| .done) (by kernel_rfl) (by kernel_rfl) ?_
     simp only [↓sx0, sxE, encs, sevalprocAttr]
     repeat ((with_reducible refine Vc.go ?_ fun _ => ?_); (focus (first | omega | (simp only [InK]; omega) | (simp [InK] <;> omega))); simp only [↓sx0, sxE, encs, sevalprocAttr])
     refine EndW.fn ?_ ?_ <;> simp only [sx4, encs, kpLL_map, sxR, sevalprocAttr] <;> (try simp) <;> (try omega)
    ·simp only [↓sx0, sxE, encs, sevalprocAttr]
     repeat ((with_reducible refine Vc.go ?_ fun _ => ?_); (focus (first | omega | (simp only [InK]; omega) | (simp [InK] <;> omega))); simp only [↓sx0, sxE, encs, sevalprocAttr])
     refine ⟨⟨?_, ?_⟩, ?_⟩
     ·have := congrArg List.length hdr
      simp at this; omega
     ·rw [hJ, prsL, if_pos (Decidable.not_not.1 he), ← List.drop_drop, hdr, hsuc]
      rfl
     ·simp only [sx2, encs, sxR, sevalprocAttr] <;> (try simp) <;> (try omega)
      rfl
  ·obtain ⟨hn, hJ⟩ := hJall
   rw [List.length_map] at hn hJ
   rw [finL_end hn, prsL, if_pos rfl, accN_len (by omega)] at hJ
   have hal := accN_len (n := (finL ps).length) (ps := ps) (by omega)
   rw [hJ, List.length_map]
   simp only [↓sx0, sxE, encs, sevalprocAttr]
   rw [hal]
   refine BrW.dec (fun hb => ?_) (fun hb => ?_)
   ·rw [if_pos (by omega)]
    simp only [↓sx0, sxE, encs, sevalprocAttr]
    refine EndW.fn ?_ ?_ <;> simp only [sx4, encs, kpLL_map, sxR, sevalprocAttr] <;> (try simp) <;> (try omega)
   ·rw [if_neg (by omega)]
    simp only [↓sx0, sxE, encs, sevalprocAttr]
    refine EndW.fn ?_ ?_ <;> simp only [sx4, encs, kpLL_map, sxR, sevalprocAttr] <;> (try simp) <;> (try omega)
end Go.Proofs.YtmbemlmkfoblhaaGreatDoor
/-
 Chapter 8, walks: lists of marks written and read (reference).
-/
namespace Go.Proofs.YtmbemlmkfoblhaaGreatDoor
open Go Go.Vx
set_option maxRecDepth 20000
set_option maxHeartbeats 8000000 in
theorem printR_s (b : Bool) (l : List Mk) (hP : ∀ m ∈ l, MkP m) (hl : l.length ≤ 1000) : CtrK glob Tryz.prog 18 [.sl b 7 (l.map eM)] (fun rr => rr = ⟨(.v (.string (bs (lT l)))), []⟩) := by
 have encs := And.intro encs (show bs (lT []) = ⟨#[]⟩ from rfl)
 refine CtrK.of (rs := [.tmp 2]) Tok true Tryz.func18 rfl rfl rfl rfl (by simp [ofDL]) (fun w0 kp hgl => ?_)
 simp only [↓sx0, sxE, encs, sevalprocAttr]
 refine LoopW.comp [0, 3, 4] (by simp only [sx2, encs, sxR, sevalprocAttr] <;> (try simp) <;> (try omega)) ?_
 simp only [sx2, sxR, sevalprocAttr]
 refine LoopW.up Tok (fun k : Nat => [(3, (.v (.string (bs (lT (l.take k)))))), (4, (.v (.int .i64 ((k : Int)))))]) (fun k => []) (fun k => []) (fun k => []) (fun k => k ≤ l.length) (fun k => l.length - k) (0) (by simp only [sx2, encs, sxR, sevalprocAttr] <;> (try simp [lT, bs, encs]) <;> (try omega)) ?_ ?_
 ·omega
 rintro k hk
 simp only [↓sx0, sxE, encs, sevalprocAttr]
 refine BrW.dec (fun hlt => ?_) (fun hlt => ?_)
 ·simp only [↓sx0, sxE, encs, sevalprocAttr]
  have hkl : k < l.length := by omega
  refine IxW.nat hkl ?_
  have hPk := hP _ (List.getElem_mem hkl)
  have hT := mkT_len hPk.1 (c := 1000) (by decide) hPk.2.1 hPk.2.2
  have hLk : (lT (l.take k)).length ≤ 6000 * 1000 := Nat.le_trans (lT_len fun m hm => hP m (List.mem_of_mem_take hm)) (Nat.mul_le_mul_left _ (by rw [List.length_take]; omega))
  have hsucc := lT_succ hkl
  have z1 := bs_size (mkT l[k])
  have z2 := bs_size (lT (l.take k))
  have z3 := bs_size (lT (l.take k) ++ mkT l[k])
  have z4 := sz10
  simp only [List.length_append] at z3
  simp only [↓sx0, sxE, encs, sevalprocAttr]
  refine CallI.fnK (formatMark_R l[k] hPk.1 hPk.2.1 hPk.2.2) glob_ok hgl rfl (by simp only [sx3, encs, sxR, sevalprocAttr] <;> (try simp) <;> (try rfl)) ?_
  simp only [↓sx0, sxE, encs, sevalprocAttr]
  repeat ((with_reducible refine Vc.go ?_ fun _ => ?_); (focus (first | omega | (simp only [InK]; omega) | (simp [InK] <;> omega))); simp only [↓sx0, sxE, encs, sevalprocAttr])
  rw [bs_add]
  repeat ((with_reducible refine Vc.go ?_ fun _ => ?_); (focus (first | omega | (simp only [InK]; omega) | (simp [InK] <;> omega))); simp only [↓sx0, sxE, encs, sevalprocAttr])
  rw [b10, bs_add, List.append_assoc, ← hsucc]
  repeat ((with_reducible refine Vc.go ?_ fun _ => ?_); (focus (first | omega | (simp only [InK]; omega) | (simp [InK] <;> omega))); simp only [↓sx0, sxE, encs, sevalprocAttr])
  refine ⟨k + 1, StLe.auto (by simp only [sx2, encs, sxR, sevalprocAttr] <;> (try simp) <;> (try omega)), ?_, ?_⟩
  ·omega
  ·omega
 ·simp only [↓sx0, sxE, encs, sevalprocAttr]
  have hke : k = l.length := by omega
  subst hke
  rw [List.take_length]
  refine EndW.fn ?_ ?_ <;> simp only [sx4, encs, kpLL_map, sxR, sevalprocAttr] <;> (try simp) <;> (try omega)
theorem drop_last {ps : List (List UInt8)} {i : Nat} (h : i < ps.length) : ps.drop i = ps[i] :: ps.drop (i + 1) := List.drop_eq_getElem_cons h
set_option maxHeartbeats 16000000 in
theorem parseR_s (s : List UInt8) (hs : (s.length ≤ 60000 ∧ ∀ w ∈ cutL 10 [] s, w.length ≤ 1000) ∨ 60000 < s.length ∧ s.length ≤ 1000000) : CtrK glob Tryz.prog 20 [(.v (.string (bs s)))] (fun rr => rr = ⟨.tup [.sl true 7 ((parL s).1.map eM), (.v (.int .i64 ((parL s).2.1))), (.v (.int .i64 ((parL s).2.2)))], []⟩) := by
 have hsz := bs_size s
 refine CtrK.of (rs := [.tmp 2, .tmp 3, .tmp 4]) Tok true Tryz.func20 rfl rfl rfl rfl (by simp [ofDL]) (fun w0 kp hgl => ?_)
 simp only [↓sx0, sxE, encs, sevalprocAttr]
 refine BrW.dec (fun hbig => ?_) (fun hbig => ?_)
 ·rw [show parL s = ([], 0, 8) by rw [parL, if_pos (by omega)]]
  simp only [↓sx0, sxE, encs, sevalprocAttr]
  refine EndW.fn ?_ ?_ <;> simp only [sx4, encs, kpLL_map, sxR, sevalprocAttr] <;> (try simp) <;> (try omega)
 ·have hs : s.length ≤ 60000 ∧ ∀ w ∈ cutL 10 [] s, w.length ≤ 1000 := by
   rcases hs with hs | hs
   ·exact hs
   ·omega
  obtain ⟨hs, hs2⟩ := hs
  rw [show parL s = prsL [] (cutL 10 [] s) by rw [parL, if_neg (by omega)]]
  obtain ⟨ps, hps⟩ : ∃ ps, ps = cutL 10 [] s := ⟨_, rfl⟩
  have hcut := cut_R s 10 (by omega)
  have hln : ∀ w ∈ ps, w.length ≤ 1000 := fun w hw => by
   rw [hps] at hw
   exact hs2 w hw
  have hpl : ps.length ≤ s.length + 1 := by rw [hps, cutL_len]; have := List.count_le_length (a := (10 : UInt8)) (l := s); omega
  have hpn : 0 < ps.length := by rw [hps, cutL_len]; omega
  rw [← hps] at hcut ⊢
  have encs := And.intro encs (And.intro eW_def (show accN ps 0 = [] from rfl))
  simp only [↓sx0, sxE, encs, sevalprocAttr]
  refine CallI.fn (hcut) (by simp only [sx3, encs, sxR, sevalprocAttr] <;> (try simp) <;> (try rfl)) ?_
  simp only [↓sx0, sxE, encs, sevalprocAttr]
  refine LoopW.comp [5, 6, 7] (by simp only [sx2, encs, sxR, sevalprocAttr] <;> (try simp) <;> (try omega)) ?_
  simp only [sx2, sxR, sevalprocAttr]
  refine LoopW.up Tok (fun i : Nat => [(6, .row 0), (7, (.v (.int .i64 ((i : Int)))))]) (fun i => []) (fun i => []) (fun i => [.own 23 7 ((accN ps i).map eM)]) (fun i => JL ps i) (fun i => ps.length - i) (0) (by simp only [sx2, encs, sxR, sevalprocAttr] <;> (try simp [accN, encs]) <;> (try omega)) ?_ ?_
  ·exact ⟨hpn, rfl⟩
  rintro i ⟨hi, hJ⟩
  have hacc := accN_len (n := i) (ps := ps) (by omega)
  have hdr := drop_last hi
  have hsuc := accN_succ hdr
  have hpm := hln _ (List.getElem_mem hi)
  rw [hdr] at hJ
  simp only [↓sx0, sxE, encs, sevalprocAttr]
  refine BrW.yes (by omega) ?_
  simp only [↓sx0, sxE, encs, sevalprocAttr]
  repeat ((with_reducible refine Vc.go ?_ fun _ => ?_); (focus (first | omega | (simp only [InK]; omega) | (simp [InK] <;> omega))); simp only [↓sx0, sxE, encs, sevalprocAttr])
  refine BrW.dec (fun hla => ?_) (fun hla => ?_)
  ·rw [List.drop_eq_nil_of_le (by omega)] at hJ
   simp only [↓sx0, sxE, encs, sevalprocAttr]
   refine IxW.nat hi ?_
   simp only [↓sx0, sxE, encs, sevalprocAttr]
   refine BrW.dec (fun hem => ?_) (fun hem => ?_)
   ·have hne : ps[i] ≠ [] := fun e => hem (by rw [e]; rfl)
    rw [hJ, prsL, if_neg hne, hacc]
    simp only [↓sx0, sxE, encs, sevalprocAttr]
    repeat ((with_reducible refine Vc.go ?_ fun _ => ?_); (focus (first | omega | (simp only [InK]; omega) | (simp [InK] <;> omega))); simp only [↓sx0, sxE, encs, sevalprocAttr])
    refine EndW.fn ?_ ?_ <;> simp only [sx4, encs, kpLL_map, sxR, sevalprocAttr] <;> (try simp) <;> (try omega)
   ·have hem : ps[i] = [] := by
     have := Decidable.not_not.1 hem
     rw [show (⟨#[]⟩ : ByteArray) = bs [] from rfl, bs_inj] at this; exact this
    rw [hJ, prsL, if_pos hem, hacc]
    simp only [↓sx0, sxE, encs, sevalprocAttr]
    rw [hacc]
    refine BrW.dec (fun h60 => ?_) (fun h60 => ?_)
    ·rw [if_pos (by omega)]
     simp only [↓sx0, sxE, encs, sevalprocAttr]
     refine EndW.fn ?_ ?_ <;> simp only [sx4, encs, kpLL_map, sxR, sevalprocAttr] <;> (try simp) <;> (try omega)
    ·rw [if_neg (by omega)]
     simp only [↓sx0, sxE, encs, sevalprocAttr]
     refine EndW.fn ?_ ?_ <;> simp only [sx4, encs, kpLL_map, sxR, sevalprocAttr] <;> (try simp) <;> (try omega)
  ·obtain ⟨q, qs, hq⟩ : ∃ q qs, ps.drop (i + 1) = q :: qs := ⟨_, _, drop_last (by omega)⟩
   have cP := parseMark_R ps[i] (by omega)
   rw [hq, prsL] at hJ
   simp only [↓sx0, sxE, encs, sevalprocAttr]
   refine IxW.nat hi ?_
   simp only [↓sx0, sxE, encs, sevalprocAttr]
   refine CallI.fnK (cP) glob_ok hgl rfl (by simp only [sx3, encs, sxR, sevalprocAttr] <;> (try simp) <;> (try rfl)) ?_
   simp only [↓sx0, sxE, encs, sevalprocAttr]
   refine BrW.dec (fun he => ?_) (fun he => ?_)
   ·rw [if_neg he] at hJ
    rw [hJ, hacc]
    simp only [↓sx0, sxE, encs, sevalprocAttr]
    repeat ((with_reducible refine Vc.go ?_ fun _ => ?_); (focus (first | omega | (simp only [InK]; omega) | (simp [InK] <;> omega))); simp only [↓sx0, sxE, encs, sevalprocAttr])
    refine EndW.fn ?_ ?_ <;> simp only [sx4, encs, kpLL_map, sxR, sevalprocAttr] <;> (try simp) <;> (try omega)
   ·rw [if_pos (Decidable.not_not.1 he)] at hJ
    simp only [↓sx0, sxE, encs, sevalprocAttr]
    repeat ((with_reducible refine Vc.go ?_ fun _ => ?_); (focus (first | omega | (simp only [InK]; omega) | (simp [InK] <;> omega))); simp only [↓sx0, sxE, encs, sevalprocAttr])
    refine ⟨i + 1, StLe.auto (by simp only [sx2, encs, sxR, sevalprocAttr] <;> (try simp [hsuc, encs]) <;> (try omega)), ?_, ?_⟩
    ·exact ⟨by omega, by rw [hJ, hsuc, hq]⟩
    ·omega
end Go.Proofs.YtmbemlmkfoblhaaGreatDoor
/-
 Chapter 8: lists of marks are read back.
-/
namespace Go.Proofs.YtmbemlmkfoblhaaGreatDoor
open Go Go.Vx
theorem mk_no {m : Mk} (h : mkErr m = 0) : ¬ (10 : UInt8) ∈ mkT m := fun hc => by
 have h1 := mk_back h
 unfold prsM at h1
 rw [if_pos hc] at h1
 exact absurd (congrArg Prod.snd h1) (by simp)
theorem cut_lT : ∀ {l : List Mk}, (∀ m ∈ l, mkErr m = 0) → cutL 10 [] (lT l) = l.map mkT ++ [[]]
 | [], _ => rfl
 | m :: l, h => by
  rw [lT, cut_hit (mkT m) [] (lT l) (mk_no (h m (by simp))), cut_lT fun x hx => h x (List.mem_cons_of_mem _ hx)]
  rfl
theorem prsL_back : ∀ (l acc : List Mk), (∀ m ∈ l, mkErr m = 0) → prsL acc (l.map mkT ++ [[]]) = if 60 < (acc ++ l).length then ([], 0, 8) else (acc ++ l, 0, 0)
 | [], acc, _ => by rw [List.append_nil]; rfl
 | m :: l, acc, h => by
  have h1 := mk_back (h m (by simp))
  obtain ⟨q, qs, hq⟩ : ∃ q qs, l.map mkT ++ [[]] = q :: qs := by
   cases l with
   | nil => exact ⟨_, _, rfl⟩
   | cons x l => exact ⟨_, _, rfl⟩
  have ih := prsL_back l (acc ++ [m]) fun x hx => h x (List.mem_cons_of_mem _ hx)
  rw [hq] at ih
  rw [List.map_cons, List.cons_append, hq, prsL, h1, if_pos rfl]
  simp only
  rw [ih]
  simp
theorem lstE_all : ∀ {l : List Mk}, lstE l = 0 → ∀ m ∈ l, mkErr m = 0
 | [], _, m, hm => by simp at hm
 | x :: l, h, m, hm => by
  rw [lstE] at h
  split at h
  ·rename_i hx
   rcases List.mem_cons.1 hm with rfl | hm
   ·exact hx
   ·exact lstE_all h m hm
  ·rename_i hx; exact absurd h hx
theorem lT_len40 : ∀ {l : List Mk}, (∀ m ∈ l, MkI m ∧ m.old.size ≤ 40 ∧ m.new.size ≤ 40) → (lT l).length ≤ 206 * l.length
 | [], _ => by simp [lT]
 | m :: l, h => by
  have ih := lT_len40 (l := l) (fun x hx => h x (by simp [hx]))
  obtain ⟨h1, h2, h3⟩ := h m (by simp)
  have := mkT_len h1 (c := 40) (by decide) h2 h3
  simp only [lT, List.length_append, List.length_cons]; omega
theorem par_back {l : List Mk} (h : lstErr l = 0) (hb : ∀ m ∈ l, MkI m ∧ m.old.size ≤ 40 ∧ m.new.size ≤ 40) : parL (lT l) = (l, 0, 0) ∧ (lT l).length ≤ 60000 ∧ ∀ w ∈ cutL 10 [] (lT l), w.length ≤ 1000 := by
 have hlen : l.length ≤ 60 := by
  unfold lstErr at h
  split at h
  ·omega
  ·omega
 have hall : ∀ m ∈ l, mkErr m = 0 := lstE_all (by
  unfold lstErr at h
  rw [if_neg (by omega)] at h; exact h)
 have hL := lT_len40 hb
 refine ⟨?_, by omega, fun w hw => ?_⟩
 ·rw [parL, if_neg (by omega), cut_lT hall, prsL_back l [] hall, if_neg (by simpa using hlen)]; rfl
 ·rw [cut_lT hall] at hw
  rcases List.mem_append.1 hw with hw | hw
  ·obtain ⟨m, hm, rfl⟩ := List.mem_map.1 hw
   obtain ⟨h1, h2, h3⟩ := hb m hm
   have := mkT_len h1 (c := 40) (by decide) h2 h3
   omega
  ·simp at hw; subst hw; simp
theorem prsL_len : ∀ (ps : List (List UInt8)) (acc : List Mk), (prsL acc ps).1.length ≤ acc.length + ps.length
 | [], acc => by simp [prsL]
 | [l], acc => by
  rw [prsL]
  repeat' split
  all_goals simp
 | p :: q :: ps, acc => by
  rw [prsL]
  split
  ·have := prsL_len (q :: ps) (acc ++ [(prsM nuR p).1])
   simp only [List.length_append, List.length_cons, List.length_nil] at this ⊢; omega
  ·simp
theorem parL_len (s : List UInt8) : (parL s).1.length ≤ s.length + 1 := by
 rw [parL]
 split
 ·simp
 ·have h1 := prsL_len (cutL 10 [] s) []
  have h2 := List.count_le_length (a := (10 : UInt8)) (l := s)
  rw [cutL_len] at h1
  simp at h1; omega
end Go.Proofs.YtmbemlmkfoblhaaGreatDoor
/-
 Chapter 8: the law of lists of marks written and read.
-/
namespace Go.Proofs.YtmbemlmkfoblhaaGreatDoor
open Go Go.Vx
set_option maxRecDepth 20000
set_option maxHeartbeats 16000000 in
theorem listsLaw_s (l : List Mk) (s : ByteArray) (hI : ∀ m ∈ l, MkI m) (hl : l.length ≤ maxLen) : CtrK glob Tryz.prog 4 [.sl true 7 (l.map eM), (.v (.string (s)))] (fun rr => rr = ⟨(.v (.bool (true))), []⟩) := by
 have hmx : maxLen = 9223372036854775807 := rfl
 refine CtrK.of (rs := [.tmp 4]) Tok true Tryz.func4 rfl rfl rfl rfl (by simp [ofDL]) (fun w0 kp hgl => ?_)
 simp only [↓sx0, xE, sevalprocAttr]
 refine CallI.fn (awake_s) (by simp only [sx3, xR, sevalprocAttr] <;> (try simp) <;> (try rfl)) ?_
 simp only [↓sx0, xE, sevalprocAttr]
 refine CallI.fn (few_s true l hl) (by simp only [sx3, xR, sevalprocAttr] <;> (try simp) <;> (try rfl)) ?_
 simp only [↓sx0, xE, sevalprocAttr]
 by_cases hf : fewB l = true
 ·rw [hf]
  obtain ⟨hz, hl62⟩ := few_all hf
  have hb : ∀ m ∈ l, MkI m ∧ m.old.size ≤ 40 ∧ m.new.size ≤ 40 := fun m hm => by
   have h1 := hf
   simp only [fewB, Bool.and_eq_true, List.all_eq_true] at h1
   have h2 := h1.2 m hm
   simp only [brB, decide_eq_true_eq] at h2
   exact ⟨hI m hm, h2⟩
  have hP : ∀ m ∈ l, MkP m := fun m hm => by
   obtain ⟨h1, h2, h3⟩ := hb m hm
   exact ⟨h1, by omega, by omega⟩
  by_cases hsz : s.size ≤ 600 ∨ (60000 < s.size ∧ s.size ≤ 60050)
  ·have hbs : s = bs s.data.toList := (bs_data s).symm
   have hll : s.data.toList.length = s.size := rfl
   generalize hw : s.data.toList = w at hbs hll
   subst hbs
   have hzz := bs_size w
   have hpar : (w.length ≤ 60000 ∧ ∀ x ∈ cutL 10 [] w, x.length ≤ 1000) ∨ 60000 < w.length ∧ w.length ≤ 1000000 := by
    rcases hsz with h | h
    ·exact .inl ⟨by omega, fun x hx => by have := cutL_mem 10 w [] x hx; simp at this; omega⟩
    ·exact .inr ⟨by omega, by omega⟩
   have cA := parse_s w hpar
   have cB := parseR_s w hpar
   have cP := print_s true l hz hP (by omega)
   have cQ := printR_s true l hP (by omega)
   have cC := checkMarksR_s true l hz (by omega)
   refine BrW.tt rfl ?_
   have hgo : w.length ≤ 600 ∨ (60000 < w.length ∧ w.length ≤ 60050) := by omega
   simp only [↓sx0, xE, sevalprocAttr]
   obtain ⟨r, hr⟩ : ∃ r, r = parL w := ⟨_, rfl⟩
   have hx := parL_len w
   rw [← hr] at cA cB hx
   clear hr
   obtain ⟨x, n, f⟩ := r
   simp only at cA cB hx
   by_cases he : lstErr l = 0
   ·obtain ⟨hb1, hb2, hb3⟩ := par_back he hb
    have cX := parse_s (lT l) (.inl ⟨hb2, hb3⟩)
    rw [hb1] at cX
    rw [show prtL l = (bs (lT l), 0) by rw [prtL, if_pos he]] at cP
    rw [he] at cC
    simp only at cP cX
    rcases hgo with hgo | hgo
    all_goals (
     repeat ((first | (with_reducible refine BrW.yes (by omega) ?_) | (with_reducible refine BrW.no (by omega) ?_)); (try simp only [↓sx0, xE, sevalprocAttr]))
     refine CallI.fn (copyMarks_s true l (by omega)) (by simp only [sx3, xR, sevalprocAttr] <;> (try simp) <;> (try rfl)) ?_
     simp only [↓sx0, xE, sevalprocAttr]
     refine CallI.fnK (cP) glob_ok hgl rfl (by simp only [sx3, xR, sevalprocAttr] <;> (try simp) <;> (try rfl)) ?_
     simp only [↓sx0, xE, sevalprocAttr]
     refine CallI.fn (cC) (by simp only [sx3, xR, sevalprocAttr] <;> (try simp) <;> (try rfl)) ?_
     simp only [↓sx0, xE, sevalprocAttr]
     refine BrW.no (by simp) ?_
     simp only [↓sx0, xE, sevalprocAttr]
     refine CallI.fnK (cX) glob_ok hgl rfl (by simp only [sx3, xR, sevalprocAttr] <;> (try simp) <;> (try rfl)) ?_
     simp only [↓sx0, xE, sevalprocAttr]
     refine BrW.no (by simp) ?_
     simp only [↓sx0, xE, sevalprocAttr]
     refine CallI.fnK (cQ) glob_ok hgl rfl (by simp only [sx3, xR, sevalprocAttr] <;> (try simp) <;> (try rfl)) ?_
     simp only [↓sx0, xE, sevalprocAttr]
     refine BrW.no (by simp) ?_
     simp only [↓sx0, xE, sevalprocAttr]
     refine BrW.no (by simp) ?_
     simp only [↓sx0, xE, sevalprocAttr]
     refine BrW.no (by simp) ?_
     simp only [↓sx0, xE, sevalprocAttr]
     refine CallI.fn (sameM_s true true l l (by omega)) (by simp only [sx3, xR, sevalprocAttr] <;> (try simp) <;> (try rfl)) ?_
     simp only [↓sx0, xE, sevalprocAttr]
     refine CallI.fnK (cA) glob_ok hgl rfl (by simp only [sx3, xR, sevalprocAttr] <;> (try simp) <;> (try rfl)) ?_
     simp only [↓sx0, xE, sevalprocAttr]
     refine CallI.fnK (cB) glob_ok hgl rfl (by simp only [sx3, xR, sevalprocAttr] <;> (try simp) <;> (try rfl)) ?_
     simp only [↓sx0, xE, sevalprocAttr]
     refine CallI.fn (sameM_s true true x x (by omega)) (by simp only [sx3, xR, sevalprocAttr] <;> (try simp) <;> (try rfl)) ?_
     simp only [↓sx0, xE, sevalprocAttr]
     refine EndW.fn ?_ ?_ <;> simp only [sx4, xK, sevalprocAttr] <;> (try simp) <;> (try omega))
   ·have hne : ¬ lstErr l = 0 := he
    rw [show prtL l = (em, lstErr l) by rw [prtL, if_neg he]] at cP
    generalize lstErr l = e at *
    simp only at cP
    rcases hgo with hgo | hgo
    all_goals (
     repeat ((first | (with_reducible refine BrW.yes (by omega) ?_) | (with_reducible refine BrW.no (by omega) ?_)); (try simp only [↓sx0, xE, sevalprocAttr]))
     refine CallI.fn (copyMarks_s true l (by omega)) (by simp only [sx3, xR, sevalprocAttr] <;> (try simp) <;> (try rfl)) ?_
     simp only [↓sx0, xE, sevalprocAttr]
     refine CallI.fnK (cP) glob_ok hgl rfl (by simp only [sx3, xR, sevalprocAttr] <;> (try simp) <;> (try rfl)) ?_
     simp only [↓sx0, xE, sevalprocAttr]
     refine CallI.fn (cC) (by simp only [sx3, xR, sevalprocAttr] <;> (try simp) <;> (try rfl)) ?_
     simp only [↓sx0, xE, sevalprocAttr]
     refine BrW.yes hne ?_
     simp only [↓sx0, xE, sevalprocAttr]
     refine BrW.no (by simp) ?_
     simp only [↓sx0, xE, sevalprocAttr]
     refine BrW.no (by simp [em]) ?_
     simp only [↓sx0, xE, sevalprocAttr]
     refine CallI.fnK (cA) glob_ok hgl rfl (by simp only [sx3, xR, sevalprocAttr] <;> (try simp) <;> (try rfl)) ?_
     simp only [↓sx0, xE, sevalprocAttr]
     refine CallI.fnK (cB) glob_ok hgl rfl (by simp only [sx3, xR, sevalprocAttr] <;> (try simp) <;> (try rfl)) ?_
     simp only [↓sx0, xE, sevalprocAttr]
     refine CallI.fn (sameM_s true true x x (by omega)) (by simp only [sx3, xR, sevalprocAttr] <;> (try simp) <;> (try rfl)) ?_
     simp only [↓sx0, xE, sevalprocAttr]
     refine EndW.fn ?_ ?_ <;> simp only [sx4, xK, sevalprocAttr] <;> (try simp) <;> (try omega))
  ·refine BrW.tt rfl ?_
   simp only [↓sx0, xE, sevalprocAttr]
   by_cases h6 : s.size ≤ 60000
   ·repeat ((first | (with_reducible refine BrW.yes (by omega) ?_) | (with_reducible refine BrW.no (by omega) ?_)); (try simp only [↓sx0, xE, sevalprocAttr]))
    refine EndW.fn ?_ ?_ <;> simp only [sx4, xK, sevalprocAttr] <;> (try simp) <;> (try omega)
   ·repeat ((first | (with_reducible refine BrW.yes (by omega) ?_) | (with_reducible refine BrW.no (by omega) ?_)); (try simp only [↓sx0, xE, sevalprocAttr]))
    refine EndW.fn ?_ ?_ <;> simp only [sx4, xK, sevalprocAttr] <;> (try simp) <;> (try omega)
 ·rw [show fewB l = false by simpa using hf]
  simp only [↓sx0, xE, sevalprocAttr]
  refine EndW.fn ?_ ?_ <;> simp only [sx4, xK, sevalprocAttr] <;> (try simp) <;> (try omega)
end Go.Proofs.YtmbemlmkfoblhaaGreatDoor
