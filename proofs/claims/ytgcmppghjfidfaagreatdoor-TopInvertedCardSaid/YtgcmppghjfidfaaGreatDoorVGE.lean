/-
 Chapter 8, walks: marks are applied one behind the other.
-/
import Derived.Test.YtgcmppghjfidfaaGreatDoorVGC
import Derived.Test.YtgcmppghjfidfaaGreatDoorVGD
set_option linter.unusedSimpArgs false
set_option linter.unusedVariables false
namespace Go.Proofs.YtgcmppghjfidfaaGreatDoor
open Go Go.Vx
set_option maxRecDepth 20000
set_option maxHeartbeats 4000000 in
theorem cloneF_s (b b2 : Bool) (l : List Pt) (hl : l.length ≤ 1000) (hw : ∀ p ∈ l, p.words.length ≤ 1000) :
  Ctr Tryz.prog 49 [.sl b 2 (l.map (eP b2))] (fun rr => rr = ⟨.sl true 2 (l.map (eP true)), []⟩) := by
 refine Ctr.of (rs := [.tmp 2]) Tok true Tryz.func49 rfl rfl rfl rfl (by simp [ofDL]) (fun w0 kp => ?_)
 simp only [↓sx0, xE, sevalprocAttr]
 have wl : ∀ k (h : k < l.length), (l[k].words.map eS).length ≤ 1000000 := fun k h => by have := hw _ (List.getElem_mem h); simp; omega
 refine LoopW.inv Tok (fun k : Nat => ⟨[(3, .row 0), (8, (.v (.int .i64 k))), (6, .sl b 2 (l.map (eP b2))), (7, (.v (.int .i64 l.length)))], [], [.own 81 2 ((l.take k).map (eP true))]⟩) (fun k => k ≤ l.length) (fun k => l.length - k) 0 (StLe.auto ?_) (Nat.zero_le _) ?_
 ·simp only [List.take_zero, List.map_nil]
  simp only [sx2, xR, sevalprocAttr] <;> (try simp) <;> (try omega)
 rintro k hk
 simp only [↓sx0, xE, sevalprocAttr]
 refine BrW.dec (fun hlt => ?_) (fun hlt => ?_)
 ·simp only [↓sx0, xE, sevalprocAttr]
  have hkl : k < l.length := by omega
  refine IxW.nat hkl ?_
  simp only [↓sx0, xE, sevalprocAttr]
  refine DrawW.plan Tok mixed (.q 0 <| .q 1 <| .q 2 <| .q 3 <| .q 4 <| .e 5 [2] <| .q 6 <| .e 7 [] <| .e 8 [] <| .q 9 <| .done) (by kernel_rfl) (by kernel_rfl) ?_
  simp only [↓sx0, xE, sevalprocAttr]
  refine CallI.ctr (cloneS_s b2 _ (kpS l[k].words) (wl k hkl)) (by simp only [sx3, xR, sevalprocAttr] <;> (try simp) <;> (try rfl)) ?_
  rintro _ rfl
  simp only [↓sx0, xE, sevalprocAttr]
  repeat ((with_reducible refine Vc.go ?_ fun _ => ?_); (focus (first | omega | (simp only [InK]; omega) | (simp [InK] <;> omega))); simp only [↓sx0, xE, sevalprocAttr])
  have hf : (l.take k).map (eP true) ++ [eP true l[k]] = (l.take (k + 1)).map (eP true) := by rw [List.take_succ_eq_append_getElem hkl, List.map_append]; rfl
  refine ⟨k + 1, StLe.auto ?_, by omega, by omega⟩
  simp only [← hf]
  simp only [sx2, xR, sevalprocAttr] <;> (try simp) <;> (try omega)
 ·simp only [↓sx0, xE, sevalprocAttr]
  have hke : k = l.length := by omega
  subst hke
  rw [List.take_length]
  have hkp := kpP l
  refine EndW.fn ?_ ?_ <;> simp only [sx4, xK, sevalprocAttr] <;> (try simp [hkp]) <;> (try omega)
theorem lstEA : ∀ {l : List Mk}, lstE l = 0 → ∀ m ∈ l, mkErr m = 0
 | [], _, m, h => by cases h
 | x :: l, he, m, h => by
  unfold lstE at he
  split at he
  ·rename_i hx
   rcases List.mem_cons.1 h with rfl | h
   ·exact hx
   ·exact lstEA he m h
  ·rename_i hx; exact absurd he hx
theorem lstA {l : List Mk} (h : lstErr l = 0) : l.length ≤ 60 ∧ ∀ m ∈ l, mkErr m = 0 := by
 unfold lstErr at h
 split at h
 ·omega
 ·exact ⟨by omega, lstEA h⟩
theorem lstEB : ∀ {l : List Mk}, (∀ m ∈ l, mkErr m = 0) → lstE l = 0
 | [], _ => rfl
 | x :: l, h => by rw [lstE, if_pos (h x List.mem_cons_self)]; exact lstEB fun m hm => h m (List.mem_cons_of_mem _ hm)
theorem lstB {l : List Mk} (hl : l.length ≤ 60) (h : ∀ m ∈ l, mkErr m = 0) : lstErr l = 0 := by rw [lstErr, if_neg (by omega)]; exact lstEB h
/-- applied one by one. -/
def apF : List Pt → Nat → List Mk → List Pt × Nat × Int
 | l, _, [] => (l, 0, 0)
 | l, k, m :: ms => if (apV l m).2 = 0 then apF (apV l m).1 (k + 1) ms else ([], k, (apV l m).2)
def apAll (l : List Pt) (ms : List Mk) : List Pt × Nat × Int := if (partsErr l).2 = 0 then (if lstErr ms = 0 then apF l 0 ms else ([], 0, lstErr ms)) else ([], 0, (partsErr l).2)
theorem ite_ok {c : Prop} [Decidable c] {x y : List Pt × Int} (hx : x.2 = 0 → (partsErr x.1).2 = 0) (hy : y.2 = 0 → (partsErr y.1).2 = 0) : (if c then x else y).2 = 0 → (partsErr (if c then x else y).1).2 = 0 := by
 split <;> assumption
theorem chk_ok {l : List Pt} : (chk l).2 = 0 → (partsErr (chk l).1).2 = 0 := by
 intro h
 unfold chk at h ⊢
 by_cases h4 : (partsErr l).2 = 0
 ·rw [if_pos h4]; exact h4
 ·rw [if_neg h4] at h; exact absurd h h4
theorem apV_ok {l : List Pt} {m : Mk} : (apV l m).2 = 0 → (partsErr (apV l m).1).2 = 0 := by
 unfold apV
 split
 ·simp
 ·exact ite_ok (by simp) (ite_ok (by simp) chk_ok)
structure AS where
 k : Nat
 l : List Pt
set_option maxHeartbeats 8000000 in
theorem AppliedAll_s (b b2 b3 : Bool) (l : List Pt) (ms : List Mk) (hz : AllMk ms) (hl : ms.length ≤ 1000000) : Ctr Tryz.prog 14 [.sl b 2 (l.map (eP b2)), .sl b3 7 (ms.map eM)] (fun rr => rr = ⟨.tup [.sl true 2 ((apAll l ms).1.map (eP true)), (.v (.int .i64 ((apAll l ms).2.1))), (.v (.int .i64 ((apAll l ms).2.2)))], []⟩) := by
 have encs := And.intro encs (show ∀ p, eML p = [.sl p.1 7 (p.2.map eM)] from fun _ => rfl)
 have hL : lstsErr [(b3, ms)] = lstErr ms := by simp only [lstsErr]; split <;> simp_all
 have hC := checkMarks_s false [(b3, ms)] (by simpa using ⟨hz, by omega⟩) (by simp)
 rw [hL] at hC
 refine Ctr.of (rs := [.tmp 4, .tmp 5, .tmp 6]) Tok true Tryz.func14 rfl rfl rfl rfl (by simp [ofDL]) (fun w0 kp => ?_)
 simp only [↓sx0, sxE, encs, sevalprocAttr]
 refine CallI.fn (checkCopy_s b b2 l) (by simp only [sx3, encs, sxR, sevalprocAttr] <;> (try simp) <;> (try rfl)) ?_
 simp only [↓sx0, sxE, encs, sevalprocAttr]
 refine BrW.dec (fun h0 => ?_) (fun h0 => ?_)
 ·simp only [↓sx0, sxE, encs, sevalprocAttr]
  have hv : apAll l ms = ([], 0, (partsErr l).2) := by rw [apAll, if_neg (by simpa using h0)]
  refine EndW.fn ?_ ?_ <;> simp only [sx4, encs, kpLL_map, sxR, sevalprocAttr] <;> (try simp [hv]) <;> (try omega)
 ·have h0 : (partsErr l).2 = 0 := by simpa using h0
  obtain ⟨hl60, hws⟩ := parts_ok h0
  simp only [↓sx0, sxE, encs, sevalprocAttr]
  refine CallI.fn (hC) (by simp only [sx3, encs, sxR, sevalprocAttr] <;> (try simp) <;> (try rfl)) ?_
  simp only [↓sx0, sxE, encs, sevalprocAttr]
  refine BrW.dec (fun h1 => ?_) (fun h1 => ?_)
  ·simp only [↓sx0, sxE, encs, sevalprocAttr]
   have hv : apAll l ms = ([], 0, lstErr ms) := by rw [apAll, if_pos h0, if_neg (by simpa using h1)]
   refine EndW.fn ?_ ?_ <;> simp only [sx4, encs, kpLL_map, sxR, sevalprocAttr] <;> (try simp [hv]) <;> (try omega)
  ·have h1 : lstErr ms = 0 := by simpa using h1
   obtain ⟨m60, mok⟩ := lstA h1
   rw [show apAll l ms = apF l 0 ms by rw [apAll, if_pos h0, if_pos h1]]
   simp only [↓sx0, sxE, encs, sevalprocAttr]
   refine CallI.fn (cloneF_s b b2 l (by omega) (fun p hp => by have := hws p hp; omega)) (by simp only [sx3, encs, sxR, sevalprocAttr] <;> (try simp) <;> (try rfl)) ?_
   simp only [↓sx0, sxE, encs, sevalprocAttr]
   repeat ((with_reducible refine Vc.go ?_ fun _ => ?_); (focus (first | omega | (simp only [InK]; omega) | (simp [InK] <;> omega))); simp only [↓sx0, sxE, encs, sevalprocAttr])
   refine LoopW.comp [9, 26, 27, 28] (by simp only [sx2, encs, sxR, sevalprocAttr] <;> (try simp) <;> (try omega)) ?_
   simp only [sx2, sxR, sevalprocAttr]
   refine LoopW.up Tok (fun s : AS => [(9, .sl true 2 (s.l.map (eP true))), (28, (.v (.int .i64 s.k)))]) (fun s => []) (fun s => []) (fun s => []) (fun s => s.k ≤ ms.length ∧ (partsErr s.l).2 = 0 ∧ apF s.l s.k (ms.drop s.k) = apF l 0 ms) (fun s => ms.length - s.k) (⟨0, l⟩) (by simp only [sx2, encs, sxR, sevalprocAttr] <;> (try simp) <;> (try omega)) ?_ ?_
   ·exact ⟨by simp, h0, rfl⟩
   rintro ⟨k, cur⟩ ⟨hk, hr, hA⟩
   simp only at hk hr hA
   simp only [↓sx0, sxE, encs, sevalprocAttr]
   refine BrW.dec (fun hlt => ?_) (fun hlt => ?_)
   ·simp only [↓sx0, sxE, encs, sevalprocAttr]
    have hkl : k < ms.length := by omega
    have hd : ms.drop k = ms[k] :: ms.drop (k + 1) := List.drop_eq_getElem_cons hkl
    have hm : mkErr ms[k] = 0 := mok _ (List.getElem_mem hkl)
    rw [hd] at hA
    refine IxW.nat hkl ?_
    simp only [↓sx0, sxE, encs, sevalprocAttr]
    generalize ms[k] = m at hA hm ⊢
    have hap := applied_s true true cur m hr hm
    have hok := apV_ok (l := cur) (m := m)
    rw [apF] at hA
    generalize apV cur m = r at hA hap hok
    obtain ⟨nx, e⟩ := r
    simp only at hA hap hok
    refine CallI.fn (hap) (by simp only [sx3, encs, sxR, sevalprocAttr] <;> (try simp) <;> (try rfl)) ?_
    simp only [↓sx0, sxE, encs, sevalprocAttr]
    refine BrW.dec (fun he => ?_) (fun he => ?_)
    ·rw [if_neg he] at hA
     rw [← hA]
     simp only [↓sx0, sxE, encs, sevalprocAttr]
     refine EndW.fn ?_ ?_ <;> simp only [sx4, encs, kpLL_map, sxR, sevalprocAttr] <;> (try simp) <;> (try omega)
    ·have he := Decidable.not_not.1 he
     rw [if_pos he] at hA
     simp only [↓sx0, sxE, encs, sevalprocAttr]
     repeat ((with_reducible refine Vc.go ?_ fun _ => ?_); (focus (first | omega | (simp only [InK]; omega) | (simp [InK] <;> omega))); simp only [↓sx0, sxE, encs, sevalprocAttr])
     refine ⟨⟨k + 1, nx⟩, StLe.auto (by simp only [sx2, encs, sxR, sevalprocAttr] <;> (try simp) <;> (try omega)), ?_, ?_⟩
     ·exact ⟨by simp only; omega, hok he, hA⟩
     ·simp only; omega
   ·have hke : k = ms.length := by omega
    subst hke
    rw [List.drop_length, apF] at hA
    rw [← hA]
    have hkp := kpP cur
    simp only [↓sx0, sxE, encs, sevalprocAttr]
    refine EndW.fn ?_ ?_ <;> simp only [sx4, encs, kpLL_map, sxR, sevalprocAttr] <;> (try simp [hkp]) <;> (try omega)
end Go.Proofs.YtgcmppghjfidfaaGreatDoor

