/-
 Chapter 8, walks: words that change places.
-/
import Derived.Test.YtgcmppghjfidfaaGreatDoorVGD
import Derived.Test.YtgcmppghjfidfaaGreatDoorVB8
import Derived.Test.YtgcmppghjfidfaaGreatDoorVSrt
import Derived.Test.YtgcmppghjfidfaaGreatDoorVGB
set_option linter.unusedSimpArgs false
set_option linter.unusedVariables false
namespace Go.Proofs.YtgcmppghjfidfaaGreatDoor
open Go Go.Vx
set_option maxRecDepth 20000
def swP (p : Pt) (k : Nat) : Pt := ⟨p.kind, (p.words.set k (p.words.getD (k + 1) em)).set (k + 1) (p.words.getD k em)⟩
set_option maxHeartbeats 8000000 in
theorem appliedSwap_s (b b2 : Bool) (l : List Pt) (m : Mk) (i k : Nat) (hm : m.mark = 4) (hp : m.part = i) (hw : m.word = k) (hl : l.length ≤ 1000) (hws : ∀ p ∈ l, p.words.length ≤ 1000) (hn : ∀ p ∈ l, 0 < p.words.length) (hi : i < l.length) :
  Ctr Tryz.prog 50 [.sl b 2 (l.map (eP b2)), mV m] (fun rr => rr = ⟨.tup [.sl true 2 ((apV l m).1.map (eP true)), (.v (.int .i64 ((apV l m).2)))], []⟩) := by
 have encs := And.intro encs mapE
 have hwi : l[i].words.length ≤ 1000 := hws _ (List.getElem_mem hi)
 have hni : 0 < l[i].words.length := hn _ (List.getElem_mem hi)
 have hv0 := apV_at m hp hi
 refine Ctr.of (rs := [.tmp 4, .tmp 5]) Tok true Tryz.func50 rfl rfl rfl rfl (by simp [ofDL]) (fun w0 kp => ?_)
 simp only [↓sx0, sxE, encs, sevalprocAttr]
 rw [hm, hp, hw]
 refine DrawW.plan Tok mixed (.q 0 <| .q 2 <| .e 1 [2] <| .e 3 [] <| .q 4 <| .q 5 <| .q 6 <| .q 7 <| .q 8 <| .done) (by kernel_rfl) (by kernel_rfl) ?_
 simp only [↓sx0, sxE, encs, sevalprocAttr]
 refine CallI.ctrA (clone_s b b2 l i hl hi hws hni) (by simp only [sx3, encs, sxR, sevalprocAttr] <;> (try simp) <;> (try rfl)) ?_
 rintro _ _ _ ⟨rfl, ⟨ad, n0, c0, rfl⟩, rfl⟩
 simp only [↓sx0, sxE, encs, sevalprocAttr]
 refine CallI.inlG (rs := [.tmp 4, .tmp 5]) Tok (fun h => by first | cases h; done | rfl) Tryz.func82 rfl rfl rfl rfl (by simp) (fun ρ σ μ fr lp => ?_) (by refine ⟨_, ?_, rfl⟩; rfl)
 simp only [↓sx0, sxE, encs, sevalprocAttr]
 have hel := elsA_len l i (.slice (some ad) n0 c0)
 have hge := elsA_get hi (.slice (some ad) n0 c0)
 refine BrW.no (by omega) ?_
 simp only [↓sx0, sxE, encs, sevalprocAttr]
 repeat ((with_reducible refine Vc.go ?_ fun _ => ?_); (focus (first | omega | (simp only [InK]; omega) | (simp [InK] <;> omega))); simp only [↓sx0, sxE, encs, sevalprocAttr])
 refine DrawW.plan Tok mixed (.q 0 <| .q 1 <| .q 2 <| .q 3 <| .q 4 <| .q 5 <| .q 6 <| .q 7 <| .q 8 <| .done) (by kernel_rfl) (by kernel_rfl) ?_
 simp only [↓sx0, sxE, encs, sevalprocAttr]
 refine ⟨by omega, _, (by rw [Int.toNat_natCast]; exact hge), ?_⟩
 simp only [↓sx0, sxE, encs, sevalprocAttr]
 repeat ((with_reducible refine Vc.go ?_ fun _ => ?_); (focus (first | omega | (simp only [InK]; omega) | (simp [InK] <;> omega))); simp only [↓sx0, sxE, encs, sevalprocAttr])
 refine BrW.dec (fun h1 => ?_) (fun h1 => ?_)
 ·simp only [↓sx0, sxE, encs, sevalprocAttr]
  have hv : apV l m = ([], 6) := by
   rw [hv0, if_pos (.inl (by rw [hm, hw]; simp; omega))]
  refine EndW.fn ?_ ?_ <;> simp only [sx4, encs, kpLL_map, sxR, sevalprocAttr] <;> (try simp [hv]) <;> (try omega)
 ·simp only [↓sx0, sxE, encs, sevalprocAttr]
  have hk : k + 1 < l[i].words.length := by omega
  rw [if_neg (show ¬ _ by rw [hm, hw]; rintro (h | ⟨h, -⟩) <;> first | omega | (simp at h; omega)), if_neg (show ¬ _ by rw [hm]; rintro (⟨h | h, -⟩ | ⟨h, -⟩ | ⟨h, -⟩) <;> omega), show apL l m i m.word.toNat l[i] = l.set i (swP l[i] k) by simp [apL, hm, hw, swP]] at hv0
  have hge2 : (elsA l i (.slice (some ad) n0 c0))[(i : Int).toNat]? = some [.v (.int .i64 l[i].kind), .v (.slice (some ad) n0 c0)] := by rw [Int.toNat_natCast]; exact hge
  have g1 : (l[i].words.map eS)[(k : Int).toNat]? = some (eS l[i].words[k]) := by rw [Int.toNat_natCast]; simp [show k < l[i].words.length by omega]
  have g2 : (l[i].words.map eS)[((k : Int) + 1).toNat]? = some (eS l[i].words[k + 1]) := by rw [show ((k : Int) + 1).toNat = k + 1 by omega]; simp [hk]
  refine DrawW.plan Tok mixed (.q 0 <| .q 1 <| .q 2 <| .q 3 <| .q 4 <| .q 5 <| .q 6 <| .q 7 <| .q 8 <| .q 9 <| .q 10 <| .q 11 <| .q 12 <| .q 13 <| .q 14 <| .q 15 <| .q 16 <| .q 17 <| .q 18 <| .q 19 <| .q 20 <| .q 21 <| .q 22 <| .q 23 <| .q 24 <| .q 25 <| .q 26 <| .e 27 [] <| .q 28 <| .e 29 [] <| .done) (by kernel_rfl) (by kernel_rfl) ?_
  simp only [↓sx0, sxE, encs, sevalprocAttr]
  refine ⟨by omega, _, hge2, ?_⟩
  simp only [↓sx0, sxE, encs, sevalprocAttr]
  refine ⟨by omega, _, hge2, ?_⟩
  simp only [↓sx0, sxE, encs, sevalprocAttr]
  repeat ((with_reducible refine Vc.go ?_ fun _ => ?_); (focus (first | omega | (simp only [InK]; omega) | (simp [InK] <;> omega))); simp only [↓sx0, sxE, encs, sevalprocAttr])
  refine ⟨by omega, _, hge2, ?_⟩
  simp only [↓sx0, sxE, encs, sevalprocAttr]
  repeat ((with_reducible refine Vc.go ?_ fun _ => ?_); (focus (first | omega | (simp only [InK]; omega) | (simp [InK] <;> omega))); simp only [↓sx0, sxE, encs, sevalprocAttr])
  refine ⟨by omega, _, g2, ?_⟩
  simp only [↓sx0, sxE, encs, sevalprocAttr]
  refine ⟨by omega, _, hge2, ?_⟩
  simp only [↓sx0, sxE, encs, sevalprocAttr]
  repeat ((with_reducible refine Vc.go ?_ fun _ => ?_); (focus (first | omega | (simp only [InK]; omega) | (simp [InK] <;> omega))); simp only [↓sx0, sxE, encs, sevalprocAttr])
  refine ⟨by omega, _, g1, ?_⟩
  simp only [↓sx0, sxE, encs, sevalprocAttr]
  repeat ((with_reducible refine Vc.go ?_ fun _ => ?_); (focus (first | omega | (simp only [InK]; omega) | (simp [InK] <;> omega))); simp only [↓sx0, sxE, encs, sevalprocAttr])
  have hsw : ((((l[i].words.map eS).modify (k : Int).toNat fun x => modE x 0 [.v (.string l[i].words[k + 1])])).modify ((k : Int) + 1).toNat fun x => modE x 0 [.v (.string l[i].words[k])]) = (swP l[i] k).words.map eS := by
   rw [elS_put (by omega), show ((k : Int) + 1) = ((k + 1 : Nat) : Int) by omega, elS_put (by simpa using hk)]
   simp [swP, List.getD_eq_getElem?_getD, hk, show k < l[i].words.length by omega]
  rw [hsw]
  refine CallI.close (k := 1) (s := 1) (ks := (swP l[i] k).words.map eS) (r := 0) (e' := 81) (s' := 2) (els := elsA l i (.slice (some ad) n0 c0)) (i := i) (c := 1) (el := [.v (.int .i64 l[i].kind), .v (.slice (some ad) n0 c0)]) ⟨.slice (some ad) n0 c0, 9, rfl, rfl, by decide, rfl, by decide, by decide, hge, rfl⟩ ?_
  simp only [closeS, setN, List.set_cons_succ, List.set_cons_zero]
  rw [elsA_close hi (.slice (some ad) n0 c0) (swP l[i] k) rfl]
  refine CallI.fn (checkCopy_s false true (l.set i (swP l[i] k))) (by simp only [sx3, encs, sxR, sevalprocAttr] <;> (try simp) <;> (try rfl)) ?_
  simp only [↓sx0, sxE, encs, sevalprocAttr]
  have hkp := kpP (l.set i (swP l[i] k))
  refine BrW.dec (fun h5 => ?_) (fun h5 => ?_)
  ·simp only [↓sx0, sxE, encs, sevalprocAttr]
   have hv : apV l m = ([], (partsErr (l.set i (swP l[i] k))).2) := by rw [hv0, chk, if_neg (by simpa using h5)]
   refine EndW.fn ?_ ?_ <;> simp only [sx4, encs, kpLL_map, sxR, sevalprocAttr] <;> (try simp [hv]) <;> (try omega)
  ·simp only [↓sx0, sxE, encs, sevalprocAttr]
   have hv : apV l m = (l.set i (swP l[i] k), 0) := by rw [hv0, chk, if_pos (by simpa using h5)]
   refine EndW.fn ?_ ?_ <;> simp only [sx4, encs, kpLL_map, sxR, sevalprocAttr] <;> (try simp [hv, hkp]) <;> (try omega)
end Go.Proofs.YtgcmppghjfidfaaGreatDoor
/-
 Chapter 8, walks: a mark is applied.
-/
namespace Go.Proofs.YtgcmppghjfidfaaGreatDoor
open Go Go.Vx
set_option maxRecDepth 20000
theorem partErr_ok {p : Pt} (h : partErr p = 0) : 0 < p.words.length ∧ p.words.length ≤ 100 := by
 unfold partErr at h
 split at h
 ·split at h
  ·omega
  ·split at h
   ·omega
   ·omega
 ·omega
theorem partsE_ok : ∀ (l : List Pt) (k : Nat), (partsE k l).2 = 0 → ∀ p ∈ l, partErr p = 0
 | [], _, _, p, hp => by simp at hp
 | q :: l, k, h, p, hp => by
  unfold partsE at h
  split at h
  ·rename_i h0
   rcases List.mem_cons.1 hp with rfl | hp
   ·exact h0
   ·exact partsE_ok l (k + 1) h p hp
  ·rename_i h0; exact absurd h h0
theorem parts_ok {l : List Pt} (h : (partsErr l).2 = 0) : l.length ≤ 60 ∧ ∀ p ∈ l, 0 < p.words.length ∧ p.words.length ≤ 100 := by
 unfold partsErr at h
 split at h
 ·simp at h
 ·exact ⟨by omega, fun p hp => partErr_ok (partsE_ok l 0 h p hp)⟩
theorem applied_s (b b2 : Bool) (l : List Pt) (m : Mk) (h0 : (partsErr l).2 = 0) (h1 : mkErr m = 0) :
  Ctr Tryz.prog 50 [.sl b 2 (l.map (eP b2)), mV m] (fun rr => rr = ⟨.tup [.sl true 2 ((apV l m).1.map (eP true)), (.v (.int .i64 ((apV l m).2)))], []⟩) := by
 obtain ⟨hl, hws⟩ := parts_ok h0
 obtain ⟨⟨a1, a2⟩, hr, -, -⟩ := mk_ok h1
 simp only [inR, Bool.and_eq_true, decide_eq_true_eq] at hr
 obtain ⟨i, hp⟩ : ∃ i : Nat, m.part = i := ⟨m.part.toNat, by omega⟩
 obtain ⟨k, hw⟩ : ∃ k : Nat, m.word = k := ⟨m.word.toNat, by omega⟩
 have w1 : ∀ p ∈ l, p.words.length ≤ 1000 := fun p hp => by have := hws p hp; omega
 have w2 : ∀ p ∈ l, 0 < p.words.length := fun p hp => (hws p hp).1
 by_cases hi : i < l.length
 ·have hm : m.mark = 1 ∨ m.mark = 2 ∨ m.mark = 3 ∨ m.mark = 4 ∨ m.mark = 5 ∨ m.mark = 6 ∨ m.mark = 7 := by omega
  rcases hm with hm | hm | hm | hm | hm | hm | hm
  ·exact appliedOut_s b b2 l m i k hm hp hw (by omega) w1 w2 hi
  ·exact appliedInA_s b b2 l m i k hm hp hw (by omega) w1 w2 hi
  ·exact appliedChange_s b b2 l m i k hm hp hw (by omega) w1 w2 hi
  ·exact appliedSwap_s b b2 l m i k hm hp hw (by omega) w1 w2 hi
  ·exact appliedBreak_s b b2 l m i k hm hp hw (by omega) w1
  ·exact appliedJoin_s b b2 l m i k hm hp hw (by omega) w1
  ·exact appliedTurn_s b b2 l m i k hm hp hw (by omega) w1
 ·exact appliedMiss_s b b2 l m i hp hi (by omega) w1
/-- Applied. -/
def apA (l : List Pt) (m : Mk) : List Pt × Int := if (partsErr l).2 = 0 then (if mkErr m = 0 then apV l m else ([], mkErr m)) else ([], (partsErr l).2)
theorem Applied_s (b b2 : Bool) (l : List Pt) (m : Mk) (hz : MkSz m) : Ctr Tryz.prog 33 [.sl b 2 (l.map (eP b2)), mV m] (fun rr => rr = ⟨.tup [.sl true 2 ((apA l m).1.map (eP true)), (.v (.int .i64 ((apA l m).2)))], []⟩) := by
 refine Ctr.of (rs := [.tmp 4, .tmp 5]) Tok true Tryz.func33 rfl rfl rfl rfl (by simp [ofDL]) (fun w0 kp => ?_)
 simp only [↓sx0, xE, sevalprocAttr]
 refine CallI.fn (checkCopy_s b b2 l) (by simp only [sx3, xR, sevalprocAttr] <;> (try simp) <;> (try rfl)) ?_
 simp only [↓sx0, xE, sevalprocAttr]
 refine BrW.dec (fun h0 => ?_) (fun h0 => ?_)
 ·simp only [↓sx0, xE, sevalprocAttr]
  have hv : apA l m = ([], (partsErr l).2) := by rw [apA, if_neg (by simpa using h0)]
  refine EndW.fn ?_ ?_ <;> simp only [sx4, xK, sevalprocAttr] <;> (try simp [hv]) <;> (try omega)
 ·have h0 : (partsErr l).2 = 0 := by simpa using h0
  simp only [↓sx0, xE, sevalprocAttr]
  refine CallI.fn (checkMark_s m hz) (by simp only [sx3, xR, sevalprocAttr] <;> (try simp) <;> (try rfl)) ?_
  simp only [↓sx0, xE, sevalprocAttr]
  refine BrW.dec (fun h1 => ?_) (fun h1 => ?_)
  ·simp only [↓sx0, xE, sevalprocAttr]
   have hv : apA l m = ([], mkErr m) := by rw [apA, if_pos h0, if_neg (by simpa using h1)]
   refine EndW.fn ?_ ?_ <;> simp only [sx4, xK, sevalprocAttr] <;> (try simp [hv]) <;> (try omega)
  ·have h1 : mkErr m = 0 := by simpa using h1
   simp only [↓sx0, xE, sevalprocAttr]
   refine CallI.fn (applied_s b b2 l m h0 h1) (by simp only [sx3, xR, sevalprocAttr] <;> (try simp) <;> (try rfl)) ?_
   simp only [↓sx0, xE, sevalprocAttr]
   have hv : apA l m = apV l m := by rw [apA, if_pos h0, if_pos h1]
   have hkp := kpP (apV l m).1
   refine EndW.fn ?_ ?_ <;> simp only [sx4, xK, sevalprocAttr] <;> (try simp [hv, hkp]) <;> (try omega)
end Go.Proofs.YtgcmppghjfidfaaGreatDoor
/-
 Chapter 8, walks: marks are applied one behind the other.
-/
namespace Go.Proofs.YtgcmppghjfidfaaGreatDoor
open Go Go.Vx
set_option maxRecDepth 20000
set_option maxHeartbeats 4000000 in
theorem cloneF_s (b b2 : Bool) (l : List Pt) (hl : l.length ≤ 1000) (hw : ∀ p ∈ l, p.words.length ≤ 1000) :
  Ctr Tryz.prog 49 [.sl b 2 (l.map (eP b2))] (fun rr => rr = ⟨.sl true 2 (l.map (eP true)), []⟩) := by
 refine Ctr.of (rs := [.tmp 2]) Tok true Tryz.func49 rfl rfl rfl rfl (by simp [ofDL]) (fun w0 kp => ?_)
 simp only [↓sx0, xE, sevalprocAttr]
 have wl : ∀ k (h : k < l.length), (l[k].words.map eS).length ≤ 1000000 := fun k h => by have := hw _ (List.getElem_mem h); simp; omega
 refine LoopW.inv Tok (fun k : Nat => ⟨[(3, .row 0), (8, (.v (.int .i64 k))), (6, .sl b 2 (l.map (eP b2))), (7, (.v (.int .i64 l.length)))], [], [.own 81 2 ((l.take k).map (eP true))]⟩) (fun k => k ≤ l.length) (fun k => l.length - k) 0 (StLe.auto ?_) (Nat.zero_le _) ?_
 ·simp only [List.take_zero, List.map_nil]
  simp only [sx2, xR, sevalprocAttr] <;> (try simp) <;> (try omega)
 rintro k hk
 simp only [↓sx0, xE, sevalprocAttr]
 refine BrW.dec (fun hlt => ?_) (fun hlt => ?_)
 ·simp only [↓sx0, xE, sevalprocAttr]
  have hkl : k < l.length := by omega
  refine IxW.nat hkl ?_
  simp only [↓sx0, xE, sevalprocAttr]
  refine DrawW.plan Tok mixed (.q 0 <| .q 1 <| .q 2 <| .q 3 <| .q 4 <| .e 5 [2] <| .q 6 <| .e 7 [] <| .e 8 [] <| .q 9 <| .done) (by kernel_rfl) (by kernel_rfl) ?_
  simp only [↓sx0, xE, sevalprocAttr]
  refine CallI.ctr (cloneS_s b2 _ (kpS l[k].words) (wl k hkl)) (by simp only [sx3, xR, sevalprocAttr] <;> (try simp) <;> (try rfl)) ?_
  rintro _ rfl
  simp only [↓sx0, xE, sevalprocAttr]
  repeat ((with_reducible refine Vc.go ?_ fun _ => ?_); (focus (first | omega | (simp only [InK]; omega) | (simp [InK] <;> omega))); simp only [↓sx0, xE, sevalprocAttr])
  have hf : (l.take k).map (eP true) ++ [eP true l[k]] = (l.take (k + 1)).map (eP true) := by rw [List.take_succ_eq_append_getElem hkl, List.map_append]; rfl
  refine ⟨k + 1, StLe.auto ?_, by omega, by omega⟩
  simp only [← hf]
  simp only [sx2, xR, sevalprocAttr] <;> (try simp) <;> (try omega)
 ·simp only [↓sx0, xE, sevalprocAttr]
  have hke : k = l.length := by omega
  subst hke
  rw [List.take_length]
  have hkp := kpP l
  refine EndW.fn ?_ ?_ <;> simp only [sx4, xK, sevalprocAttr] <;> (try simp [hkp]) <;> (try omega)
theorem lstEA : ∀ {l : List Mk}, lstE l = 0 → ∀ m ∈ l, mkErr m = 0
 | [], _, m, h => by cases h
 | x :: l, he, m, h => by
  unfold lstE at he
  split at he
  ·rename_i hx
   rcases List.mem_cons.1 h with rfl | h
   ·exact hx
   ·exact lstEA he m h
  ·rename_i hx; exact absurd he hx
theorem lstA {l : List Mk} (h : lstErr l = 0) : l.length ≤ 60 ∧ ∀ m ∈ l, mkErr m = 0 := by
 unfold lstErr at h
 split at h
 ·omega
 ·exact ⟨by omega, lstEA h⟩
/-- applied one by one. -/
def apF : List Pt → Nat → List Mk → List Pt × Nat × Int
 | l, _, [] => (l, 0, 0)
 | l, k, m :: ms => if (apV l m).2 = 0 then apF (apV l m).1 (k + 1) ms else ([], k, (apV l m).2)
def apAll (l : List Pt) (ms : List Mk) : List Pt × Nat × Int := if (partsErr l).2 = 0 then (if lstErr ms = 0 then apF l 0 ms else ([], 0, lstErr ms)) else ([], 0, (partsErr l).2)
theorem ite_ok {c : Prop} [Decidable c] {x y : List Pt × Int} (hx : x.2 = 0 → (partsErr x.1).2 = 0) (hy : y.2 = 0 → (partsErr y.1).2 = 0) : (if c then x else y).2 = 0 → (partsErr (if c then x else y).1).2 = 0 := by
 split <;> assumption
theorem chk_ok {l : List Pt} : (chk l).2 = 0 → (partsErr (chk l).1).2 = 0 := by
 intro h
 unfold chk at h ⊢
 by_cases h4 : (partsErr l).2 = 0
 ·rw [if_pos h4]; exact h4
 ·rw [if_neg h4] at h; exact absurd h h4
theorem apV_ok {l : List Pt} {m : Mk} : (apV l m).2 = 0 → (partsErr (apV l m).1).2 = 0 := by
 unfold apV
 split
 ·simp
 ·exact ite_ok (by simp) (ite_ok (by simp) chk_ok)
structure AS where
 k : Nat
 l : List Pt
set_option maxHeartbeats 8000000 in
theorem AppliedAll_s (b b2 b3 : Bool) (l : List Pt) (ms : List Mk) (hz : AllMk ms) (hl : ms.length ≤ 1000000) : Ctr Tryz.prog 14 [.sl b 2 (l.map (eP b2)), .sl b3 7 (ms.map eM)] (fun rr => rr = ⟨.tup [.sl true 2 ((apAll l ms).1.map (eP true)), (.v (.int .i64 ((apAll l ms).2.1))), (.v (.int .i64 ((apAll l ms).2.2)))], []⟩) := by
 have encs := And.intro encs (show ∀ p, eML p = [.sl p.1 7 (p.2.map eM)] from fun _ => rfl)
 have hL : lstsErr [(b3, ms)] = lstErr ms := by simp only [lstsErr]; split <;> simp_all
 have hC := checkMarks_s false [(b3, ms)] (by simpa using ⟨hz, by omega⟩) (by simp)
 rw [hL] at hC
 refine Ctr.of (rs := [.tmp 4, .tmp 5, .tmp 6]) Tok true Tryz.func14 rfl rfl rfl rfl (by simp [ofDL]) (fun w0 kp => ?_)
 simp only [↓sx0, sxE, encs, sevalprocAttr]
 refine CallI.fn (checkCopy_s b b2 l) (by simp only [sx3, encs, sxR, sevalprocAttr] <;> (try simp) <;> (try rfl)) ?_
 simp only [↓sx0, sxE, encs, sevalprocAttr]
 refine BrW.dec (fun h0 => ?_) (fun h0 => ?_)
 ·simp only [↓sx0, sxE, encs, sevalprocAttr]
  have hv : apAll l ms = ([], 0, (partsErr l).2) := by rw [apAll, if_neg (by simpa using h0)]
  refine EndW.fn ?_ ?_ <;> simp only [sx4, encs, kpLL_map, sxR, sevalprocAttr] <;> (try simp [hv]) <;> (try omega)
 ·have h0 : (partsErr l).2 = 0 := by simpa using h0
  obtain ⟨hl60, hws⟩ := parts_ok h0
  simp only [↓sx0, sxE, encs, sevalprocAttr]
  refine CallI.fn (hC) (by simp only [sx3, encs, sxR, sevalprocAttr] <;> (try simp) <;> (try rfl)) ?_
  simp only [↓sx0, sxE, encs, sevalprocAttr]
  refine BrW.dec (fun h1 => ?_) (fun h1 => ?_)
  ·simp only [↓sx0, sxE, encs, sevalprocAttr]
   have hv : apAll l ms = ([], 0, lstErr ms) := by rw [apAll, if_pos h0, if_neg (by simpa using h1)]
   refine EndW.fn ?_ ?_ <;> simp only [sx4, encs, kpLL_map, sxR, sevalprocAttr] <;> (try simp [hv]) <;> (try omega)
  ·have h1 : lstErr ms = 0 := by simpa using h1
   obtain ⟨m60, mok⟩ := lstA h1
   rw [show apAll l ms = apF l 0 ms by rw [apAll, if_pos h0, if_pos h1]]
   simp only [↓sx0, sxE, encs, sevalprocAttr]
   refine CallI.fn (cloneF_s b b2 l (by omega) (fun p hp => by have := hws p hp; omega)) (by simp only [sx3, encs, sxR, sevalprocAttr] <;> (try simp) <;> (try rfl)) ?_
   simp only [↓sx0, sxE, encs, sevalprocAttr]
   repeat ((with_reducible refine Vc.go ?_ fun _ => ?_); (focus (first | omega | (simp only [InK]; omega) | (simp [InK] <;> omega))); simp only [↓sx0, sxE, encs, sevalprocAttr])
   refine LoopW.comp [9, 26, 27, 28] (by simp only [sx2, encs, sxR, sevalprocAttr] <;> (try simp) <;> (try omega)) ?_
   simp only [sx2, sxR, sevalprocAttr]
   refine LoopW.up Tok (fun s : AS => [(9, .sl true 2 (s.l.map (eP true))), (28, (.v (.int .i64 s.k)))]) (fun s => []) (fun s => []) (fun s => []) (fun s => s.k ≤ ms.length ∧ (partsErr s.l).2 = 0 ∧ apF s.l s.k (ms.drop s.k) = apF l 0 ms) (fun s => ms.length - s.k) (⟨0, l⟩) (by simp only [sx2, encs, sxR, sevalprocAttr] <;> (try simp) <;> (try omega)) ?_ ?_
   ·exact ⟨by simp, h0, rfl⟩
   rintro ⟨k, cur⟩ ⟨hk, hr, hA⟩
   simp only at hk hr hA
   simp only [↓sx0, sxE, encs, sevalprocAttr]
   refine BrW.dec (fun hlt => ?_) (fun hlt => ?_)
   ·simp only [↓sx0, sxE, encs, sevalprocAttr]
    have hkl : k < ms.length := by omega
    have hd : ms.drop k = ms[k] :: ms.drop (k + 1) := List.drop_eq_getElem_cons hkl
    have hm : mkErr ms[k] = 0 := mok _ (List.getElem_mem hkl)
    rw [hd] at hA
    refine IxW.nat hkl ?_
    simp only [↓sx0, sxE, encs, sevalprocAttr]
    generalize ms[k] = m at hA hm ⊢
    have hap := applied_s true true cur m hr hm
    have hok := apV_ok (l := cur) (m := m)
    rw [apF] at hA
    generalize apV cur m = r at hA hap hok
    obtain ⟨nx, e⟩ := r
    simp only at hA hap hok
    refine CallI.fn (hap) (by simp only [sx3, encs, sxR, sevalprocAttr] <;> (try simp) <;> (try rfl)) ?_
    simp only [↓sx0, sxE, encs, sevalprocAttr]
    refine BrW.dec (fun he => ?_) (fun he => ?_)
    ·rw [if_neg he] at hA
     rw [← hA]
     simp only [↓sx0, sxE, encs, sevalprocAttr]
     refine EndW.fn ?_ ?_ <;> simp only [sx4, encs, kpLL_map, sxR, sevalprocAttr] <;> (try simp) <;> (try omega)
    ·have he := Decidable.not_not.1 he
     rw [if_pos he] at hA
     simp only [↓sx0, sxE, encs, sevalprocAttr]
     repeat ((with_reducible refine Vc.go ?_ fun _ => ?_); (focus (first | omega | (simp only [InK]; omega) | (simp [InK] <;> omega))); simp only [↓sx0, sxE, encs, sevalprocAttr])
     refine ⟨⟨k + 1, nx⟩, StLe.auto (by simp only [sx2, encs, sxR, sevalprocAttr] <;> (try simp) <;> (try omega)), ?_, ?_⟩
     ·exact ⟨by simp only; omega, hok he, hA⟩
     ·simp only; omega
   ·have hke : k = ms.length := by omega
    subst hke
    rw [List.drop_length, apF] at hA
    rw [← hA]
    have hkp := kpP cur
    simp only [↓sx0, sxE, encs, sevalprocAttr]
    refine EndW.fn ?_ ?_ <;> simp only [sx4, encs, kpLL_map, sxR, sevalprocAttr] <;> (try simp [hkp]) <;> (try omega)
end Go.Proofs.YtgcmppghjfidfaaGreatDoor
/-
 Chapter 8: what stands more often (the reference).
-/
namespace Go.Proofs.YtgcmppghjfidfaaGreatDoor
open Go Go.Vx
set_option maxRecDepth 20000
def insS (l : List Int) (x : Int) : List Int := l.takeWhile (fun y => decide (y ≤ x)) ++ x :: l.dropWhile (fun y => decide (y ≤ x))
theorem cnt_succ {l : List Int} {k : Nat} (h : k < l.length) (x : Int) : (l.take (k + 1)).count x = (l.take k).count x + if l[k] = x then 1 else 0 := by
 rw [List.take_succ_eq_append_getElem h, List.count_append, List.count_singleton]
 simp [beq_iff_eq]
def moreR (a b : List Int) : Nat → List Int
 | 0 => []
 | k + 1 => if b.count (a[k]?.getD 0) ≤ (a.take k).count (a[k]?.getD 0) then insS (moreR a b k) (a[k]?.getD 0) else moreR a b k
end Go.Proofs.YtgcmppghjfidfaaGreatDoor
/-
 Chapter 8: what stands more often (the program).
-/
namespace Go.Proofs.YtgcmppghjfidfaaGreatDoor
open Go Go.Vx
set_option maxRecDepth 20000
def vlC (l : List Int) : List SV := [.pt true [.sl true 1 (l.map eI)]]
def vlY (x : Int) : List SV := [(.v (.int .i64 x))]
theorem values_s (l : List Int) : Ctr Tryz.prog 99 [.sl true 1 (l.map eI)] (fun rr => rr = ⟨.clo 151 (vlC l), []⟩) := by
 have encs := And.intro encs (show ∀ l, vlC l = [.pt true [.sl true 1 (l.map eI)]] from fun _ => rfl)
 refine Ctr.ofB (rs := [.tmp 2]) Tok Tryz.func99 rfl rfl rfl rfl (by simp [ofDL]) (fun w0 kp => ?_)
 simp only [↓sx0, sxE, encs, sevalprocAttr]
 simp only [endY, boxV, boxL, bxPs, bxPs.bx1, bxD, assB, ptB, bxV, bxL, toDL, toD, consO, vD, oneV, dedN, addN, memN, sxL, sx2, encs, sxR, sevalprocAttr]
 exact EndW.fn (by simp only [sx4, encs, kpLL_map, sxR, sevalprocAttr] <;> (try simp) <;> (try omega)) (by simp only [sx4, encs, kpLL_map, sxR, sevalprocAttr] <;> (try simp) <;> (try omega))
theorem vlIt_s (l : List Int) (hl : l.length ≤ 1000000) : ItCtr Tryz.prog 151 (vlC l) (l.map vlY) := by
 have encs := And.intro encs (show ∀ l, vlC l = [.pt true [.sl true 1 (l.map eI)]] from fun _ => rfl)
 refine ItCtr.of Tok Tryz.func151 rfl rfl rfl rfl (by simp [ofDL, encs]) (fun w0 kp yd hok => ?_)
 simp only [↓sx0, sxE, encs, sevalprocAttr]
 refine LoopW.comp [0, 5, 6, 7] (by simp only [sx2, encs, sxR, sevalprocAttr] <;> (try simp) <;> (try omega)) ?_
 simp only [sx2, sxR, sevalprocAttr]
 refine LoopW.upG Tok (fun k : Nat => [(7, (.v (.int .i64 ((k : Int)))))]) (fun k => []) (fun k => []) (fun k => []) (fun k => (l.take k).map vlY) (fun k => k ≤ l.length) (fun k => l.length - k) (0) (by simp only [sx2, encs, sxR, sevalprocAttr] <;> (try simp) <;> (try omega)) ?_ ?_
 ·omega
 rintro k hk
 simp only [↓sx0, sxE, encs, sevalprocAttr]
 refine BrW.dec (fun hlt => ?_) (fun hlt => ?_)
 ·have hkl : k < l.length := by omega
  simp only [↓sx0, sxE, encs, sevalprocAttr]
  refine IxW.nat hkl ?_
  have hs : (l.take (k + 1)).map vlY = (l.take k).map vlY ++ [[(.v (.int .i64 (l[k])))]] := by rw [List.take_succ_eq_append_getElem hkl, List.map_append]; rfl
  have hm : (l.take k).map vlY ++ [[(.v (.int .i64 (l[k])))]] <+: l.map vlY := by
   rw [← hs]; exact (List.take_prefix _ _).map _
  simp only [↓sx0, sxE, encs, sevalprocAttr]
  refine YldI.of (ys := (l.take k).map vlY) hok rfl rfl (by simp only [sx2, sxA, encs, sxR, sevalprocAttr] <;> rfl) (by simp only [sx2, sxA, encs, sxR, sevalprocAttr] <;> rfl) rfl rfl rfl (hm) ?_ ?_
  ·simp only [↓sx0, sxE, encs, sevalprocAttr]
   repeat ((with_reducible refine Vc.go ?_ fun _ => ?_); (focus (first | omega | (simp only [InK]; omega) | (simp [InK] <;> omega))); simp only [↓sx0, sxE, encs, sevalprocAttr])
   refine ⟨k + 1, StLe.auto (by simp only [sx2, encs, sxR, sevalprocAttr] <;> (try simp [hs, encs]) <;> (try omega)), ?_, ?_⟩
   ·omega
   ·omega
  ·simp only [↓sx0, sxE, encs, sevalprocAttr]
   intro h
   cases h
 ·simp only [↓sx0, sxE, encs, sevalprocAttr]
  have hke : k = l.length := by omega
  subst hke
  intro _
  simp
theorem appendSeq_s (a : List Int) (hl : a.length ≤ 1000000) : Ctr Tryz.prog 181 [.v (.slice none 0 0), .clo 151 [.pt true [.sl true 1 (a.map eI)]]] (fun rr => rr = ⟨.row 0, [.own 3 1 (a.map eI)]⟩) := by
 have encs := And.intro encs (show ∀ l, vlC l = [.pt true [.sl true 1 (l.map eI)]] from fun _ => rfl)
 refine Ctr.of (rs := [.tmp 4]) Tok false Tryz.func181 rfl rfl rfl rfl (by simp [ofDL]) (fun w0 kp => ?_)
 simp only [↓sx0, sxE, encs, sevalprocAttr]
 have hit := vlIt_s a hl
 refine RangeW.it Tok (fun _ => rfl) (fun hro => by first | rfl | exact (by rw [hro] at *; contradiction)) (hit) [(2, .box 0 0), (6, .clo 151 (vlC a))] (fun ys => [some ⟨60, [.row 0]⟩]) (fun ys => [.own 3 1 ((a.take ys.length).map eI)]) (fun _ => True) trivial (by simp only [sx2, encs, sxR, sevalprocAttr] <;> (try simp) <;> (try omega)) rfl rfl (by simp [vlY]) ?_ (fun hJall => ?_)
 ·rintro pre d hpre - ρ σ μ ho' hy hs
  obtain ⟨q, hq⟩ := hpre
  have hk : pre.length < a.length := by
   have := congrArg List.length hq
   simp at this; omega
  have hd : d = vlY a[pre.length] := by
   have : (a.map vlY)[pre.length]? = some d := by rw [← hq]; simp
   simpa [List.getElem?_eq_getElem hk, eq_comm] using this
  subst hd
  obtain ⟨yd', ro, mks, fr, lp, sz⟩ := ho'
  have hsu : a.take (pre.length + 1) = a.take pre.length ++ [a[pre.length]] := List.take_succ_eq_append_getElem hk
  have hlen : (pre ++ [vlY a[pre.length]]).length = pre.length + 1 := by simp
  have htl : (a.take pre.length).length = pre.length := by rw [List.length_take]; omega
  rw [hlen, hsu]
  have hb : vlY a[pre.length] = [(.v (.int .i64 (a[pre.length])))] := rfl
  rw [hb]
  simp only [↓sx0, sxE, encs, sevalprocAttr]
  intro fr'
  repeat ((with_reducible refine Vc.go ?_ fun _ => ?_); (focus (first | omega | (simp only [InK]; omega) | (simp [InK] <;> omega))); simp only [↓sx0, sxE, encs, sevalprocAttr])
  simp only [sx2, encs, sxR, sevalprocAttr] <;> (try simp) <;> (try omega)
  rw [← List.map_take, ← List.map_take, hsu, List.map_append]
  rfl
 ·rw [List.length_map, List.take_length]
  simp only [↓sx0, sxE, encs, sevalprocAttr]
  exact EndW.r [some 0] (by simp) (by simp only [sx4, sxF, encs, kpLL_map, sxR, sevalprocAttr] <;> simp) (by simp only [sx4, sxF, encs, kpLL_map, sxR, sevalprocAttr] <;> simp) (by simp only [sx4, sxF, encs, kpLL_map, sxR, sevalprocAttr] <;> simp) (by simp only [sx4, sxF, encs, kpLL_map, sxR, sevalprocAttr] <;> simp)
theorem collect_s (a : List Int) (hl : a.length ≤ 1000000) : Ctr Tryz.prog 149 [.clo 151 [.pt true [.sl true 1 (a.map eI)]]] (fun rr => rr = ⟨.row 0, [.own 3 1 (a.map eI)]⟩) := by
 refine Ctr.of (rs := [.tmp 2]) Tok false Tryz.func149 rfl rfl rfl rfl (by simp [ofDL]) (fun w0 kp => ?_)
 simp only [↓sx0, xE, sevalprocAttr]
 refine CallI.ctr (appendSeq_s a hl) (by simp only [sx3, xR, sevalprocAttr] <;> (try simp) <;> (try rfl)) ?_
 rintro _ rfl
 simp only [↓sx0, xE, sevalprocAttr]
 exact EndW.r [some 0] (by simp) (by simp only [sx4, sxF, xK, sevalprocAttr] <;> simp) (by simp only [sx4, sxF, xK, sevalprocAttr] <;> simp) (by simp only [sx4, sxF, xK, sevalprocAttr] <;> simp) (by simp only [sx4, sxF, xK, sevalprocAttr] <;> simp)
/-! a map of numbers. -/
def mE (p : Int × Int) : List D := [(.v (.int .i64 p.1)), (.v (.int .i64 p.2))]
def mGet (k : Int) : List (Int × Int) → Int
 | [] => 0
 | (a, v) :: m => if k = a then v else mGet k m
def mUp (k v : Int) : List (Int × Int) → List (Int × Int)
 | [] => [(k, v)]
 | (a, u) :: m => if k = a then (k, v) :: m else (a, u) :: mUp k v m
theorem mGet_up (k v x : Int) : ∀ m, mGet x (mUp k v m) = if x = k then v else mGet x m
 | [] => by simp [mUp, mGet]
 | (a, u) :: m => by
  rw [mUp]
  by_cases h : k = a
  ·subst h
   rw [if_pos rfl, mGet, mGet]
   by_cases h2 : x = k
   ·rw [if_pos h2, if_pos h2]
   ·rw [if_neg h2, if_neg h2, if_neg h2]
  ·rw [if_neg h, mGet, mGet, mGet_up k v x m]
   by_cases h2 : x = a
   ·subst h2; rw [if_pos rfl, if_neg fun e => h e.symm, if_pos rfl]
   ·simp [h2]
theorem lkE_m (k : Int) : ∀ m : List (Int × Int), lkV false (.int .i64 0) (lkE (.int .i64 k) (m.map mE)) = (.v (.int .i64 (mGet k m)))
 | [] => rfl
 | (a, v) :: m => by
  have ih := lkE_m k m
  simp only [List.map_cons, mE, lkE, mGet]
  by_cases h : k = a
  ·subst h; simp [kEq, lkV]
  ·simp only [kEq, beq_self_eq_true, Bool.true_and, beq_iff_eq, h, if_false]; exact ih
theorem upE_m (k v : Int) : ∀ m : List (Int × Int), upE (.int .i64 k) (.int .i64 v) (m.map mE) = (mUp k v m).map mE
 | [] => rfl
 | (a, u) :: m => by
  have ih := upE_m k v m
  simp only [List.map_cons, mE, upE, mUp]
  by_cases h : k = a
  ·subst h; simp [kEq, mE]
  ·simp only [kEq, beq_self_eq_true, Bool.true_and, beq_iff_eq, h, if_false, List.map_cons, mE]; rw [ih]
theorem ents_m : ∀ m : List (Int × Int), entsOk (some .i64) (m.map mE) = true
 | [] => rfl
 | (a, u) :: m => by
  have ih := ents_m m
  simp only [entsOk, List.map_cons, List.all_cons, Bool.and_eq_true] at ih ⊢
  exact ⟨rfl, ih⟩
def cntM (l : List Int) : Nat → List (Int × Int)
 | 0 => []
 | k + 1 => mUp (l[k]?.getD 0) (mGet (l[k]?.getD 0) (cntM l k) + 1) (cntM l k)
def lessM (m0 : List (Int × Int)) (l : List Int) : Nat → List (Int × Int)
 | 0 => m0
 | k + 1 => mUp (l[k]?.getD 0) (mGet (l[k]?.getD 0) (lessM m0 l k) - 1) (lessM m0 l k)
theorem cntM_get (l : List Int) (x : Int) : ∀ k, k ≤ l.length → mGet x (cntM l k) = ((l.take k).count x : Int)
 | 0, _ => by simp [cntM, mGet]
 | k + 1, h => by
  have ih := cntM_get l x k (by omega)
  have hs := cnt_succ (l := l) (k := k) (by omega) x
  rw [cntM, mGet_up, List.getElem?_eq_getElem (show k < l.length by omega), Option.getD_some, hs]
  split
  ·rename_i e; rw [if_pos e.symm, ← e, ih]; omega
  ·rename_i e; rw [ih, if_neg fun q => e q.symm]; omega
theorem lessM_get (m0 : List (Int × Int)) (l : List Int) (x : Int) : ∀ k, k ≤ l.length → mGet x (lessM m0 l k) = mGet x m0 - ((l.take k).count x : Int)
 | 0, _ => by simp [lessM]
 | k + 1, h => by
  have ih := lessM_get m0 l x k (by omega)
  have hs := cnt_succ (l := l) (k := k) (by omega) x
  rw [lessM, mGet_up, List.getElem?_eq_getElem (show k < l.length by omega), Option.getD_some, hs]
  split
  ·rename_i e; rw [if_pos e.symm, ← e, ih]; omega
  ·rename_i e; rw [ih, if_neg fun q => e q.symm]; omega
theorem cntM_lt (l : List Int) (x : Int) {k : Nat} (h : k ≤ l.length) : 0 ≤ mGet x (cntM l k) ∧ mGet x (cntM l k) ≤ k := by
 rw [cntM_get l x k h]
 have : ((l.take k).count x) ≤ k := Nat.le_trans List.count_le_length (by rw [List.length_take]; omega)
 omega
theorem lessM_lt (b l : List Int) (x : Int) {k : Nat} (h : k ≤ l.length) : -(k : Int) ≤ mGet x (lessM (cntM b b.length) l k) ∧ mGet x (lessM (cntM b b.length) l k) ≤ b.length := by
 rw [lessM_get _ l x k h]
 have h1 := cntM_lt b x (Nat.le_refl b.length)
 have : ((l.take k).count x) ≤ k := Nat.le_trans List.count_le_length (by rw [List.length_take]; omega)
 omega
/-- what stands more often in s, which is sorted, than in b. -/
def moreP (b s : List Int) : Nat → List Int
 | 0 => []
 | k + 1 => moreP b s k ++ if b.count (s[k]?.getD 0) ≤ (s.take k).count (s[k]?.getD 0) then [s[k]?.getD 0] else []
theorem moreP_len (b s : List Int) : ∀ k, (moreP b s k).length ≤ k
 | 0 => by simp [moreP]
 | k + 1 => by
  have ih := moreP_len b s k
  rw [moreP]
  split <;> simp <;> omega
set_option maxHeartbeats 4000000 in
theorem more_s (a b : List Int) (hal : a.length ≤ 1000) (hbl : b.length ≤ 1000) : Ctr Tryz.prog 64 [.sl true 1 (a.map eI), .sl true 1 (b.map eI)] (fun rr => rr = ⟨.sl true 1 ((moreP b (sortI a) a.length).map eI), []⟩) := by
 have encs := And.intro encs (And.intro lkE_m (And.intro upE_m (And.intro ents_m (show ∀ l, vlC l = [.pt true [.sl true 1 (l.map eI)]] from fun _ => rfl))))
 refine Ctr.of (rs := [.tmp 4]) Tok true Tryz.func64 rfl rfl rfl rfl (by simp [ofDL]) (fun w0 kp => ?_)
 simp only [↓sx0, sxE, encs, sevalprocAttr]
 refine LoopW.comp [0, 5, 12, 13, 14] (by simp only [sx2, encs, sxR, sevalprocAttr] <;> (try simp) <;> (try omega)) ?_
 simp only [sx2, sxR, sevalprocAttr]
 refine LoopW.up Tok (fun k : Nat => [(14, (.v (.int .i64 ((k : Int)))))]) (fun k => []) (fun k => [(0, (cntM b k).map mE)]) (fun k => []) (fun k => k ≤ b.length) (fun k => b.length - k) (0) (by simp only [sx2, encs, sxR, sevalprocAttr] <;> (try simp [cntM, encs]) <;> (try omega)) ?_ ?_
 ·omega
 rintro k hk
 simp only [↓sx0, sxE, encs, sevalprocAttr]
 refine BrW.dec (fun hlt => ?_) (fun hlt => ?_)
 ·have hlt : k < b.length := by omega
  have hc := cntM_lt b b[k] (Nat.le_of_lt hlt)
  have hs : cntM b (k + 1) = mUp b[k] (mGet b[k] (cntM b k) + 1) (cntM b k) := by rw [cntM, List.getElem?_eq_getElem hlt, Option.getD_some]
  simp only [↓sx0, sxE, encs, sevalprocAttr]
  refine IxW.nat hlt ?_
  simp only [↓sx0, sxE, encs, sevalprocAttr]
  repeat ((with_reducible refine Vc.go ?_ fun _ => ?_); (focus (first | omega | (simp only [InK]; omega) | (simp [InK] <;> omega))); simp only [↓sx0, sxE, encs, sevalprocAttr])
  refine ⟨k + 1, StLe.auto (by simp only [sx2, encs, sxR, sevalprocAttr] <;> (try simp [hs, encs]) <;> (try omega)), ?_, ?_⟩
  all_goals omega
 ·have hke : k = b.length := by omega
  subst hke
  simp only [↓sx0, sxE, encs, sevalprocAttr]
  refine CallI.fn (values_s a) (by simp only [sx3, encs, sxR, sevalprocAttr] <;> (try simp) <;> (try rfl)) ?_
  simp only [↓sx0, sxE, encs, sevalprocAttr]
  refine CallI.inl (rs := [.tmp 2]) Tok Tryz.func98 rfl rfl rfl rfl (by simp) (fun ρ σ μ fr lp => ?_)
  simp only [↓sx0, sxE, encs, sevalprocAttr]
  refine CallI.ctr (collect_s a (by omega)) (by simp only [sx3, encs, sxR, sevalprocAttr] <;> (try simp) <;> (try rfl)) ?_
  rintro _ rfl
  simp only [↓sx0, sxE, encs, sevalprocAttr]
  refine CallI.turn1 (r := 1) (e := 3) (s := 1) rfl (sort_s a (by omega)) ?_
  simp only [↓sx0, sxE, encs, sevalprocAttr]
  have hsl : (sortI a).length = a.length := List.length_mergeSort _
  generalize hg : sortI a = s at hsl ⊢
  skip
  refine LoopW.comp [5, 8, 25, 26, 27] (by simp only [sx2, encs, sxR, sevalprocAttr] <;> (try simp) <;> (try omega)) ?_
  simp only [sx2, sxR, sevalprocAttr]
  refine LoopW.up Tok (fun k : Nat => [(8, .row 2), (27, (.v (.int .i64 ((k : Int)))))]) (fun k => []) (fun k => [(0, (lessM (cntM b b.length) s k).map mE)]) (fun k => [.own 3 1 ((moreP b s k).map eI)]) (fun k => k ≤ s.length) (fun k => s.length - k) (0) (by simp only [sx2, encs, sxR, sevalprocAttr] <;> (try simp [lessM, moreP, encs]) <;> (try omega)) ?_ ?_
  ·omega
  rintro k hk
  simp only [↓sx0, sxE, encs, sevalprocAttr]
  refine BrW.dec (fun hlt => ?_) (fun hlt => ?_)
  ·have hlt : k < s.length := by omega
   have hc := lessM_lt b s s[k] (Nat.le_of_lt hlt)
   have hs : lessM (cntM b b.length) s (k + 1) = mUp s[k] (mGet s[k] (lessM (cntM b b.length) s k) - 1) (lessM (cntM b b.length) s k) := by rw [lessM, List.getElem?_eq_getElem hlt, Option.getD_some]
   have hge := mGet_up s[k] (mGet s[k] (lessM (cntM b b.length) s k) - 1) s[k] (lessM (cntM b b.length) s k)
   rw [if_pos rfl] at hge
   have hle := lessM_get (cntM b b.length) s s[k] k (Nat.le_of_lt hlt)
   rw [cntM_get b s[k] _ (Nat.le_refl _), List.take_length] at hle
   have encs := And.intro encs hge
   simp only [↓sx0, sxE, encs, sevalprocAttr]
   repeat ((with_reducible refine Vc.go ?_ fun _ => ?_); (focus (first | omega | (simp only [InK]; omega) | (simp [InK] <;> omega))); simp only [↓sx0, sxE, encs, sevalprocAttr])
   refine IxW.nat hlt ?_
   simp only [↓sx0, sxE, encs, sevalprocAttr]
   repeat ((with_reducible refine Vc.go ?_ fun _ => ?_); (focus (first | omega | (simp only [InK]; omega) | (simp [InK] <;> omega))); simp only [↓sx0, sxE, encs, sevalprocAttr])
   have hmp : moreP b s (k + 1) = moreP b s k ++ if b.count s[k] ≤ (s.take k).count s[k] then [s[k]] else [] := by rw [moreP, List.getElem?_eq_getElem hlt, Option.getD_some]
   have hml := moreP_len b s k
   refine BrW.dec (fun hb => ?_) (fun hb => ?_)
   ·rw [if_pos (by omega)] at hmp
    simp only [↓sx0, sxE, encs, sevalprocAttr]
    repeat ((with_reducible refine Vc.go ?_ fun _ => ?_); (focus (first | omega | (simp only [InK]; omega) | (simp [InK] <;> omega))); simp only [↓sx0, sxE, encs, sevalprocAttr])
    refine ⟨k + 1, StLe.auto (by simp only [sx2, encs, sxR, sevalprocAttr] <;> (try simp [hmp, hs, encs]) <;> (try omega)), ?_, ?_⟩
    all_goals omega
   ·rw [if_neg (by omega), List.append_nil] at hmp
    simp only [↓sx0, sxE, encs, sevalprocAttr]
    repeat ((with_reducible refine Vc.go ?_ fun _ => ?_); (focus (first | omega | (simp only [InK]; omega) | (simp [InK] <;> omega))); simp only [↓sx0, sxE, encs, sevalprocAttr])
    refine ⟨k + 1, StLe.auto (by simp only [sx2, encs, sxR, sevalprocAttr] <;> (try simp [hmp, hs, encs]) <;> (try omega)), ?_, ?_⟩
    all_goals omega
  ·have hke : k = s.length := by omega
   subst hke
   simp only [↓sx0, sxE, encs, sevalprocAttr]
   rw [← hsl]
   refine EndW.fn ?_ ?_ <;> simp only [sx4, encs, kpLL_map, sxR, sevalprocAttr] <;> (try simp) <;> (try omega)
end Go.Proofs.YtgcmppghjfidfaaGreatDoor
/-
 Chapter 8: pairs that are kept (the reference).
-/
namespace Go.Proofs.YtgcmppghjfidfaaGreatDoor
open Go Go.Vx
set_option maxRecDepth 20000
/-- the table in one row: from place p on, the rest is 0. -/
def flC (a b : List Int) (p : Nat) : List Int := (List.range ((a.length + 1) * (b.length + 1))).map fun r => if p ≤ r then tl a b (r / (b.length + 1)) (r % (b.length + 1)) else 0
def flV (a b : List Int) (p : Nat) (v : Int) : List Int := (List.range ((a.length + 1) * (b.length + 1))).map fun r => if r = p then v else if p ≤ r then tl a b (r / (b.length + 1)) (r % (b.length + 1)) else 0
/-- the first place in b from k on with which v is reached. -/
def frF (a b : List Int) (v : Int) (x : Nat) : Nat → Nat → Option Nat
 | 0, _ => none
 | n + 1, y => if (match a[x]?, b[y]? with
  | some p, some q => decide (p = q) && decide (1 + tl a b (x + 1) (y + 1) = v)
  | _, _ => false) = true then some y else frF a b v x n (y + 1)
def frX (a b : List Int) (v : Int) (k : Nat) : Nat → Nat → Nat × Nat
 | 0, _ => (a.length, b.length)
 | n + 1, x => match frF a b v x (b.length - k) k with
  | some y => (x, y)
  | none => frX a b v k n (x + 1)
def frst (a b : List Int) (i k : Nat) : Nat × Nat := frX a b (tl a b i k) k (a.length - i) i
end Go.Proofs.YtgcmppghjfidfaaGreatDoor
/-
 Chapter 8: pairs that are kept (the reference answers as the program).
-/
namespace Go.Proofs.YtgcmppghjfidfaaGreatDoor
open Go Go.Vx
set_option maxRecDepth 20000
theorem keF_some {a b : List Int} {i f : Nat} (hi : i < a.length) : ∀ n y k, y + n = b.length → keF a b i f n y = some k → ∃ h : k < b.length, a[i] = b[k] ∧ tl a b (i + 1) (k + 1) + 1 = tl a b i f
 | 0, y, k, _, hN => by simp [keF] at hN
 | n + 1, y, k, hn, hN => by
  unfold keF at hN
  split at hN
  ·rename_i q
   cases hN
   have h : y < b.length := by omega
   simp only [keP, List.getElem?_eq_getElem hi, List.getElem?_eq_getElem h, Bool.and_eq_true, decide_eq_true_eq] at q
   exact ⟨h, q⟩
  ·exact keF_some hi n (y + 1) k (by omega) hN
end Go.Proofs.YtgcmppghjfidfaaGreatDoor
/-
 Chapter 8: what stands more often: both ways answer the same; what is not kept is at least what moves.
-/
namespace Go.Proofs.YtgcmppghjfidfaaGreatDoor
open Go Go.Vx
set_option maxRecDepth 20000
theorem insS_cons (y : Int) (l : List Int) (x : Int) : insS (y :: l) x = if y ≤ x then y :: insS l x else x :: y :: l := by
 unfold insS
 by_cases h : y ≤ x
 ·simp [List.takeWhile_cons, List.dropWhile_cons, h]
 ·simp [List.takeWhile_cons, List.dropWhile_cons, h]
theorem insS_nil (x : Int) : insS [] x = [x] := rfl
theorem insS_count (x z : Int) : ∀ l, (insS l x).count z = l.count z + if x = z then 1 else 0
 | [] => by rw [insS_nil, List.count_singleton]; simp [beq_iff_eq]
 | y :: l => by
  rw [insS_cons]
  split
  ·rw [List.count_cons, List.count_cons, insS_count x z l]; omega
  ·rw [List.count_cons]; simp [beq_iff_eq]
theorem insS_mem {x z : Int} {l : List Int} (h : z ∈ insS l x) : z = x ∨ z ∈ l := by
 have := List.count_pos_iff.2 h
 rw [insS_count] at this
 by_cases e : x = z
 ·exact .inl e.symm
 ·rw [if_neg e, Nat.add_zero] at this; exact .inr (List.count_pos_iff.1 this)
theorem insS_sorted (x : Int) : ∀ {l : List Int}, l.Pairwise (· ≤ ·) → (insS l x).Pairwise (· ≤ ·)
 | [], _ => by rw [insS_nil]; exact List.pairwise_singleton _ _
 | y :: l, h => by
  rw [List.pairwise_cons] at h
  rw [insS_cons]
  split
  ·rename_i hy
   rw [List.pairwise_cons]
   refine ⟨fun z hz => ?_, insS_sorted x h.2⟩
   rcases insS_mem hz with rfl | hz
   ·exact hy
   ·exact h.1 z hz
  ·rename_i hy
   rw [List.pairwise_cons, List.pairwise_cons]
   refine ⟨fun z hz => ?_, h⟩
   rcases List.mem_cons.1 hz with rfl | hz
   ·omega
   ·have := h.1 z hz; omega
theorem moreR_sorted (a b : List Int) : ∀ k, (moreR a b k).Pairwise (· ≤ ·)
 | 0 => List.Pairwise.nil
 | k + 1 => by
  rw [moreR]
  split
  ·exact insS_sorted _ (moreR_sorted a b k)
  ·exact moreR_sorted a b k
theorem moreR_count (a b : List Int) (x : Int) : ∀ k, k ≤ a.length → (moreR a b k).count x = (a.take k).count x - b.count x
 | 0, _ => by simp [moreR]
 | k + 1, h => by
  have ih := moreR_count a b x k (by omega)
  have hs := cnt_succ (l := a) (k := k) (by omega) x
  rw [moreR, List.getElem?_eq_getElem (show k < a.length by omega), Option.getD_some, hs]
  split
  ·rename_i hc
   rw [insS_count, ih]
   by_cases e : a[k] = x
   ·rw [e] at hc; rw [if_pos e]; omega
   ·rw [if_neg e]; omega
  ·rename_i hc
   rw [ih]
   by_cases e : a[k] = x
   ·rw [e] at hc; rw [if_pos e]; omega
   ·rw [if_neg e]; omega
theorem moreP_count (b s : List Int) (x : Int) : ∀ k, k ≤ s.length → (moreP b s k).count x = (s.take k).count x - b.count x
 | 0, _ => by simp [moreP]
 | k + 1, h => by
  have ih := moreP_count b s x k (by omega)
  have hs := cnt_succ (l := s) (k := k) (by omega) x
  rw [moreP, List.getElem?_eq_getElem (show k < s.length by omega), Option.getD_some, hs, List.count_append, ih]
  split
  ·rename_i hc
   rw [List.count_singleton]
   by_cases e : s[k] = x
   ·rw [e] at hc; simp only [e, beq_self_eq_true, if_true]; omega
   ·simp only [beq_iff_eq, e, if_false]; omega
  ·rename_i hc
   by_cases e : s[k] = x
   ·rw [e] at hc; rw [if_pos e]; simp; omega
   ·rw [if_neg e]; simp
theorem moreP_sub (b s : List Int) : ∀ k, k ≤ s.length → (moreP b s k).Sublist (s.take k)
 | 0, _ => by simp [moreP]
 | k + 1, h => by
  have ih := moreP_sub b s k (by omega)
  rw [moreP, List.getElem?_eq_getElem (show k < s.length by omega), Option.getD_some, List.take_succ_eq_append_getElem (show k < s.length by omega)]
  refine List.Sublist.append ih ?_
  split
  ·exact List.Sublist.refl _
  ·exact List.nil_sublist _
theorem sortI_sorted (l : List Int) : (sortI l).Pairwise (· ≤ ·) := by
 have h := List.pairwise_mergeSort (le := fun x y : Int => decide (x ≤ y)) (fun a b c h1 h2 => by simp only [decide_eq_true_eq] at *; omega) (fun a b => by simp only [Bool.or_eq_true, decide_eq_true_eq]; omega) l
 exact h.imp (fun h => by simpa using h)
theorem sortI_len (l : List Int) : (sortI l).length = l.length := List.length_mergeSort _
theorem more_eq (a b : List Int) : moreP b (sortI a) a.length = moreR a b a.length := by
 have hl := sortI_len a
 have hs := moreP_sub b (sortI a) a.length (by omega)
 refine List.Perm.eq_of_pairwise (le := fun x y : Int => x ≤ y) (fun x y _ _ h1 h2 => by omega) ((sortI_sorted a).sublist (hs.trans (List.take_sublist _ _))) (moreR_sorted a b _) ?_
 rw [List.perm_iff_count]
 intro x
 rw [moreP_count b _ x _ (by omega), moreR_count a b x _ (Nat.le_refl _), ← hl, List.take_length, hl, List.take_length, show (sortI a).count x = a.count x from (List.mergeSort_perm a _).count_eq x]
theorem len_of_count : ∀ (l m : List Int), (∀ x, l.count x ≤ m.count x) → l.length ≤ m.length
 | [], m, _ => Nat.zero_le _
 | y :: l, m, h => by
  have h0 := h y
  rw [List.count_cons_self] at h0
  have hm : y ∈ m := List.count_pos_iff.1 (by omega)
  have ih := len_of_count l (m.erase y) fun x => by
   have := h x
   rw [List.count_cons] at this
   rw [List.count_erase]
   split at this <;> rename_i e
   ·rw [if_pos e]; omega
   ·rw [if_neg e]; omega
  have := List.length_pos_of_mem hm
  rw [List.length_erase_of_mem hm] at ih
  rw [List.length_cons]; omega
def kA (a : List Int) (ps : List (Nat × Nat)) : List Int := ps.map fun p => a[p.1]?.getD 0
def kB (b : List Int) (ps : List (Nat × Nat)) : List Int := ps.map fun p => b[p.2]?.getD 0
theorem take_sub {l : List Int} {i k : Nat} (h : i ≤ k) : (l.take i).Sublist (l.take k) := List.take_sublist_take_left h
theorem kept_sub (a b : List Int) : ∀ i, i ≤ a.length → (kA a (keS a b i).1).Sublist (a.take i) ∧ (kB b (keS a b i).1).Sublist (b.take (keS a b i).2) ∧ kA a (keS a b i).1 = kB b (keS a b i).1
 | 0, _ => by simp [keS, kA, kB]
 | i + 1, h => by
  obtain ⟨h1, h2, h3⟩ := kept_sub a b i (by omega)
  obtain ⟨hb1, hb2⟩ := keS_b a b i
  have hi : i < a.length := by omega
  cases hN : keF a b i (keS a b i).2 (b.length - (keS a b i).2) (keS a b i).2 with
  | some y =>
   obtain ⟨q1, q2, q3⟩ := keF_some hi (b.length - (keS a b i).2) (keS a b i).2 _ (by omega) hN
   have q4 := keF_b a b i _ _ _ _ hN
   have hs : keS a b (i + 1) = ((keS a b i).1 ++ [(i, y)], y + 1) := by rw [keS, keN, hN]
   have e1 : kA a ((keS a b i).1 ++ [(i, y)]) = kA a (keS a b i).1 ++ [a[i]] := by simp [kA, hi]
   have e2 : kB b ((keS a b i).1 ++ [(i, y)]) = kB b (keS a b i).1 ++ [b[y]] := by simp [kB, q1]
   rw [hs]
   simp only [e1, e2]
   refine ⟨?_, ?_, by rw [h3, q2]⟩
   ·rw [List.take_succ_eq_append_getElem hi]; exact h1.append (List.Sublist.refl _)
   ·rw [List.take_succ_eq_append_getElem q1]; exact (h2.trans (take_sub q4.1)).append (List.Sublist.refl _)
  | none =>
   have hs : keS a b (i + 1) = keS a b i := by rw [keS, keN, hN]
   rw [hs]
   exact ⟨h1.trans (take_sub (Nat.le_succ _)), h2, h3⟩
theorem kept_le (a b : List Int) : (moreR a b a.length).length + (keptL a b).length ≤ a.length ∧ (moreR b a b.length).length + (keptL a b).length ≤ b.length := by
 obtain ⟨h1, h2, h3⟩ := kept_sub a b a.length (Nat.le_refl _)
 rw [List.take_length] at h1
 have h2 := h2.trans (List.take_sublist _ _)
 have hl : (kA a (keS a b a.length).1).length = (keptL a b).length := by simp [kA, keptL]
 rw [← h3] at h2
 constructor
 ·rw [← hl, ← List.length_append]
  refine len_of_count _ _ fun x => ?_
  rw [List.count_append, moreR_count a b x _ (Nat.le_refl _), List.take_length]
  have := h1.count_le x; have := h2.count_le x
  omega
 ·rw [← hl, ← List.length_append]
  refine len_of_count _ _ fun x => ?_
  rw [List.count_append, moreR_count b a x _ (Nat.le_refl _), List.take_length]
  have := h1.count_le x; have := h2.count_le x
  omega
def tmSV (v : List Int × List Int) : SV := .agg [.sl true 1 (v.1.map eI), .sl true 1 (v.2.map eI)]
theorem tmSV_at (p q : List Int) : tmSV (p, q) = .agg [.sl true 1 (p.map eI), .sl true 1 (q.map eI)] := rfl
def tmV (a b : List Int) : (List Int × List Int) × Int := if a.length ≤ 300 ∧ b.length ≤ 300 then ((moreR a b a.length, moreR b a b.length), 0) else (([], []), 8)
theorem typeMoves_s (a b : List Int) (ha : a.length ≤ 1000) (hb : b.length ≤ 1000) : Ctr Tryz.prog 29 [.sl true 1 (a.map eI), .sl true 1 (b.map eI)] (fun rr => rr = ⟨.tup [tmSV (tmV a b).1, (.v (.int .i64 ((tmV a b).2)))], []⟩) := by
 have encs := And.intro encs tmSV_at
 refine Ctr.of (rs := [.cell 4 65, .tmp 5]) Tok true Tryz.func29 rfl rfl rfl rfl (by simp [ofDL]) (fun w0 kp => ?_)
 simp only [↓sx0, sxE, encs, sevalprocAttr]
 have hcs := checkSorts_s true true a b
 by_cases hs : a.length ≤ 300 ∧ b.length ≤ 300
 ·rw [if_pos hs] at hcs
  rw [show tmV a b = ((moreR a b a.length, moreR b a b.length), 0) by rw [tmV, if_pos hs], ← more_eq a b, ← more_eq b a]
  refine CallI.fn (hcs) (by simp only [sx3, encs, sxR, sevalprocAttr] <;> (try simp) <;> (try rfl)) ?_
  simp only [↓sx0, sxE, encs, sevalprocAttr]
  refine BrW.no (by simp) ?_
  simp only [↓sx0, sxE, encs, sevalprocAttr]
  refine CallI.fn (more_s a b ha hb) (by simp only [sx3, encs, sxR, sevalprocAttr] <;> (try simp) <;> (try rfl)) ?_
  simp only [↓sx0, sxE, encs, sevalprocAttr]
  refine CallI.fn (more_s b a hb ha) (by simp only [sx3, encs, sxR, sevalprocAttr] <;> (try simp) <;> (try rfl)) ?_
  simp only [↓sx0, sxE, encs, sevalprocAttr]
  refine EndW.fn ?_ ?_ <;> simp only [sx4, encs, kpLL_map, sxR, sevalprocAttr] <;> (try simp) <;> (try omega)
 ·rw [if_neg hs] at hcs
  rw [show tmV a b = (([], []), 8) by rw [tmV, if_neg hs]]
  refine CallI.fn (hcs) (by simp only [sx3, encs, sxR, sevalprocAttr] <;> (try simp) <;> (try rfl)) ?_
  simp only [↓sx0, sxE, encs, sevalprocAttr]
  refine EndW.fn ?_ ?_ <;> simp only [sx4, encs, kpLL_map, sxR, sevalprocAttr] <;> (try simp) <;> (try omega)
end Go.Proofs.YtgcmppghjfidfaaGreatDoor
/-
 The corrected type: the law, plain parts.
-/
namespace Go.Proofs.YtgcmppghjfidfaaGreatDoor
open Go Go.Vx
set_option maxRecDepth 20000
theorem fox_ap : apA foxL inMk = (fox4, 0) := by kernel_rfl
theorem marked_s : Ctr Tryz.prog 5 [] (fun rr => rr = ⟨(.v (.bool (true))), []⟩) := by
 have hA := Applied_s true true foxL inMk ⟨by decide, by decide⟩
 rw [fox_ap] at hA
 have encs := And.intro encs (And.intro awE prE)
 refine Ctr.of (rs := [.tmp 0]) Tok true Tryz.func5 rfl rfl rfl rfl (by simp [ofDL]) (fun w0 kp => ?_)
 simp only [↓sx0, sxE, encs, sevalprocAttr]
 refine CallI.fn (fox_s) (by simp only [sx3, encs, sxR, sevalprocAttr] <;> (try simp) <;> (try rfl)) ?_
 simp only [↓sx0, sxE, encs, sevalprocAttr]
 refine CallI.fn (hA) (by simp only [sx3, encs, sxR, sevalprocAttr] <;> (try simp) <;> (try rfl)) ?_
 simp only [↓sx0, sxE, encs, sevalprocAttr]
 repeat ((with_reducible refine BrW.yes (by simp) ?_); simp only [↓sx0, sxE, encs, sevalprocAttr])
 repeat ((with_reducible refine Vc.go trivial fun _ => ?_); simp only [↓sx0, sxE, encs, sevalprocAttr])
 refine ⟨by omega, _, rfl, ?_⟩
 simp only [↓sx0, sxE, encs, sevalprocAttr]
 refine CallI.fn (texts_s true false [⟨#[116, 104, 101]⟩, ⟨#[118, 101, 114, 121]⟩, ⟨#[113, 117, 105, 99, 107]⟩, ⟨#[102, 111, 120]⟩] [⟨#[116, 104, 101]⟩, ⟨#[118, 101, 114, 121]⟩, ⟨#[113, 117, 105, 99, 107]⟩, ⟨#[102, 111, 120]⟩] (by decide)) (by simp only [sx3, encs, sxR, sevalprocAttr] <;> (try simp) <;> (try rfl)) ?_
 simp only [↓sx0, sxE, encs, sevalprocAttr]
 refine EndW.fn ?_ ?_ <;> simp only [sx4, encs, kpLL_map, sxR, sevalprocAttr] <;> (try simp) <;> (try omega)
theorem apF_parts : ∀ {ms : List Mk} {l : List Pt} {k : Nat}, (partsErr l).2 = 0 → (apF l k ms).2.2 = 0 → (partsErr (apF l k ms).1).2 = 0
 | [], l, k, h, _ => h
 | m :: ms, l, k, h, h2 => by
  rw [apF] at h2 ⊢
  by_cases hv : (apV l m).2 = 0
  ·rw [if_pos hv] at h2 ⊢
   exact apF_parts (apV_ok hv) h2
  ·rw [if_neg hv] at h2; exact absurd h2 hv
theorem apAll_parts {l : List Pt} {ms : List Mk} (h : (apAll l ms).2.2 = 0) : (partsErr l).2 = 0 ∧ (partsErr (apAll l ms).1).2 = 0 := by
 by_cases h1 : (partsErr l).2 = 0
 ·by_cases h2 : lstErr ms = 0
  ·rw [apAll, if_pos h1, if_pos h2] at h ⊢
   exact ⟨h1, apF_parts h1 h⟩
  ·rw [apAll, if_pos h1, if_neg h2] at h
   exact absurd h h2
 ·rw [apAll, if_neg h1] at h
  exact absurd h h1
theorem sh_len {few most : Nat} {l : List ByteArray} (h : Sh few most l) (hf : few ≤ most) (hm : most ≤ 900) : l.length ≤ 1000 ∧ ∀ s ∈ l, s.size ≤ 40 := by
 obtain ⟨h1, h2⟩ := h
 refine ⟨by omega, fun s hs => ?_⟩
 obtain ⟨j, hj, rfl⟩ := List.getElem_of_mem hs
 exact h2 j hj
theorem more_cnt (a b : List Int) (x : Int) : (moreR a b a.length).count x = a.count x - b.count x := by
 rw [moreR_count a b x _ (Nat.le_refl _), List.take_length]
end Go.Proofs.YtgcmppghjfidfaaGreatDoor
/-
  The corrected type: the law.
-/
namespace Go.Proofs.YtgcmppghjfidfaaGreatDoor
open Go Go.Vx
set_option maxRecDepth 20000
set_option maxHeartbeats 64000000 in
theorem correctedLaw_s (n : ByteArray) (bd : Int) (l : List Srt) (pt ex br : List ByteArray) (lf rt : Int) (lp : List Pt) (ms : List Mk) (hl : l.length ≤ maxLen) (hpt : pt.length ≤ maxLen) (hex : ex.length ≤ maxLen) (hbr : br.length ≤ maxLen)
    (hlp : lp.length ≤ maxLen) (hw : ∀ p ∈ lp, p.words.length ≤ maxLen) (hms : ms.length ≤ maxLen) :
    CtrK glob Tryz.prog 4 [.agg [(.v (.string (n))), (.v (.int .i64 bd)), .sl true 4 (l.map eT), .sl true 1 (pt.map eS), .sl true 1 (ex.map eS), .sl true 1 (br.map eS), (.v (.int .i64 lf)), (.v (.int .i64 rt))], .sl true 2 (lp.map (eP true)), .sl true 7 (ms.map eM)] (fun rr => rr = ⟨(.v (.bool (true))), []⟩) := by
  have hmx : maxLen = 9223372036854775807 := rfl
  have encs := And.intro encs eT_def
  refine CtrK.of (rs := [.tmp 6]) Tok true Tryz.func4 rfl rfl rfl rfl (by simp [ofDL]) (fun w0 kp hgl => ?_)
  simp only [↓sx0, sxE, encs, sevalprocAttr]
  refine CallI.fn (marked_s) (by simp only [sx3, encs, sxR, sevalprocAttr] <;> (try simp) <;> (try rfl)) ?_
  simp only [↓sx0, sxE, encs, sevalprocAttr]
  refine DrawW.plan Tok mixed (.q 0 <| .q 1 <| .q 2 <| .q 3 <| .e2 4 [1, 3] (.e 5 [1, 3] <| .e 6 [3] <| .e 7 [] <| .done) 5 [1, 3] (.e 4 [1, 3] <| .e 6 [3] <| .e 7 [] <| .done)) (by kernel_rfl) (by kernel_rfl) ?_
  simp only [↓sx0, sxE, encs, sevalprocAttr]
  refine And.intro ?_ ?_
  all_goals
    refine CallI.ctr (fewF_s n bd true l hl) (by simp only [sx3, encs, sxR, sevalprocAttr] <;> (try simp) <;> (try rfl)) ?_
    rintro _ ⟨e1, rfl, k1⟩
    simp only [↓sx0, sxE, encs, sevalprocAttr]
    refine BrW.of (fun c1 => ?_) (fun c1 => ?_)
    rotate_left
    · repeat' (first | (with_reducible refine BrW.yes (by omega) ?_) | (with_reducible refine BrW.no (by omega) ?_) | (with_reducible refine BrW.dec (fun _ => ?_) (fun _ => ?_)) | (with_reducible refine BrW.of (fun _ => ?_) (fun _ => ?_)) | ((with_reducible refine Vc.go ?_ fun _ => ?_); (focus (first | omega | (simp only [InK]; omega) | (simp [InK] <;> omega)))) | simp only [↓sx0, sxE, encs, sevalprocAttr])
      all_goals (refine EndW.fn ?_ ?_ <;> simp only [sx4, encs, kpLL_map, sxR, sevalprocAttr] <;> (try simp) <;> (try omega))
    have k1 := k1 c1
    simp only [↓sx0, sxE, encs, sevalprocAttr]
    refine CallI.ctr (shortR_s true true true pt ex br lf rt hpt hex hbr) (by simp only [sx3, encs, sxR, sevalprocAttr] <;> (try simp) <;> (try rfl)) ?_
    rintro _ ⟨e2, rfl, k2⟩
    simp only [↓sx0, sxE, encs, sevalprocAttr]
    refine BrW.of (fun c2 => ?_) (fun c2 => ?_)
    rotate_left
    · repeat' (first | (with_reducible refine BrW.yes (by omega) ?_) | (with_reducible refine BrW.no (by omega) ?_) | (with_reducible refine BrW.dec (fun _ => ?_) (fun _ => ?_)) | (with_reducible refine BrW.of (fun _ => ?_) (fun _ => ?_)) | ((with_reducible refine Vc.go ?_ fun _ => ?_); (focus (first | omega | (simp only [InK]; omega) | (simp [InK] <;> omega)))) | simp only [↓sx0, sxE, encs, sevalprocAttr])
      all_goals (refine EndW.fn ?_ ?_ <;> simp only [sx4, encs, kpLL_map, sxR, sevalprocAttr] <;> (try simp) <;> (try omega))
    obtain ⟨kp1, kp2, kp3⟩ := k2 c2
    obtain ⟨np, sp⟩ := sh_len kp1 (by omega) (by omega)
    obtain ⟨nx, sx'⟩ := sh_len kp2 (by omega) (by omega)
    obtain ⟨nb, sb⟩ := sh_len kp3 (by omega) (by omega)
    simp only [↓sx0, sxE, encs, sevalprocAttr]
    refine CallI.fn (lightS_s true true lp hlp hw) (by simp only [sx3, encs, sxR, sevalprocAttr] <;> (try simp) <;> (try rfl)) ?_
    simp only [↓sx0, sxE, encs, sevalprocAttr]
    refine BrW.of (fun c3 => ?_) (fun c3 => ?_)
    rotate_left
    · repeat' (first | (with_reducible refine BrW.yes (by omega) ?_) | (with_reducible refine BrW.no (by omega) ?_) | (with_reducible refine BrW.dec (fun _ => ?_) (fun _ => ?_)) | (with_reducible refine BrW.of (fun _ => ?_) (fun _ => ?_)) | ((with_reducible refine Vc.go ?_ fun _ => ?_); (focus (first | omega | (simp only [InK]; omega) | (simp [InK] <;> omega)))) | simp only [↓sx0, sxE, encs, sevalprocAttr])
      all_goals (refine EndW.fn ?_ ?_ <;> simp only [sx4, encs, kpLL_map, sxR, sevalprocAttr] <;> (try simp) <;> (try omega))
    obtain ⟨l62, lw⟩ := ltB2_ok c3
    have lw2 : ∀ p ∈ lp, p.words.length ≤ 1000 ∧ ∀ w ∈ p.words, w.size ≤ 40 := fun p hp => sh_len (lw p hp) (by omega) (by omega)
    simp only [↓sx0, sxE, encs, sevalprocAttr]
    refine CallI.fn (few_s true ms hms) (by simp only [sx3, encs, sxR, sevalprocAttr] <;> (try simp) <;> (try rfl)) ?_
    simp only [↓sx0, sxE, encs, sevalprocAttr]
    refine BrW.of (fun c4 => ?_) (fun c4 => ?_)
    rotate_left
    · repeat' (first | (with_reducible refine BrW.yes (by omega) ?_) | (with_reducible refine BrW.no (by omega) ?_) | (with_reducible refine BrW.dec (fun _ => ?_) (fun _ => ?_)) | (with_reducible refine BrW.of (fun _ => ?_) (fun _ => ?_)) | ((with_reducible refine Vc.go ?_ fun _ => ?_); (focus (first | omega | (simp only [InK]; omega) | (simp [InK] <;> omega)))) | simp only [↓sx0, sxE, encs, sevalprocAttr])
      all_goals (refine EndW.fn ?_ ?_ <;> simp only [sx4, encs, kpLL_map, sxR, sevalprocAttr] <;> (try simp) <;> (try omega))
    obtain ⟨zb, m62⟩ := few_all c4
    have hsrt : ∀ s ∈ l, SrtOk s := fun s hs => by
      obtain ⟨j, hj, rfl⟩ := List.getElem_of_mem hs
      have := k1.2.2 j hj
      exact ⟨by omega, by omega⟩
    have l122 : l.length ≤ 122 := by have := k1.2.1; omega
    have hn : n.size ≤ 1000000000 := by have := k1.1; omega
    simp only [↓sx0, sxE, encs, sevalprocAttr]
    refine CallI.ctr (fountErr_s n bd true l hn (by omega) hsrt) (by simp only [sx3, encs, sxR, sevalprocAttr] <;> (try simp) <;> (try rfl)) ?_
    rintro _ ⟨e5, rfl, k5⟩
    simp only [↓sx0, sxE, encs, sevalprocAttr]
    refine BrW.dec (fun c5 => ?_) (fun c5 => ?_)
    · repeat' (first | (with_reducible refine BrW.yes (by omega) ?_) | (with_reducible refine BrW.no (by omega) ?_) | (with_reducible refine BrW.dec (fun _ => ?_) (fun _ => ?_)) | (with_reducible refine BrW.of (fun _ => ?_) (fun _ => ?_)) | ((with_reducible refine Vc.go ?_ fun _ => ?_); (focus (first | omega | (simp only [InK]; omega) | (simp [InK] <;> omega)))) | simp only [↓sx0, sxE, encs, sevalprocAttr])
      all_goals (refine EndW.fn ?_ ?_ <;> simp only [sx4, encs, kpLL_map, sxR, sevalprocAttr] <;> (try simp) <;> (try omega))
    have hok := k5 (by omega)
    simp only [↓sx0, sxE, encs, sevalprocAttr]
    refine CallI.ctr (errR_s true true true pt ex br lf rt ⟨by omega, fun s hs => by have := sp s hs; omega⟩ ⟨by omega, fun s hs => by have := sx' s hs; omega⟩ ⟨by omega, fun s hs => by have := sb s hs; omega⟩) (by simp only [sx3, encs, sxR, sevalprocAttr] <;> (try simp) <;> (try rfl)) ?_
    rintro _ ⟨e6, rfl, k6⟩
    simp only [↓sx0, sxE, encs, sevalprocAttr]
    refine BrW.dec (fun c6 => ?_) (fun c6 => ?_)
    · repeat' (first | (with_reducible refine BrW.yes (by omega) ?_) | (with_reducible refine BrW.no (by omega) ?_) | (with_reducible refine BrW.dec (fun _ => ?_) (fun _ => ?_)) | (with_reducible refine BrW.of (fun _ => ?_) (fun _ => ?_)) | ((with_reducible refine Vc.go ?_ fun _ => ?_); (focus (first | omega | (simp only [InK]; omega) | (simp [InK] <;> omega)))) | simp only [↓sx0, sxE, encs, sevalprocAttr])
      all_goals (refine EndW.fn ?_ ?_ <;> simp only [sx4, encs, kpLL_map, sxR, sevalprocAttr] <;> (try simp) <;> (try omega))
    have hr := k6 (by omega)
    simp only [↓sx0, sxE, encs, sevalprocAttr]
    refine CallI.fn (copyOf_s true true lp (by omega) (fun p hp => by have := (lw2 p hp).1; omega)) (by simp only [sx3, encs, sxR, sevalprocAttr] <;> (try simp) <;> (try rfl)) ?_
    simp only [↓sx0, sxE, encs, sevalprocAttr]
    refine CallI.fn (copyMarks_s true ms (by omega)) (by simp only [sx3, encs, sxR, sevalprocAttr] <;> (try simp) <;> (try rfl)) ?_
    simp only [↓sx0, sxE, encs, sevalprocAttr]
    have hA := AppliedAll_s true true true lp ms zb (by omega)
    have hap := apAll_parts (l := lp) (ms := ms)
    generalize apAll lp ms = W at hA hap
    obtain ⟨now, kx, ex'⟩ := W
    simp only at hA hap
    refine CallI.fn (hA) (by simp only [sx3, encs, sxR, sevalprocAttr] <;> (try simp) <;> (try rfl)) ?_
    simp only [↓sx0, sxE, encs, sevalprocAttr]
    refine BrW.dec (fun c7 => ?_) (fun c7 => ?_)
    · repeat' (first | (with_reducible refine BrW.yes (by omega) ?_) | (with_reducible refine BrW.no (by omega) ?_) | simp only [↓sx0, sxE, encs, sevalprocAttr])
      have : decide (¬ ex' = 0) = true := decide_eq_true c7
      all_goals (refine EndW.fn ?_ ?_ <;> simp only [sx4, encs, kpLL_map, sxR, sevalprocAttr] <;> (try simp [this]) <;> (try omega))
    obtain ⟨hpe, hpn⟩ := hap (by omega)
    obtain ⟨n60, nw⟩ := parts_ok hpn
    simp only [↓sx0, sxE, encs, sevalprocAttr]
    have hL2 := lightS_s true true now (by omega) (fun p hp => by have := nw p hp; omega)
    refine CallI.fn (hL2) (by simp only [sx3, encs, sxR, sevalprocAttr] <;> (try simp) <;> (try rfl)) ?_
    simp only [↓sx0, sxE, encs, sevalprocAttr]
    refine BrW.of (fun c8 => ?_) (fun c8 => ?_)
    rotate_left
    · rw [c8] at hL2
      repeat' (first | (with_reducible refine BrW.yes (by omega) ?_) | (with_reducible refine BrW.no (by omega) ?_) | simp only [↓sx0, sxE, encs, sevalprocAttr] | (refine CallI.fn hL2 ?_ ?_; (focus ((simp only [sx3, encs, sxR, sevalprocAttr] <;> (try simp) <;> (try rfl)); done))) | (with_reducible refine BrW.dec (fun _ => ?_) (fun _ => ?_)))
      all_goals (refine EndW.fn ?_ ?_ <;> simp only [sx4, encs, kpLL_map, sxR, sevalprocAttr] <;> (try simp) <;> (try omega))
    obtain ⟨m5, mw⟩ := ltB2_ok c8
    have mw2 : ∀ p ∈ now, p.words.length ≤ 1000 ∧ ∀ w ∈ p.words, w.size ≤ 40 := fun p hp => sh_len (mw p hp) (by omega) (by omega)
    simp only [↓sx0, sxE, encs, sevalprocAttr]
    have hsb : ∀ s ∈ br, s.size ≤ 1000000 := fun s hs => by have := sb s hs; omega
    have hsx : ∀ s ∈ ex, s.size ≤ 1000000 := fun s hs => by have := sx' s hs; omega
    have hsp : ∀ s ∈ pt, s.size ≤ 1000000 := fun s hs => by have := sp s hs; omega
    refine CallI.ctrK (sortsOf_s n bd l pt ex br lp true true lf rt hn hsrt hok hsp hsx hsb hr (by omega) (fun p hp => ⟨(lw2 p hp).1, fun w hw => by have := (lw2 p hp).2 w hw; omega⟩) ⟨by omega, by omega, by omega⟩) glob_ok hgl rfl (by simp only [sx3, encs, sxR, sevalprocAttr] <;> (try simp) <;> (try rfl)) ?_
    rintro _ ⟨g, a, rfl, hal, hga⟩
    simp only [↓sx0, sxE, encs, sevalprocAttr]
    refine CallI.ctrK (sortsOf_s n bd l pt ex br now true true lf rt hn hsrt hok hsp hsx hsb hr (by omega) (fun p hp => ⟨(mw2 p hp).1, fun w hw => by have := (mw2 p hp).2 w hw; omega⟩) ⟨by omega, by omega, by omega⟩) glob_ok hgl rfl (by simp only [sx3, encs, sxR, sevalprocAttr] <;> (try simp) <;> (try rfl)) ?_
    rintro _ ⟨g2, b, rfl, hbl, hgb⟩
    simp only [↓sx0, sxE, encs, sevalprocAttr]
    by_cases hall : g = 0 ∧ g2 = 0 ∧ a.length ≤ 300 ∧ b.length ≤ 300
    rotate_left
    · repeat' (first | (with_reducible refine BrW.yes (by omega) ?_) | (with_reducible refine BrW.no (by omega) ?_) | (with_reducible refine BrW.dec (fun _ => ?_) (fun _ => ?_)) | simp only [↓sx0, sxE, encs, sevalprocAttr])
      all_goals first
        | (exfalso; omega)
        | (refine EndW.fn ?_ ?_ <;> simp only [sx4, encs, kpLL_map, sxR, sevalprocAttr] <;> (try simp) <;> (try omega)
           done)
    obtain ⟨hg0, hg20, ha3, hb3⟩ := hall
    obtain ⟨qa, hqa, rfl⟩ := hga hg0
    obtain ⟨qb, hqb, rfl⟩ := hgb hg20
    repeat' (first | (with_reducible refine BrW.yes (by omega) ?_) | (with_reducible refine BrW.no (by omega) ?_) | simp only [↓sx0, sxE, encs, sevalprocAttr])
    have hC1 := copyFount_s n bd true l (by omega)
    have hC2 := copyRules_s true true true pt ex br lf rt (by omega) (by omega) (by omega)
    have hC3 := copyOf_s true true lp (by omega) (fun p hp => by have := (lw2 p hp).1; omega)
    have hC4 := copyOf_s true true now (by omega) (fun p hp => by have := (mw2 p hp).1; omega)
    have hN1 := needs_s n bd l pt ex br lp lf rt hn hsrt hok hsp hsx hsb hr hpe (fun p hp => ⟨by have := (lw2 p hp).1; omega, fun w hw => by have := (lw2 p hp).2 w hw; omega⟩) (by omega) qa hqa (by omega)
    have hN2 := needs_s n bd l pt ex br now lf rt hn hsrt hok hsp hsx hsb hr hpn (fun p hp => ⟨by have := (mw2 p hp).1; omega, fun w hw => by have := (mw2 p hp).2 w hw; omega⟩) (by omega) qb hqb (by omega)
    clear hqa hqb hga hgb
    generalize qa.flatten.flatten = a at *
    generalize qb.flatten.flatten = b at *
    have hT := typeMoves_s a b (by omega) (by omega)
    rw [show tmV a b = ((moreR a b a.length, moreR b a b.length), 0) by rw [tmV, if_pos ⟨ha3, hb3⟩]] at hT
    simp only [tmSV_at] at hT
    have hK := kept_s true true a b
    rw [show keptV a b = (keptL a b, 0) by rw [keptV, if_pos ⟨ha3, hb3⟩]] at hK
    simp only at hK
    obtain ⟨hk1, hk2⟩ := kept_le a b
    have hca := more_cnt a b
    have hcb := more_cnt b a
    have hma := count_le (moreR a b a.length)
    have hmb := count_le (moreR b a b.length)
    generalize moreR a b a.length = m1 at *
    generalize moreR b a b.length = m2 at *
    generalize keptL a b = kl at *
    refine DrawW.plan Tok mixed (.q 0 <| .q 2 <| .q 4 <| .e 1 [2] <| .e 3 [] <| .e 5 [] <| .e 6 [] <| .q 7 <| .q 8 <| .q 9 <| .q 10 <| .q 11 <| .done) (by kernel_rfl) (by kernel_rfl) ?_
    simp only [↓sx0, sxE, encs, sevalprocAttr]
    repeat' (first | (with_reducible refine And.intro ?_ ?_) | ((with_reducible refine Vc.go ?_ fun _ => ?_); (focus (first | trivial | omega | (simp only [InK]; omega) | (simp [InK] <;> omega))); (try simp only [↓sx0, sxE, encs, sevalprocAttr])) | (refine CallI.fn (hC1) ?_ ?_; (focus ((simp only [sx3, encs, sxR, sevalprocAttr] <;> (try simp) <;> (try rfl)); done)); (try simp only [↓sx0, sxE, encs, sevalprocAttr])) | (refine CallI.fn (hC2) ?_ ?_; (focus ((simp only [sx3, encs, sxR, sevalprocAttr] <;> (try simp) <;> (try rfl)); done)); (try simp only [↓sx0, sxE, encs, sevalprocAttr])) | (refine CallI.fn (hC3) ?_ ?_; (focus ((simp only [sx3, encs, sxR, sevalprocAttr] <;> (try simp) <;> (try rfl)); done)); (try simp only [↓sx0, sxE, encs, sevalprocAttr])))
    refine CallI.fnK (hN1) glob_ok hgl rfl (by simp only [sx3, encs, sxR, sevalprocAttr] <;> (try simp) <;> (try rfl)) ?_
    simp only [↓sx0, sxE, encs, sevalprocAttr]
    refine DrawW.plan Tok mixed (.q 0 <| .q 2 <| .q 4 <| .e 1 [2] <| .e 3 [] <| .e 5 [] <| .e 6 [] <| .q 7 <| .q 8 <| .q 9 <| .q 10 <| .q 11 <| .done) (by kernel_rfl) (by kernel_rfl) ?_
    simp only [↓sx0, sxE, encs, sevalprocAttr]
    repeat' (first | (with_reducible refine And.intro ?_ ?_) | ((with_reducible refine Vc.go ?_ fun _ => ?_); (focus (first | trivial | omega | (simp only [InK]; omega) | (simp [InK] <;> omega))); (try simp only [↓sx0, sxE, encs, sevalprocAttr])) | (refine CallI.fn (hC1) ?_ ?_; (focus ((simp only [sx3, encs, sxR, sevalprocAttr] <;> (try simp) <;> (try rfl)); done)); (try simp only [↓sx0, sxE, encs, sevalprocAttr])) | (refine CallI.fn (hC2) ?_ ?_; (focus ((simp only [sx3, encs, sxR, sevalprocAttr] <;> (try simp) <;> (try rfl)); done)); (try simp only [↓sx0, sxE, encs, sevalprocAttr])) | (refine CallI.fn (hC4) ?_ ?_; (focus ((simp only [sx3, encs, sxR, sevalprocAttr] <;> (try simp) <;> (try rfl)); done)); (try simp only [↓sx0, sxE, encs, sevalprocAttr])))
    refine CallI.fnK (hN2) glob_ok hgl rfl (by simp only [sx3, encs, sxR, sevalprocAttr] <;> (try simp) <;> (try rfl)) ?_
    simp only [↓sx0, sxE, encs, sevalprocAttr]
    have hI1 := copyInts_s true a (by omega)
    have hI2 := copyInts_s true b (by omega)
    refine CallI.fn (hI1) (by simp only [sx3, encs, sxR, sevalprocAttr] <;> (try simp) <;> (try rfl)) ?_
    simp only [↓sx0, sxE, encs, sevalprocAttr]
    refine CallI.fn (hI2) (by simp only [sx3, encs, sxR, sevalprocAttr] <;> (try simp) <;> (try rfl)) ?_
    simp only [↓sx0, sxE, encs, sevalprocAttr]
    refine CallI.fn (hT) (by simp only [sx3, encs, sxR, sevalprocAttr] <;> (try simp) <;> (try rfl)) ?_
    simp only [↓sx0, sxE, encs, sevalprocAttr]
    refine CallI.fn (hI1) (by simp only [sx3, encs, sxR, sevalprocAttr] <;> (try simp) <;> (try rfl)) ?_
    simp only [↓sx0, sxE, encs, sevalprocAttr]
    refine CallI.fn (hI2) (by simp only [sx3, encs, sxR, sevalprocAttr] <;> (try simp) <;> (try rfl)) ?_
    simp only [↓sx0, sxE, encs, sevalprocAttr]
    refine CallI.fn (hK) (by simp only [sx3, encs, sxR, sevalprocAttr] <;> (try simp) <;> (try rfl)) ?_
    simp only [↓sx0, sxE, encs, sevalprocAttr]
    have hcl1 := cntL_len l.length a
    have hcl2 := cntL_len l.length b
    repeat' (first | (with_reducible refine BrW.yes (by omega) ?_) | (with_reducible refine BrW.no (by omega) ?_) | ((with_reducible refine BrW.no ?_ ?_); (focus (simp; done))) | simp only [↓sx0, sxE, encs, sevalprocAttr] | ((with_reducible refine Vc.go ?_ fun _ => ?_); (focus (first | omega | trivial | (simp only [InK]; omega) | (simp [InK] <;> omega)))))
    refine LoopW.comp [16, 18, 20, 24] (by simp only [sx2, encs, sxR, sevalprocAttr] <;> (try simp) <;> (try omega)) ?_
    simp only [sx2, sxR, sevalprocAttr]
    refine LoopW.up Tok (fun k : Nat => [(24, (.v (.int .i64 ((k : Int)))))]) (fun k => []) (fun k => []) (fun k => []) (fun k => k ≤ l.length) (fun k => l.length - k) (0) (by simp only [sx2, encs, sxR, sevalprocAttr] <;> (try simp) <;> (try omega)) ?_ ?_
    · exact Nat.zero_le _
    rintro k hk
    simp only [↓sx0, sxE, encs, sevalprocAttr]
    by_cases hk2 : k < l.length
    · have g1 := cntL_get (show k < (cntL l.length a).length by omega)
      have g2 := cntL_get (show k < (cntL l.length b).length by omega)
      have c1' := hca (k : Int)
      have c2' := hcb (k : Int)
      have c3' := hma (k : Int)
      have c4' := hmb (k : Int)
      have c5' := count_le a (k : Int)
      have c6' := count_le b (k : Int)
      have hT1 := times_s true m1 (k : Int) (by omega)
      have hT2 := times_s true m2 (k : Int) (by omega)
      refine BrW.yes (by omega) ?_
      simp only [↓sx0, sxE, encs, sevalprocAttr]
      refine DrawW.plan Tok mixed (.q 0 <| .q 1 <| .q 2 <| .q 3 <| .q 4 <| .q 5 <| .q 6 <| .q 9 <| .q 10 <| .q 11 <| .q 14 <| .q 15 <| .q 16 <| .q 17 <| .e 7 [3, 10, 17] <| .q 8 <| .e 12 [3, 17] <| .q 13 <| .q 18 <| .q 19 <| .q 20 <| .q 21 <| .q 22 <| .e 23 [] <| .q 24 <| .q 25 <| .q 26 <| .q 27 <| .q 28 <| .e 29 [] <| .q 30 <| .q 31 <| .q 32 <| .done) (by kernel_rfl) (by kernel_rfl) ?_
      simp only [↓sx0, sxE, encs, sevalprocAttr]
      have hka : k < (cntL l.length a).length := by omega
      have hkb : k < (cntL l.length b).length := by omega
      repeat' (first | (with_reducible refine BrW.no (by omega) ?_) | (with_reducible refine BrW.yes (by omega) ?_) | (with_reducible refine IxW.nat hka ?_) | (with_reducible refine IxW.nat hkb ?_) | simp only [↓sx0, sxE, encs, sevalprocAttr] | (refine CallI.fn hT1 ?_ ?_; (focus ((simp only [sx3, encs, sxR, sevalprocAttr] <;> (try simp) <;> (try rfl)); done))) | (refine CallI.fn hT2 ?_ ?_; (focus ((simp only [sx3, encs, sxR, sevalprocAttr] <;> (try simp) <;> (try rfl)); done))) | (with_reducible refine BrW.dec (fun _ => ?_) (fun _ => ?_)) | ((with_reducible refine Vc.go ?_ fun _ => ?_); (focus (first | omega | trivial | (simp only [InK]; omega) | (simp [InK] <;> omega)))))
      all_goals first
        | (exfalso; omega)
        | (refine ⟨k + 1, StLe.auto (by simp only [sx2, encs, sxR, sevalprocAttr] <;> (try simp) <;> (try omega)), ?_, ?_⟩
           · omega
           · omega
           done)
    · refine BrW.no (by omega) ?_
      simp only [↓sx0, sxE, encs, sevalprocAttr]
      refine EndW.fn ?_ ?_ <;> simp only [sx4, encs, kpLL_map, sxR, sevalprocAttr] <;> (try simp) <;> (try omega)
end Go.Proofs.YtgcmppghjfidfaaGreatDoor
