/-
 Chapter 2, walks: rules are checked (the reference).
-/
import Derived.Test.YtgcmppghjfidfaaGreatDoorVGA
import Derived.Test.YtgcmppghjfidfaaGreatDoorVMapT
import Derived.Test.YtgcmppghjfidfaaGreatDoorVB8
import Derived.Test.YtgcmppghjfidfaaGreatDoorVPure
import Derived.WalkKit
import Derived.OneCell
import Derived.Laws.IdiomStrings
set_option linter.unusedSimpArgs false
set_option linter.unusedVariables false
namespace Go.Proofs.YtgcmppghjfidfaaGreatDoor
open Go Go.Vx
set_option maxRecDepth 20000
structure RlOk (pt ex br : List ByteArray) (lf rt : Int) : Prop where
 pats : pt.length ≤ 60 ∧ ∀ k (h : k < pt.length), PG false (stripL pt[k].data.toList) 0 = true
 ex : MkAll 45 true ex
 br : MkAll 124 false br
 side : (1 ≤ lf ∧ lf ≤ 10) ∧ 1 ≤ rt ∧ rt ≤ 10
set_option maxHeartbeats 4000000 in
theorem checkRulesR_s (b1 b2 b3 : Bool) (pt ex br : List ByteArray) (lf rt : Int) (h1 : pt.length ≤ 1000000 ∧ ∀ s ∈ pt, s.size ≤ 1000000) (h2 : ex.length ≤ 1000000 ∧ ∀ s ∈ ex, s.size ≤ 1000000) (h3 : br.length ≤ 1000000 ∧ ∀ s ∈ br, s.size ≤ 1000000) :
  Ctr Tryz.prog 59 [.agg [.sl b1 1 (pt.map eS), .sl b2 1 (ex.map eS), .sl b3 1 (br.map eS), (.v (.int .i64 lf)), (.v (.int .i64 rt))]] (ZII (RlOk pt ex br lf rt)) := by
 refine Ctr.of (rs := [.tmp 2, .tmp 3]) Tok true Tryz.func59 rfl rfl rfl rfl (by simp [ofDL]) (fun w0 kp => ?_)
 simp only [↓sx0, xE, sevalprocAttr]
 refine BrW.dec (fun hlen => ?_) (fun hlen => ?_)
 ·repeat' (first | (with_reducible refine BrW.yes (by omega) ?_) | (with_reducible refine BrW.no (by omega) ?_) | (with_reducible refine BrW.dec (fun _ => ?_) (fun _ => ?_)) | (with_reducible refine BrW.of (fun _ => ?_) (fun _ => ?_)) | ((with_reducible refine Vc.go ?_ fun _ => ?_); (focus (first | omega | (simp only [InK]; omega) | (simp [InK] <;> omega)))) | simp only [↓sx0, xE, sevalprocAttr])
  all_goals exact EndII ⟨_, _, rfl, fun h => by omega⟩
 simp only [↓sx0, xE, sevalprocAttr]
 refine LoopW.comp [1, 4] (by simp only [sx2, xR, sevalprocAttr] <;> (try simp) <;> (try omega)) ?_
 simp only [sx2, sxR, sevalprocAttr]
 refine LoopW.up Tok (fun k : Nat => [(4, (.v (.int .i64 k)))]) (fun k => []) (fun k => []) (fun k => []) (fun k => k ≤ pt.length ∧ ∀ j (_ : j < k) (h : j < pt.length), PG false (stripL pt[j].data.toList) 0 = true) (fun k => pt.length - k) (0) (by simp only [sx2, xR, sevalprocAttr] <;> (try simp) <;> (try omega)) ?_ ?_
 ·exact ⟨by omega, fun j h => by omega⟩
 rintro k ⟨hk, hp⟩
 simp only [↓sx0, xE, sevalprocAttr]
 by_cases hk2 : k < pt.length
 ·refine BrW.yes (by omega) ?_
  simp only [↓sx0, xE, sevalprocAttr]
  refine IxW.nat hk2 ?_
  simp only [↓sx0, xE, sevalprocAttr]
  refine CallI.ctr (readPattern_s pt[k] (h1.2 _ (List.getElem_mem hk2))) (by simp only [sx3, xR, sevalprocAttr] <;> (try simp) <;> (try rfl)) ?_
  rintro _ ⟨it, lv, ok, rfl, hok⟩
  simp only [↓sx0, xE, sevalprocAttr]
  refine BrW.of (fun hbk => ?_) (fun hbk => ?_)
  rotate_left
  ·repeat' (first | (with_reducible refine BrW.yes (by omega) ?_) | (with_reducible refine BrW.no (by omega) ?_) | (with_reducible refine BrW.dec (fun _ => ?_) (fun _ => ?_)) | (with_reducible refine BrW.of (fun _ => ?_) (fun _ => ?_)) | ((with_reducible refine Vc.go ?_ fun _ => ?_); (focus (first | omega | (simp only [InK]; omega) | (simp [InK] <;> omega)))) | simp only [↓sx0, xE, sevalprocAttr])
   all_goals exact EndII ⟨_, _, rfl, fun h => by omega⟩
  repeat' (first | (with_reducible refine BrW.yes (by omega) ?_) | (with_reducible refine BrW.no (by omega) ?_) | (with_reducible refine BrW.dec (fun _ => ?_) (fun _ => ?_)) | (with_reducible refine BrW.of (fun _ => ?_) (fun _ => ?_)) | ((with_reducible refine Vc.go ?_ fun _ => ?_); (focus (first | omega | (simp only [InK]; omega) | (simp [InK] <;> omega)))) | simp only [↓sx0, xE, sevalprocAttr])
  refine ⟨k + 1, StLe.auto (by simp only [sx2, xR, sevalprocAttr] <;> (try simp) <;> (try omega)), ?_, ?_⟩
  ·refine ⟨by omega, fun j h h2 => ?_⟩
   by_cases hjk : j = k
   ·subst hjk; exact hok hbk
   ·exact hp j (by omega) h2
  ·omega
 ·refine BrW.no (by omega) ?_
  simp only [↓sx0, xE, sevalprocAttr]
  refine CallI.ctr (checkMarked_s b2 ex 45 true h2.1 h2.2) (by simp only [sx3, xR, sevalprocAttr] <;> (try simp) <;> (try rfl)) ?_
  rintro _ ⟨i, e, rfl, hex⟩
  simp only [↓sx0, xE, sevalprocAttr]
  refine BrW.dec (fun he => ?_) (fun he => ?_)
  ·repeat' (first | (with_reducible refine BrW.yes (by omega) ?_) | (with_reducible refine BrW.no (by omega) ?_) | (with_reducible refine BrW.dec (fun _ => ?_) (fun _ => ?_)) | (with_reducible refine BrW.of (fun _ => ?_) (fun _ => ?_)) | ((with_reducible refine Vc.go ?_ fun _ => ?_); (focus (first | omega | (simp only [InK]; omega) | (simp [InK] <;> omega)))) | simp only [↓sx0, xE, sevalprocAttr])
   all_goals exact EndII ⟨_, _, rfl, fun h => absurd h he⟩
  simp only [↓sx0, xE, sevalprocAttr]
  refine CallI.ctr (checkMarked_s b3 br 124 false h3.1 h3.2) (by simp only [sx3, xR, sevalprocAttr] <;> (try simp) <;> (try rfl)) ?_
  rintro _ ⟨i2, e2, rfl, hbr⟩
  simp only [↓sx0, xE, sevalprocAttr]
  refine BrW.dec (fun he2 => ?_) (fun he2 => ?_)
  ·repeat' (first | (with_reducible refine BrW.yes (by omega) ?_) | (with_reducible refine BrW.no (by omega) ?_) | (with_reducible refine BrW.dec (fun _ => ?_) (fun _ => ?_)) | (with_reducible refine BrW.of (fun _ => ?_) (fun _ => ?_)) | ((with_reducible refine Vc.go ?_ fun _ => ?_); (focus (first | omega | (simp only [InK]; omega) | (simp [InK] <;> omega)))) | simp only [↓sx0, xE, sevalprocAttr])
   all_goals exact EndII ⟨_, _, rfl, fun h => absurd h he2⟩
  repeat' (first | (with_reducible refine BrW.yes (by omega) ?_) | (with_reducible refine BrW.no (by omega) ?_) | (with_reducible refine BrW.dec (fun _ => ?_) (fun _ => ?_)) | (with_reducible refine BrW.of (fun _ => ?_) (fun _ => ?_)) | ((with_reducible refine Vc.go ?_ fun _ => ?_); (focus (first | omega | (simp only [InK]; omega) | (simp [InK] <;> omega)))) | simp only [↓sx0, xE, sevalprocAttr] | (refine CallI.fn (withinB_s lf 1 10) ?_ ?_; (focus ((simp only [sx3, xR, sevalprocAttr] <;> (try simp) <;> (try rfl)); done))) | (refine CallI.fn (withinB_s rt 1 10) ?_ ?_; (focus ((simp only [sx3, xR, sevalprocAttr] <;> (try simp) <;> (try rfl)); done))))
  all_goals first
   | exact EndII ⟨_, _, rfl, fun h => by omega⟩
   | exact EndII ⟨_, _, rfl, fun h => ⟨⟨by omega, fun j h => hp j (by omega) h⟩, hex (by omega), hbr (by omega), by simp_all⟩⟩
def ZI (p : Prop) (rr : Ret) : Prop := ∃ e : Int, rr = ⟨(.v (.int .i64 e)), []⟩ ∧ (e = 0 → p)
theorem errR_s (b1 b2 b3 : Bool) (pt ex br : List ByteArray) (lf rt : Int) (h1 : pt.length ≤ 1000000 ∧ ∀ s ∈ pt, s.size ≤ 1000000) (h2 : ex.length ≤ 1000000 ∧ ∀ s ∈ ex, s.size ≤ 1000000) (h3 : br.length ≤ 1000000 ∧ ∀ s ∈ br, s.size ≤ 1000000) :
  Ctr Tryz.prog 24 [.agg [.sl b1 1 (pt.map eS), .sl b2 1 (ex.map eS), .sl b3 1 (br.map eS), (.v (.int .i64 lf)), (.v (.int .i64 rt))]] (ZI (RlOk pt ex br lf rt)) := by
 refine Ctr.of (rs := [.tmp 2]) Tok true Tryz.func24 rfl rfl rfl rfl (by simp [ofDL]) (fun w0 kp => ?_)
 simp only [↓sx0, xE, sevalprocAttr]
 refine CallI.ctr (checkRulesR_s b1 b2 b3 pt ex br lf rt h1 h2 h3) (by simp only [sx3, xR, sevalprocAttr] <;> (try simp) <;> (try rfl)) ?_
 rintro _ ⟨i, e, rfl, h⟩
 repeat' (first | (with_reducible refine BrW.yes (by omega) ?_) | (with_reducible refine BrW.no (by omega) ?_) | (with_reducible refine BrW.dec (fun _ => ?_) (fun _ => ?_)) | (with_reducible refine BrW.of (fun _ => ?_) (fun _ => ?_)) | ((with_reducible refine Vc.go ?_ fun _ => ?_); (focus (first | omega | (simp only [InK]; omega) | (simp [InK] <;> omega)))) | simp only [↓sx0, xE, sevalprocAttr])
 exact EndI ⟨_, rfl, h⟩
theorem fountErr_s (n : ByteArray) (bd : Int) (b : Bool) (l : List Srt) (hn : n.size ≤ 1000000000) (hl : l.length ≤ 1000000) (hs : ∀ s ∈ l, SrtOk s) : Ctr Tryz.prog 23 [.agg [(.v (.string (n))), (.v (.int .i64 bd)), .sl b 4 (l.map eT)]] (ZI (FtOk n bd l)) := by
 have encs := And.intro encs eT_def
 refine Ctr.of (rs := [.tmp 2]) Tok true Tryz.func23 rfl rfl rfl rfl (by simp [ofDL]) (fun w0 kp => ?_)
 simp only [↓sx0, sxE, encs, sevalprocAttr]
 refine CallI.ctr (checkFountR_s n bd b l hn hl hs) (by simp only [sx3, encs, sxR, sevalprocAttr] <;> (try simp) <;> (try rfl)) ?_
 rintro _ ⟨i, e, rfl, h⟩
 repeat' (first | (with_reducible refine BrW.yes (by omega) ?_) | (with_reducible refine BrW.no (by omega) ?_) | (with_reducible refine BrW.dec (fun _ => ?_) (fun _ => ?_)) | (with_reducible refine BrW.of (fun _ => ?_) (fun _ => ?_)) | ((with_reducible refine Vc.go ?_ fun _ => ?_); (focus (first | omega | (simp only [InK]; omega) | (simp [InK] <;> omega)))) | simp only [↓sx0, sxE, encs, sevalprocAttr])
 exact EndI ⟨_, rfl, h⟩
end Go.Proofs.YtgcmppghjfidfaaGreatDoor
/-
  Chapter 1, walks: names and what sorts print (the program).
-/
namespace Go.Proofs.YtgcmppghjfidfaaGreatDoor
open Go Go.Vx Go.Shelf Go.RowKit
set_option maxRecDepth 20000
set_option maxHeartbeats 4000000 in
theorem isNameP_s (s : ByteArray) (hs : s.size ≤ 1000000000) : Ctr Tryz.prog 174 [(.v (.string (s)))] (fun rr => rr = ⟨(.v (.bool (namB s))), []⟩) := by
  refine Ctr.of (rs := [.tmp 2]) Tok true Tryz.func174 rfl rfl rfl rfl (by simp [ofDL]) (fun w0 kp => ?_)
  simp only [↓sx0, xE, sevalprocAttr]
  rw [bytesD_len]
  refine LoopW.comp [0, 7, 8, 9] (by simp only [sx2, xR, sevalprocAttr] <;> (try simp) <;> (try omega)) ?_
  simp only [sx2, sxR, sevalprocAttr]
  refine LoopW.up Tok (fun k : Nat => [(9, (.v (.int .i64 k)))]) (fun k => []) (fun k => []) (fun k => []) (fun k => k ≤ s.size ∧ nmY k (s.data.toList.drop k) = nmY 0 s.data.toList) (fun k => s.size - k) (0) (by simp only [sx2, xR, sevalprocAttr] <;> (try simp) <;> (try omega)) ?_ ?_
  · exact ⟨by omega, rfl⟩
  rintro k ⟨hk, ht⟩
  simp only [↓sx0, xE, sevalprocAttr]
  refine BrW.dec (fun hlt => ?_) (fun hlt => ?_)
  · simp only [↓sx0, xE, sevalprocAttr]
    have hl : k < s.data.toList.length := by simpa using (show k < s.size by omega)
    rw [bytesD_eq]
    refine IxW.nat hl ?_
    have hat := nmY_at hl
    generalize hcc : s.data.toList[k] = c at hat ⊢
    clear hcc
    have hc2 := c.toNat_lt
    simp only [↓sx0, xE, sevalprocAttr]
    have hX : nmX k c = decide (((97 ≤ c.toNat ∧ c.toNat ≤ 122) ∨ (65 ≤ c.toNat ∧ c.toNat ≤ 90)) ∨ (k ≠ 0 ∧ (c.toNat = 45 ∨ (48 ≤ c.toNat ∧ c.toNat ≤ 57)))) := by
      simp [nmX, ltB, dgB]
    repeat' (first | (with_reducible refine BrW.yes (by omega) ?_) | (with_reducible refine BrW.no (by omega) ?_) | (with_reducible refine BrW.dec (fun _ => ?_) (fun _ => ?_)) | simp only [↓sx0, xE, sevalprocAttr])
    all_goals first
      | (have hx : nmX k c = false := by rw [hX, decide_eq_false_iff_not]; omega
         have : namB s = false := by rw [namB, ← ht, hat, hx]; simp
         refine EndW.fn ?_ ?_ <;> simp only [sx4, xK, sevalprocAttr] <;> (try simp [this]) <;> (try omega)
         done)
      | (have hx : nmX k c = true := by rw [hX, decide_eq_true_iff]; omega
         (with_reducible refine Vc.go ?_ fun _ => ?_); focus (first | omega | (simp only [InK]; omega) | (simp [InK] <;> omega))
         simp only [↓sx0, xE, sevalprocAttr]
         rw [hat, hx, Bool.true_and] at ht
         refine ⟨k + 1, StLe.auto (by simp only [sx2, xR, sevalprocAttr] <;> (try simp) <;> (try omega)), ?_, ?_⟩
         · exact ⟨by omega, ht⟩
         · omega
         done)
  · simp only [↓sx0, xE, sevalprocAttr]
    have hke : k = s.size := by omega
    subst hke
    rw [show s.data.toList.drop s.size = [] by simp] at ht
    have hn : namB s = decide (1 ≤ s.size ∧ s.size ≤ 12) := by rw [namB, ← ht]; simp [nmY]
    by_cases h0 : s = ⟨#[]⟩
    · subst h0
      have : namB ⟨#[]⟩ = false := by rw [hn]; rfl
      repeat' (first | (with_reducible refine BrW.no (by simp) ?_) | simp only [↓sx0, xE, sevalprocAttr])
      all_goals (refine EndW.fn ?_ ?_ <;> simp only [sx4, xK, sevalprocAttr] <;> (try simp [this]) <;> (try omega))
    · have h1 : 1 ≤ s.size := by
        rcases Nat.eq_zero_or_pos s.size with h | h
        · exact absurd (ByteArray.ext (Array.eq_empty_of_size_eq_zero h)) h0
        · exact h
      have hb : namB s = decide ((s.size : Int) ≤ 12) := by rw [hn, decide_eq_decide]; omega
      repeat' (first | (with_reducible refine BrW.yes (by exact h0) ?_) | simp only [↓sx0, xE, sevalprocAttr])
      all_goals (refine EndW.fn ?_ ?_ <;> simp only [sx4, xK, sevalprocAttr] <;> (try simp [hb]) <;> (try omega))
theorem prints1_s (r : Nat) : Ctr Tryz.prog 240 [.v (.int .i32 (r : Int))] (fun rr => rr = ⟨(.v (.bool (badR r))), []⟩) := by
  refine Ctr.of (rs := [.tmp 2]) Tok true Tryz.func240 rfl rfl rfl rfl (by simp [ofDL]) (fun w0 kp => ?_)
  simp only [↓sx0, xE, sevalprocAttr]
  refine BrW.dec (fun h => ?_) (fun h => ?_)
  · simp only [↓sx0, xE, sevalprocAttr]
    have : badR r = true := by simp [badR]; omega
    refine EndW.fn ?_ ?_ <;> simp only [sx4, xK, sevalprocAttr] <;> (try simp [this]) <;> (try omega)
  · simp only [↓sx0, xE, sevalprocAttr]
    have : badR r = decide (126 < (r : Int)) := by rw [Bool.eq_iff_iff]; simp [badR]; omega
    refine EndW.fn ?_ ?_ <;> simp only [sx4, xK, sevalprocAttr] <;> (try simp [this]) <;> (try omega)
theorem growsP (w : World) : PredGrows Tryz.prog 240 #[] badR w := fun W x _ _ => by
  have := ctr_call (xs := [.int .i32 (x : Int)]) (prints1_s x) W
  simpa using this
theorem calleeP (args : Array Value) (w : World) : (callFunc 240 args).run Tryz.prog w = .ok (.enter 240 args) w := Go.Proofs.enters_of Tryz.func240 (by kernel_rfl) rfl args w
theorem indexFuncP_s (s : ByteArray) : Ctr Tryz.prog 169 [(.v (.string (s))), .clo 240 [], (.v (.bool (true)))] (fun rr => rr = ⟨(.v (.int .i64 (Lib.idxFunc badR true s))), []⟩) := by
  refine ⟨⟨_, Tryz.func169, rfl, rfl⟩, fun w kp hk vs hr => ?_⟩
  match vs, hr with
  | [a, b, c], ⟨h1, ⟨cs, h2, h3⟩, h4, _⟩ =>
    simp only [rel] at h1 h4
    have hcs : cs = #[] := by
      cases hl : cs.toList with
      | nil => simpa using hl
      | cons x l => rw [hl] at h3; exact h3.elim
    subst hcs
    rw [h1, h2, h4]
    have := Any.strings_indexFunc_grows laysIdx 240 #[] calleeP badR true s w (growsP w)
    refine Calls.mono this ?_
    rintro e w' ⟨rfl, hb⟩
    exact ⟨_, _, rfl, rfl, RetOk.plain hk hb fun g => rfl⟩
theorem withinF_s (n lo hi : Int) : Ctr Tryz.prog 175 [(.v (.int .i64 n)), (.v (.int .i64 lo)), (.v (.int .i64 hi))] (fun rr => rr = ⟨(.v (.bool (decide (lo ≤ n ∧ n ≤ hi)))), []⟩) := by
  refine Ctr.of (rs := [.tmp 6]) Tok true Tryz.func175 rfl rfl rfl rfl (by simp [ofDL]) (fun w0 kp => ?_)
  simp only [↓sx0, xE, sevalprocAttr]
  refine BrW.dec (fun h => ?_) (fun h => ?_)
  · simp only [↓sx0, xE, sevalprocAttr]
    have : decide (lo ≤ n ∧ n ≤ hi) = decide (n ≤ hi) := by rw [decide_eq_decide]; omega
    refine EndW.fn ?_ ?_ <;> simp only [sx4, xK, sevalprocAttr] <;> (try simp [this]) <;> (try omega)
  · simp only [↓sx0, xE, sevalprocAttr]
    have : decide (lo ≤ n ∧ n ≤ hi) = false := by rw [decide_eq_false_iff_not]; omega
    refine EndW.fn ?_ ?_ <;> simp only [sx4, xK, sevalprocAttr] <;> (try simp [this]) <;> (try omega)
theorem okAll {t : ByteArray} (h : ∀ j (h : j < t.size), okB t[j] = true) : bytesOk t = true := by
  rw [bytesOk, List.all_eq_true]
  intro x hx
  obtain ⟨j, hj, he⟩ := List.mem_iff_getElem.1 hx
  rw [← he]
  exact h j (by simpa using hj)
theorem prints_s (kd : Int) (t : ByteArray) (hk : 1 ≤ kd ∧ kd ≤ 3) (h : PrOk kd t) : Ctr Tryz.prog 228 [(.v (.int .i64 kd)), (.v (.string (t)))] (fun rr => rr = ⟨(.v (.bool (true))), []⟩) := by
  have hI : Ctr Tryz.prog 239 [(.v (.string (t))), .clo 240 []] (fun rr => rr = ⟨(.v (.bool (decide (0 ≤ Lib.idxFunc badR true t)))), []⟩) := by
    have hJ : Ctr Tryz.prog 134 [(.v (.string (t))), .clo 240 []] (fun rr => rr = ⟨(.v (.int .i64 (Lib.idxFunc badR true t))), []⟩) := by
      refine Ctr.of (rs := [.tmp 4]) Tok true Tryz.func134 rfl rfl rfl rfl (by simp [ofDL]) (fun w0 kp => ?_)
      simp only [↓sx0, xE, sevalprocAttr]
      refine CallI.fn (indexFuncP_s t) (by simp only [sx3, xR, sevalprocAttr] <;> (try simp) <;> (try rfl)) ?_
      simp only [↓sx0, xE, sevalprocAttr]
      refine EndW.fn ?_ ?_ <;> simp only [sx4, xK, sevalprocAttr] <;> (try simp) <;> (try omega)
    refine Ctr.of (rs := [.tmp 4]) Tok true Tryz.func239 rfl rfl rfl rfl (by simp [ofDL]) (fun w0 kp => ?_)
    simp only [↓sx0, xE, sevalprocAttr]
    refine CallI.fn (hJ) (by simp only [sx3, xR, sevalprocAttr] <;> (try simp) <;> (try rfl)) ?_
    simp only [↓sx0, xE, sevalprocAttr]
    refine EndW.fn ?_ ?_ <;> simp only [sx4, xK, sevalprocAttr] <;> (try simp) <;> (try omega)
  have hno : ¬ 0 ≤ Lib.idxFunc badR true t := by
    have := idx_ok t
    rw [okAll h.2.2.2, decide_eq_true_eq] at this
    omega
  obtain ⟨p1, p2, p3, -⟩ := h
  have hW : ∀ lo hi : Int, lo ≤ (t.size : Int) ∧ (t.size : Int) ≤ hi → Ctr Tryz.prog 175 [(.v (.int .i64 ((t.size : Int)))), (.v (.int .i64 lo)), (.v (.int .i64 hi))] (fun rr => rr = ⟨(.v (.bool (true))), []⟩) := fun lo hi h => by
    have := withinF_s t.size lo hi
    rwa [decide_eq_true h] at this
  refine Ctr.of (rs := [.tmp 4]) Tok true Tryz.func228 rfl rfl rfl rfl (by simp [ofDL]) (fun w0 kp => ?_)
  simp only [↓sx0, xE, sevalprocAttr]
  have hk3 : kd = 1 ∨ kd = 2 ∨ kd = 3 := by omega
  rcases hk3 with rfl | rfl | rfl
  all_goals
    repeat' (first | simp only [↓sx0, xE, sevalprocAttr] | (refine ArrIx.go (by omega) ?_) | ((with_reducible refine Vc.go ?_ fun _ => ?_); (focus (first | omega | (simp only [InK]; omega) | (simp [InK]; omega)))))
    first
      | refine CallI.fn (hW 1 1 (by omega)) (by simp only [sx3, xR, sevalprocAttr] <;> (try simp) <;> (try rfl)) ?_
      | refine CallI.fn (hW 2 4 (by omega)) (by simp only [sx3, xR, sevalprocAttr] <;> (try simp) <;> (try rfl)) ?_
      | refine CallI.fn (hW 0 0 (by omega)) (by simp only [sx3, xR, sevalprocAttr] <;> (try simp) <;> (try rfl)) ?_
    simp only [↓sx0, xE, sevalprocAttr]
    refine CallI.fn (hI) (by simp only [sx3, xR, sevalprocAttr] <;> (try simp) <;> (try rfl)) ?_
    simp only [↓sx0, xE, sevalprocAttr]
    rw [decide_eq_false hno]
    refine EndW.fn ?_ ?_ <;> simp only [sx4, xK, sevalprocAttr] <;> (try simp) <;> (try omega)
end Go.Proofs.YtgcmppghjfidfaaGreatDoor
/-
 Chapter 1, walks: founts are checked (the program): a right fount is accepted.
-/
namespace Go.Proofs.YtgcmppghjfidfaaGreatDoor
open Go Go.Vx Go.Shelf Go.RowKit
set_option maxRecDepth 20000
def eSI (p : ByteArray × Int) : List D := [.v (.string p.1), .v (.int .i64 p.2)]
theorem ents_si : ∀ m : List (ByteArray × Int), entsOk none (m.map eSI) = true
 | [] => rfl
 | p :: m => by simp only [List.map_cons, eSI, entsOk, List.all_cons, entOk, keyIs, Bool.and_eq_true]; exact ⟨trivial, ents_si m⟩
theorem lk_si (a : ByteArray) : ∀ m : List (ByteArray × Int), lkE (.string a) (m.map eSI) = (luk a m).map (Value.int .i64)
 | [] => rfl
 | p :: m => by
  simp only [List.map_cons, eSI, lkE, kEq_s, luk]
  by_cases h : p.1 = a
  ·simp [h]
  ·simp only [h, decide_false, Bool.false_eq_true, if_false]; exact lk_si a m
theorem up_si (a : ByteArray) (b : Int) : ∀ m : List (ByteArray × Int), upE (.string a) (.int .i64 b) (m.map eSI) = (upd a b m).map eSI
 | [] => rfl
 | p :: m => by
  simp only [List.map_cons, eSI, upE, kEq_s, upd]
  by_cases h : p.1 = a
  ·simp [h, eSI]
  ·simp only [h, decide_false, Bool.false_eq_true, if_false, List.map_cons]; rw [up_si a b m]; rfl
theorem mapsI : (∀ m : List (ByteArray × Int), entsOk none (m.map eSI) = true) ∧ (∀ a (m : List (ByteArray × Int)), lkE (.string a) (m.map eSI) = (luk a m).map (Value.int .i64)) ∧ (∀ a b (m : List (ByteArray × Int)), upE (.string a) (.int .i64 b) (m.map eSI) = (upd a b m).map eSI) ∧
  (∀ (o : Option Int) z, (o.map (Value.int .i64)).getD (.int .i64 z) = .int .i64 (o.getD z)) ∧ (∀ (o : Option Int), (o.map (Value.int .i64)).isSome = o.isSome) :=
 ⟨ents_si, lk_si, up_si, getD_i, fun o => by cases o <;> rfl⟩
theorem kd_mp : ∀ a b, (Kd.mp a b).agg = false := fun _ _ => rfl
set_option maxHeartbeats 16000000 in
theorem checkFountP_s (n : ByteArray) (bd : Int) (b : Bool) (l : List Srt) (hn : n.size ≤ 1000000000) (hs : ∀ s ∈ l, SrtOk s) (hok : FtOk n bd l) : Ctr Tryz.prog 94 [.agg [(.v (.string (n))), (.v (.int .i64 bd)), .sl b 4 (l.map eT)]] (fun rr => rr = ⟨.tup [(.v (.int .i64 0)), (.v (.int .i64 0))], []⟩) := by
 have encs := And.intro encs (And.intro eT_def (And.intro mapsI kd_mp))
 obtain ⟨hname, hbody, hsome, hsorts⟩ := hok
 have hN := isNameP_s n hn
 rw [hname] at hN
 have hB := withinF_s bd 1 144
 rw [decide_eq_true hbody] at hB
 refine Ctr.of (rs := [.tmp 2, .tmp 3]) Tok true Tryz.func94 rfl rfl rfl rfl (by simp [ofDL]) (fun w0 kp => ?_)
 simp only [↓sx0, sxE, encs, sevalprocAttr]
 refine CallI.inl (rs := [.cell 2 204, .tmp 3, .tmp 4]) Tok Tryz.func140 rfl rfl rfl rfl (by simp) (fun ρ σ μ fr lp => ?_)
 simp only [↓sx0, sxE, encs, sevalprocAttr]
 refine CallI.inl (rs := [.cell 0 204]) Tok Tryz.func173 rfl rfl rfl rfl (by simp) (fun ρ σ μ fr lp => ?_)
 simp only [↓sx0, sxE, encs, sevalprocAttr]
 skip
 refine CallI.fn (hN) (by simp only [sx3, encs, sxR, sevalprocAttr] <;> (try simp) <;> (try rfl)) ?_
 simp only [↓sx0, sxE, encs, sevalprocAttr]
 refine CallI.fn (hB) (by simp only [sx3, encs, sxR, sevalprocAttr] <;> (try simp) <;> (try rfl)) ?_
 simp only [↓sx0, sxE, encs, sevalprocAttr]
 repeat' (first | (with_reducible refine BrW.yes (by omega) ?_) | (with_reducible refine BrW.no (by omega) ?_) | simp only [↓sx0, sxE, encs, sevalprocAttr])
 refine LoopW.comp [2, 5, 35, 36, 37] (by simp only [sx2, encs, sxR, sevalprocAttr] <;> (try simp) <;> (try omega)) ?_
 simp only [sx2, sxR, sevalprocAttr]
 refine LoopW.up Tok (fun x : Nat × List (ByteArray × Int) × List (ByteArray × Int) => [(37, (.v (.int .i64 x.1)))]) (fun x => []) (fun x => [(0, x.2.1.map eSI), (1, x.2.2.map eSI)]) (fun x => []) (fun x => x.1 ≤ l.length ∧ (∀ s, (∀ j (_ : j < x.1) (h : j < l.length), l[j].name ≠ s) → luk s x.2.1 = none) ∧ (∀ s, (∀ j (_ : j < x.1) (h : j < l.length), l[j].kind ≠ 3 → l[j].text ≠ s) → luk s x.2.2 = none)) (fun x => l.length - x.1) ((0, [], [])) (by simp only [sx2, encs, sxR, sevalprocAttr] <;> (try simp) <;> (try omega)) ?_ ?_
 ·exact ⟨Nat.zero_le _, fun s _ => rfl, fun s _ => rfl⟩
 rintro ⟨k, m1, m2⟩ ⟨hk, hm1, hm2⟩
 simp only at hk hm1 hm2
 simp only [↓sx0, sxE, encs, sevalprocAttr]
 by_cases hk2 : k < l.length
 ·refine BrW.yes (by omega) ?_
  simp only [↓sx0, sxE, encs, sevalprocAttr]
  obtain ⟨q1, q2, q3, q4, q5, q6⟩ := hsorts k hk2
  obtain ⟨z1, z2⟩ := hs _ (List.getElem_mem hk2)
  refine IxW.nat hk2 ?_
  simp only [↓sx0, sxE, encs, sevalprocAttr]
  have hl1 := hm1 _ (fun j h h2 => q5 j h h2)
  have hN2 := isNameP_s l[k].name z1
  rw [q1] at hN2
  have hK := withinF_s l[k].kind 1 3
  rw [decide_eq_true q2] at hK
  have hW := withinF_s l[k].width 1 100000
  rw [decide_eq_true q3] at hW
  have hP := prints_s l[k].kind l[k].text q2 q4
  refine CallI.inl (rs := [.tmp 4]) Tok Tryz.func176 rfl rfl rfl rfl (by simp) (fun ρ σ μ fr lp => ?_)
  simp only [↓sx0, sxE, encs, sevalprocAttr]
  refine CallI.inl (rs := [.tmp 4]) Tok Tryz.func202 rfl rfl rfl rfl (by simp) (fun ρ σ μ fr lp => ?_)
  simp only [↓sx0, sxE, encs, sevalprocAttr]
  refine CallI.fn (hN2) (by simp only [sx3, encs, sxR, sevalprocAttr] <;> (try simp) <;> (try rfl)) ?_
  simp only [↓sx0, sxE, encs, sevalprocAttr]
  refine BrW.ff (by rw [hl1]; rfl) ?_
  simp only [↓sx0, sxE, encs, sevalprocAttr]
  repeat' (first | (with_reducible refine BrW.no (by omega) ?_) | ((with_reducible refine BrW.no ?_ ?_); (focus (simp; done))) | simp only [↓sx0, sxE, encs, sevalprocAttr] | (refine CallI.fn hK ?_ ?_; (focus ((simp only [sx3, encs, sxR, sevalprocAttr] <;> (try simp) <;> (try rfl)); done))) | (refine CallI.fn hW ?_ ?_; (focus ((simp only [sx3, encs, sxR, sevalprocAttr] <;> (try simp) <;> (try rfl)); done))))
  refine CallI.inl (rs := [.tmp 6]) Tok Tryz.func203 rfl rfl rfl rfl (by simp) (fun ρ σ μ fr lp => ?_)
  simp only [↓sx0, sxE, encs, sevalprocAttr]
  refine CallI.fn (hP) (by simp only [sx3, encs, sxR, sevalprocAttr] <;> (try simp) <;> (try rfl)) ?_
  simp only [↓sx0, sxE, encs, sevalprocAttr]
  by_cases h3 : l[k].kind = 3
  ·repeat' (first | (with_reducible refine BrW.no (by omega) ?_) | ((with_reducible refine BrW.no ?_ ?_); (focus (simp; done))) | simp only [↓sx0, sxE, encs, sevalprocAttr] | (with_reducible refine BrW.of (fun _ => ?_) (fun _ => ?_)))
   all_goals
    refine CallI.inl (rs := []) Tok Tryz.func177 rfl rfl rfl rfl (by simp) (fun ρ σ μ fr lp => ?_)
    simp only [↓sx0, sxE, encs, sevalprocAttr]
    refine BrW.no (by omega) ?_
    simp only [↓sx0, sxE, encs, sevalprocAttr]
    skip
    repeat ((with_reducible refine Vc.go ?_ fun _ => ?_); (focus (first | omega | (simp only [InK]; omega) | (simp [InK] <;> omega))); simp only [↓sx0, sxE, encs, sevalprocAttr])
    refine ⟨(k + 1, upd l[k].name (k : Int) m1, m2), StLe.auto (by simp only [sx2, encs, sxR, sevalprocAttr] <;> (try simp) <;> (try omega)), ?_, ?_⟩
    ·refine ⟨by simp only; omega, fun s h => ?_, fun s h => hm2 s fun j h1 h2 => h j (by simp only; omega) h2⟩
     rw [luk_upd, if_neg (h k (by simp) hk2)]
     exact hm1 s fun j h1 h2 => h j (by simp only; omega) h2
    ·simp only; omega
  ·have hl2 := hm2 _ (fun j h h2 => q6 h3 j h h2)
   refine BrW.ff (by rw [hl2]; rfl) ?_
   simp only [↓sx0, sxE, encs, sevalprocAttr]
   repeat' (first | (with_reducible refine BrW.no (by omega) ?_) | ((with_reducible refine BrW.no ?_ ?_); (focus (simp; done))) | simp only [↓sx0, sxE, encs, sevalprocAttr])
   refine CallI.inl (rs := []) Tok Tryz.func177 rfl rfl rfl rfl (by simp) (fun ρ σ μ fr lp => ?_)
   simp only [↓sx0, sxE, encs, sevalprocAttr]
   refine BrW.yes (by omega) ?_
   simp only [↓sx0, sxE, encs, sevalprocAttr]
   skip
   repeat ((with_reducible refine Vc.go ?_ fun _ => ?_); (focus (first | omega | (simp only [InK]; omega) | (simp [InK] <;> omega))); simp only [↓sx0, sxE, encs, sevalprocAttr])
   refine ⟨(k + 1, upd l[k].name (k : Int) m1, upd l[k].text (k : Int) m2), StLe.auto (by simp only [sx2, encs, sxR, sevalprocAttr] <;> (try simp) <;> (try omega)), ?_, ?_⟩
   ·refine ⟨by simp only; omega, fun s h => ?_, fun s h => ?_⟩
    ·rw [luk_upd, if_neg (h k (by simp) hk2)]
     exact hm1 s fun j h1 h2 => h j (by simp only; omega) h2
    ·rw [luk_upd, if_neg (h k (by simp) hk2 h3)]
     exact hm2 s fun j h1 h2 => h j (by simp only; omega) h2
   ·simp only; omega
 ·refine BrW.no (by omega) ?_
  simp only [↓sx0, sxE, encs, sevalprocAttr]
  refine EndW.fn ?_ ?_ <;> simp only [sx4, encs, kpLL_map, sxR, sevalprocAttr] <;> (try simp) <;> (try omega)
end Go.Proofs.YtgcmppghjfidfaaGreatDoor
/-
 Chapter 2, walks: patterns are read (the program): a right pattern is accepted.
-/
namespace Go.Proofs.YtgcmppghjfidfaaGreatDoor
open Go Go.Vx
set_option maxRecDepth 20000
structure Pat where
 letters : ByteArray
 levels : List Int
 first : Bool
 last : Bool
def eN (p : Pat) : List D := [.pt true [(.v (.string (p.letters))), .sl true 1 (p.levels.map eI), (.v (.bool (p.first))), (.v (.bool (p.last)))]]
def PatOk (p : Pat) : Prop := p.letters.size ≤ 16 ∧ p.levels.length = p.letters.size + 1 ∧ ∀ n ∈ p.levels, 0 ≤ n ∧ n ≤ 9
def PatP (rr : Ret) : Prop := ∃ p : Pat, rr = ⟨.tup [.pt true [(.v (.string (p.letters))), .sl true 1 (p.levels.map eI), (.v (.bool (p.first))), (.v (.bool (p.last)))], (.v (.bool (true)))], []⟩ ∧ PatOk p
theorem encode_byte (c : UInt8) (h : c.toNat < 128) : Utf8.encode (c.toNat : Int) = ⟨#[c]⟩ := by
 have hv : Utf8.valid (c.toNat : Int) = true := by
  unfold Utf8.valid
  simp
  omega
 simp [Utf8.encode, hv, h]
theorem modLast {α : Type} (f : α → α) (a : α) : ∀ l : List α, (l ++ [a]).modify l.length f = l ++ [f a]
 | [] => rfl
 | x :: l => by rw [List.cons_append, List.length_cons, List.modify_succ_cons, modLast f a l]; rfl
theorem tailD_len (l : List UInt8) : (tailD l).length ≤ l.length := by unfold tailD; split <;> simp
theorem initD_len (l : List UInt8) : (initD l).length ≤ l.length := by unfold initD; split <;> simp
set_option maxHeartbeats 16000000 in
theorem patternOf_s (s : ByteArray) (hs : s.size ≤ 1000000) (hok : PG false (stripL s.data.toList) 0 = true) : Ctr Tryz.prog 141 [(.v (.string (s)))] PatP := by
 have hsl := size_list s
 refine Ctr.ofB (rs := [.tmp 2, .tmp 3]) Tok Tryz.func141 rfl rfl rfl rfl (by simp [ofDL]) (fun w0 kp => ?_)
 simp only [↓sx0, xE, sevalprocAttr]
 refine CallI.ctr (cutPre_s s hs) (by simp only [sx3, xR, sevalprocAttr] <;> (try simp) <;> (try rfl)) ?_
 rintro _ ⟨X, f, rfl, hX⟩
 simp only [↓sx0, xE, sevalprocAttr]
 have hXs : X.size ≤ 1000000 := by
  have h1 := congrArg List.length hX
  have h2 := tailD_len s.data.toList
  rw [size_list] at h1
  omega
 refine CallI.ctr (cutSuf_s X hXs) (by simp only [sx3, xR, sevalprocAttr] <;> (try simp) <;> (try rfl)) ?_
 rintro _ ⟨Y, e, rfl, hY⟩
 have hYs : Y.size ≤ 1000000 := by
  have h1 := congrArg List.length hY
  have h2 := initD_len X.data.toList
  rw [size_list] at h1 h2
  omega
 rw [hX] at hY
 rw [show stripL s.data.toList = Y.data.toList by rw [hY]; rfl] at hok
 have hYl := size_list Y
 simp only [↓sx0, xE, sevalprocAttr]
 refine LoopW.comp [0, 4, 5, 28, 29] (by simp only [sx2, xR, sevalprocAttr] <;> (try simp) <;> (try omega)) ?_
 simp only [sx2, sxR, sevalprocAttr]
 refine LoopW.up Tok (fun x : Nat × ByteArray × List Int × Int × Bool => [(5, (.v (.bool (x.2.2.2.2)))), (29, (.v (.int .i64 ((x.1 : Int)))))]) (fun x => [(0, [(.v (.string (x.2.1))), .row 0, (.v (.bool (f))), (.v (.bool (e)))])]) (fun x => [(0, (x.2.2.1 ++ [x.2.2.2.1]).map eI)]) (fun x => []) (fun x => x.1 ≤ Y.size ∧ PG x.2.2.2.2 (Y.data.toList.drop x.1) x.2.1.size = true ∧ x.2.2.1.length = x.2.1.size ∧ x.2.1.size ≤ x.1 ∧ (0 ≤ x.2.2.2.1 ∧ x.2.2.2.1 ≤ 9) ∧ ∀ n ∈ x.2.2.1, 0 ≤ n ∧ n ≤ 9) (fun x => Y.size - x.1) ((0, ⟨#[]⟩, [], 0, false)) (by simp only [sx2, xR, sevalprocAttr] <;> (try simp [eI, encs]) <;> (try omega)) ?_ ?_
 ·exact ⟨Nat.zero_le _, hok, rfl, Nat.zero_le _, by simp, by simp⟩
 rintro ⟨k, w, lv, z, dg⟩ ⟨hk, hpg, hlw, hwk, hz, hlv⟩
 simp only at hk hpg hlw hwk hz hlv
 simp only [↓sx0, xE, sevalprocAttr]
 by_cases hk2 : k < Y.size
 ·obtain ⟨c, hcY⟩ : ∃ c, Y.data.toList[k]? = some c := ⟨_, List.getElem?_eq_getElem (by omega)⟩
  rw [drop_at hcY, PG] at hpg
  refine BrW.yes (by omega) ?_
  simp only [↓sx0, xE, sevalprocAttr]
  refine StrIx.is hcY ?_
  simp only [↓sx0, xE, sevalprocAttr]
  refine CallI.fn (isSmallT_s c) (by simp only [sx3, xR, sevalprocAttr] <;> (try simp) <;> (try rfl)) ?_
  simp only [↓sx0, xE, sevalprocAttr]
  refine BrW.of (fun hsm => ?_) (fun hsm => ?_)
  ·simp only [↓sx0, xE, sevalprocAttr]
   have hc7 : c.toNat < 128 := by
    simp only [smB, decide_eq_true_eq] at hsm
    omega
   rw [if_pos hsm] at hpg
   have h1 : (⟨#[c]⟩ : ByteArray).size = 1 := rfl
   rw [encode_byte c hc7]
   repeat ((with_reducible refine Vc.go ?_ fun _ => ?_); (focus (first | omega | (simp only [InK]; omega) | (simp [h1, InK] <;> omega))); simp only [↓sx0, xE, sevalprocAttr])
   have hmap : (lv ++ [z] ++ [0]).map eI = (lv ++ [z]).map eI ++ [[.v (.int .i64 0)]] := by simp [eI]
   have hsz : (w ++ ⟨#[c]⟩).size = w.size + 1 := by rw [ByteArray.size_append, h1]
   refine ⟨(k + 1, w ++ ⟨#[c]⟩, lv ++ [z], 0, false), StLe.auto (by simp only [sx2, xR, sevalprocAttr] <;> (try simp [hmap, encs]) <;> (try omega)), ?_, ?_⟩
   ·refine ⟨hk2, by rw [hsz]; exact hpg, by rw [hsz]; simp [hlw], by simp only; omega, by simp, fun n hn => ?_⟩
    rcases List.mem_append.1 hn with h | h
    ·exact hlv n h
    ·rw [List.mem_singleton.1 h]; exact hz
   ·simp only; omega
  ·rw [if_neg (by rw [hsm]; simp)] at hpg
   have hdd : dgtB c = true ∧ dg = false := by
    by_cases h : dgtB c = true ∧ dg = false
    ·exact h
    ·rw [if_neg h] at hpg; cases hpg
   rw [if_pos hdd] at hpg
   have hdn := hdd.1
   simp only [dgtB, decide_eq_true_eq] at hdn
   simp only [↓sx0, xE, sevalprocAttr]
   repeat' (first | (with_reducible refine BrW.yes (by omega) ?_) | (with_reducible refine BrW.no (by omega) ?_) | (with_reducible refine BrW.ff hdd.2 ?_) | simp only [↓sx0, xE, sevalprocAttr])
   refine DrawW.plan Tok mixed (.q 0 <| .q 1 <| .q 2 <| .q 3 <| .q 4 <| .q 5 <| .q 6 <| .q 7 <| .q 8 <| .q 9 <| .q 10 <| .q 11 <| .q 12 <| .q 13 <| .e 14 [] <| .done) (by kernel_rfl) (by kernel_rfl) ?_
   simp only [↓sx0, xE, sevalprocAttr]
   repeat ((with_reducible refine Vc.go ?_ fun _ => ?_); (focus (first | omega | (simp only [InK]; omega) | (simp [hlw, InK] <;> omega))); simp only [↓sx0, xE, sevalprocAttr])
   have hmap : ((lv ++ [z]).map eI).modify (((lv.length + 1 : Nat) : Int) - 1).toNat (fun x => modE x 0 [D.v (.int .i64 ((c.toNat : Int) - 48))]) = (lv ++ [(c.toNat : Int) - 48]).map eI := by
    rw [show (((lv.length + 1 : Nat) : Int) - 1).toNat = (lv.map eI).length by simp, List.map_append, List.map_append]
    exact modLast _ _ _
   rw [hmap]
   refine ⟨(k + 1, w, lv, (c.toNat : Int) - 48, true), StLe.auto (by simp only [sx2, xR, sevalprocAttr] <;> (try simp) <;> (try omega)), ?_, ?_⟩
   ·exact ⟨hk2, hpg, hlw, by simp only; omega, by simp only; omega, hlv⟩
   ·simp only; omega
 ·have hke : k = Y.data.toList.length := by omega
  rw [hke, List.drop_length, PG, decide_eq_true_eq] at hpg
  refine BrW.no (by omega) ?_
  simp only [↓sx0, xE, sevalprocAttr]
  have hW := withinT_s (w.size : Int) 1 16
  rw [decide_eq_true (by omega)] at hW
  refine CallI.fn (hW) (by simp only [sx3, xR, sevalprocAttr] <;> (try simp) <;> (try rfl)) ?_
  simp only [↓sx0, xE, sevalprocAttr]
  have hmem : ∀ n ∈ lv ++ [z], 0 ≤ n ∧ n ≤ 9 := fun n hn => by
   rcases List.mem_append.1 hn with h | h
   ·exact hlv n h
   ·rw [List.mem_singleton.1 h]; exact hz
  simp only [endY, boxV, boxL, bxPs, bxPs.bx1, bxD, assB, ptB, bxV, bxL, toDL, toD, consO, vD, oneV, dedN, addN, memN, sxL, sx2, xR, sevalprocAttr]
  refine EndW.p (.tup [.pt true [(.v (.string (w))), .sl true 1 ((lv ++ [z]).map eI), (.v (.bool (f))), (.v (.bool (e)))], (.v (.bool (true)))]) (⟨⟨w, lv ++ [z], f, e⟩, rfl, hpg.2, by simp [hlw], hmem⟩) ?_ ?_ <;> (simp only [sx4, xK, sevalprocAttr] <;> (try simp) <;> (try omega))
end Go.Proofs.YtgcmppghjfidfaaGreatDoor
/-
 Chapter 8, walks: pairs that are kept (the table).
-/
namespace Go.Proofs.YtgcmppghjfidfaaGreatDoor
open Go Go.Vx
set_option maxRecDepth 20000
/-- the pairs that two lists have at most. -/
def lcsA (x : Int) (f : List Int → Nat) : List Int → Nat
 | [] => 0
 | y :: b => if x = y then max (max (f (y :: b)) (lcsA x f b)) (f b + 1) else max (f (y :: b)) (lcsA x f b)
def lcsL : List Int → List Int → Nat
 | [], _ => 0
 | x :: a, b => lcsA x (lcsL a) b
theorem lcsL_nil (a : List Int) : lcsL a [] = 0 := by cases a <;> simp [lcsL, lcsA]
theorem lcsL_cons (x y : Int) (a b : List Int) : lcsL (x :: a) (y :: b) = if x = y then max (max (lcsL a (y :: b)) (lcsL (x :: a) b)) (lcsL a b + 1) else max (lcsL a (y :: b)) (lcsL (x :: a) b) := rfl
theorem lcsL_le (a : List Int) : ∀ b, lcsL a b ≤ a.length := by
 induction a with
 | nil => intro b; simp [lcsL]
 | cons x a ih =>
  intro b
  induction b with
  | nil => simp [lcsL_nil]
  | cons y b ihb =>
   rw [lcsL_cons]
   have h1 := ih (y :: b)
   have h2 := ih b
   simp only [List.length_cons] at ihb ⊢
   split <;> omega
def tl (a b : List Int) (i j : Nat) : Int := (lcsL (a.drop i) (b.drop j) : Nat)
theorem tl_end1 {a b : List Int} (j : Nat) : tl a b a.length j = 0 := by simp [tl, lcsL]
theorem tl_end2 {a b : List Int} (i : Nat) : tl a b i b.length = 0 := by simp [tl, lcsL_nil]
theorem tl_step {a b : List Int} {i j : Nat} (hi : i < a.length) (hj : j < b.length) : tl a b i j = if a[i] = b[j] then max (max (tl a b (i + 1) j) (tl a b i (j + 1))) (tl a b (i + 1) (j + 1) + 1) else max (tl a b (i + 1) j) (tl a b i (j + 1)) := by
 simp only [tl]
 rw [List.drop_eq_getElem_cons hi, List.drop_eq_getElem_cons hj, lcsL_cons]
 split <;> omega
theorem tl_b (a b : List Int) (i j : Nat) : 0 ≤ tl a b i j ∧ tl a b i j ≤ a.length := by
 have := lcsL_le (a.drop i) (b.drop j)
 simp only [List.length_drop] at this
 unfold tl; omega
/-- a row of the table -/
def rowT (a b : List Int) (i : Nat) : List Int := (List.range (b.length + 1)).map fun j => tl a b i j
/-- under way, from the end on; 'v' at place j. -/
def cT (a b : List Int) (i j : Nat) : List Int := (List.range (b.length + 1)).map fun k => if j ≤ k then tl a b i k else 0
def cV (a b : List Int) (i j : Nat) (v : Int) : List Int := (List.range (b.length + 1)).map fun k => if j < k then tl a b i k else if k = j then v else 0
theorem cT_zero (a b : List Int) (i : Nat) : cT a b i 0 = rowT a b i := by simp [cT, rowT]
theorem cT_end (a b : List Int) (i : Nat) : cT a b i b.length = List.replicate (b.length + 1) 0 := by
 apply List.ext_getElem
 ·simp [cT]
 ·intro k h1 h2
  simp only [cT, List.length_map, List.length_range] at h1
  simp only [cT, List.getElem_map, List.getElem_range, List.getElem_replicate]
  split
  ·rw [show k = b.length by omega, tl_end2]
  ·rfl
theorem cT_last (a b : List Int) : rowT a b a.length = List.replicate (b.length + 1) 0 := by
 apply List.ext_getElem
 ·simp [rowT]
 ·intro k h1 h2
  simp [rowT, tl_end1]
theorem cT_put (a b : List Int) (i j : Nat) (v : Int) : ((cT a b i (j + 1)).map eI).modify j (modE · 0 [.v (.int .i64 v)]) = (cV a b i j v).map eI := by
 apply List.ext_getElem
 ·simp [cT, cV]
 ·intro k h1 h2
  simp only [List.getElem_modify, List.getElem_map, cT, cV, List.getElem_range]
  by_cases hk : j = k
  ·subst hk; simp [modE, eI]
  ·rw [if_neg hk]
   by_cases h3 : j < k
   ·rw [if_pos (show j + 1 ≤ k by omega), if_pos h3]
   ·rw [if_neg (show ¬ j + 1 ≤ k by omega), if_neg h3, if_neg (show ¬ k = j by omega)]
theorem cV_put (a b : List Int) (i j : Nat) (u v : Int) : ((cV a b i j u).map eI).modify j (modE · 0 [.v (.int .i64 v)]) = (cV a b i j v).map eI := by
 apply List.ext_getElem
 ·simp [cV]
 ·intro k h1 h2
  simp only [List.getElem_modify, List.getElem_map, cV, List.getElem_range]
  by_cases hk : j = k
  ·subst hk; simp [modE, eI]
  ·rw [if_neg hk]
   by_cases h3 : j < k
   ·rw [if_pos h3, if_pos h3]
   ·rw [if_neg h3, if_neg h3, if_neg (show ¬ k = j by omega), if_neg (show ¬ k = j by omega)]
theorem cV_tl (a b : List Int) (i j : Nat) : cV a b i j (tl a b i j) = cT a b i j := by
 unfold cV cT
 apply List.map_congr_left
 intro k _
 by_cases h : j < k
 ·rw [if_pos h, if_pos (by omega)]
 ·rw [if_neg h]
  by_cases h2 : k = j
  ·subst h2; simp
  ·rw [if_neg h2, if_neg (by omega)]
theorem cT_get (a b : List Int) (i j k : Nat) (h : k < b.length + 1) (h2 : j ≤ k) : ((cT a b i j).map eI)[k]? = some (eI (tl a b i k)) := by
 rw [List.getElem?_map]
 simp [cT, List.getElem?_map, List.getElem?_range, h, h2]
theorem cV_get (a b : List Int) (i j : Nat) (v : Int) (h : j < b.length + 1) : ((cV a b i j v).map eI)[j]? = some (eI v) := by
 rw [List.getElem?_map]
 simp [cV, List.getElem?_map, List.getElem?_range, h]
theorem rowT_get (a b : List Int) (i k : Nat) (h : k < b.length + 1) : ((rowT a b i).map eI)[k]? = some (eI (tl a b i k)) := by
 rw [List.getElem?_map]
 simp [rowT, List.getElem?_map, List.getElem?_range, h]
/-- the table, with 'x' rows still to come. -/
def tabT (a b : List Int) (x : Nat) : List (List D) := (List.range (a.length + 1)).map fun r => if x ≤ r then [.sl true 1 ((rowT a b r).map eI)] else [.v (.slice none 0 0)]
theorem tabT_get {a b : List Int} {x r : Nat} (h : r < a.length + 1) : (tabT a b x)[r]? = some (if x ≤ r then [.sl true 1 ((rowT a b r).map eI)] else [.v (.slice none 0 0)]) := by
 simp [tabT, List.getElem?_map, List.getElem?_range, h]
theorem tabT_first (a b : List Int) : (List.replicate (a.length + 1) [D.v (.slice none 0 0)]).modify a.length (modE · 0 [.sl true 1 (List.replicate (b.length + 1) [.v (.int .i64 0)])]) = tabT a b a.length := by
 apply List.ext_getElem
 ·simp [tabT]
 ·intro k h1 h2
  simp only [List.getElem_modify, List.getElem_replicate, tabT, List.getElem_map, List.getElem_range]
  have hk : k < a.length + 1 := by simpa [tabT] using h2
  by_cases e : a.length = k
  ·subst e; simp [modE, cT_last, eI]
  ·rw [if_neg e, if_neg (by omega)]
theorem tabT_close {a b : List Int} {x : Nat} (hx : x < a.length) (y : List D) : (((tabT a b (x + 1)).modify x (modE · 0 y)).set x [.sl true 1 ((rowT a b x).map eI)]) = tabT a b x := by
 apply List.ext_getElem
 ·simp [tabT]
 ·intro k h1 h2
  simp only [List.getElem_set, List.getElem_modify, tabT, List.getElem_map, List.getElem_range]
  by_cases e : x = k
  ·subst e; simp
  ·rw [if_neg e, if_neg e]
   by_cases h3 : x + 1 ≤ k
   ·rw [if_pos h3, if_pos (by omega)]
   ·rw [if_neg h3, if_neg (by omega)]
set_option maxHeartbeats 8000000 in
theorem tails_s (b1 b2 : Bool) (a b : List Int) (ha : a.length ≤ 1000) (hb : b.length ≤ 1000) : Ctr Tryz.prog 65 [.sl b1 1 (a.map eI), .sl b2 1 (b.map eI)] (fun rr => rr = ⟨.sl true 1 (tabT a b 0), []⟩) := by
 refine Ctr.of (rs := [.tmp 4]) Tok true Tryz.func65 rfl rfl rfl rfl (by simp [ofDL]) (fun w0 kp => ?_)
 simp only [↓sx0, xE, sevalprocAttr]
 repeat ((with_reducible refine Vc.go ?_ fun _ => ?_); (focus (first | omega | (simp only [InK]; omega) | (simp [InK] <;> omega))); simp only [↓sx0, xE, sevalprocAttr])
 have e1 : ((a.length : Int) + 1).toNat = a.length + 1 := by omega
 have e2 : ((b.length : Int) + 1).toNat = b.length + 1 := by omega
 simp only [e1, e2, Int.toNat_natCast, tabT_first]
 refine LoopW.le StLe.arm ?_
 refine LoopW.comp [0, 1, 5, 6, 1000000, 2000000] (by simp only [sx2, xR, sevalprocAttr] <;> (try simp) <;> (try omega)) ?_
 simp only [sx2, sxR, sevalprocAttr]
 refine LoopW.up Tok (fun x : Nat => [(6, (.v (.int .i64 ((x : Int) - 1))))]) (fun x => []) (fun x => [(0, tabT a b x)]) (fun x => []) (fun x => x ≤ a.length) (fun x => x) (a.length) (by simp only [sx2, xR, sevalprocAttr] <;> (try simp) <;> (try omega)) ?_ ?_
 ·omega
 rintro x hx
 simp only [↓sx0, xE, sevalprocAttr]
 refine BrW.dec (fun hlt => ?_) (fun hlt => ?_)
 ·simp only [↓sx0, xE, sevalprocAttr]
  obtain ⟨i, rfl⟩ : ∃ i, x = i + 1 := ⟨x - 1, by omega⟩
  have e3 : (((i + 1 : Nat) : Int) - 1) = (i : Int) := by omega
  rw [e3]
  have hia : i < a.length := by omega
  have htl : (tabT a b (i + 1)).length = a.length + 1 := by simp [tabT]
  repeat ((with_reducible refine Vc.go ?_ fun _ => ?_); (focus (first | omega | (simp only [InK]; omega) | (simp [InK] <;> omega))); simp only [↓sx0, xE, sevalprocAttr])
  intro ad n0 c0
  repeat ((with_reducible refine Vc.go ?_ fun _ => ?_); (focus (first | omega | (simp only [InK]; omega) | (simp [InK] <;> omega))); simp only [↓sx0, xE, sevalprocAttr])
  have er : List.replicate ((b.length : Int) + 1).toNat [D.v (.int .i64 0)] = (cT a b i b.length).map eI := by rw [e2, cT_end]; simp [eI]
  rw [er, Int.toNat_natCast]
  have hE0 : ((tabT a b (i + 1)).modify i fun x => modE x 0 [D.v (.slice (some ad) n0 c0)])[i]? = some [D.v (.slice (some ad) n0 c0)] := by
   rw [List.getElem?_modify, tabT_get (by omega), if_neg (by omega)]; simp [modE]
  have hE1 : ((tabT a b (i + 1)).modify i fun x => modE x 0 [D.v (.slice (some ad) n0 c0)])[i + 1]? = some [D.sl true 1 ((rowT a b (i + 1)).map eI)] := by
   rw [List.getElem?_modify, tabT_get (by omega)]; simp
  have hEl : ((tabT a b (i + 1)).modify i fun x => modE x 0 [D.v (.slice (some ad) n0 c0)]).length = a.length + 1 := by simp [tabT]
  have hEc := tabT_close (a := a) (b := b) hia [D.v (.slice (some ad) n0 c0)]
  generalize ((tabT a b (i + 1)).modify i fun x => modE x 0 [D.v (.slice (some ad) n0 c0)]) = E at hE0 hE1 hEl hEc ⊢
  refine LoopW.comp [0, 1, 5, 6, 7, 1000000, 2000000] (by simp only [sx2, xR, sevalprocAttr] <;> (try simp) <;> (try omega)) ?_
  simp only [sx2, sxR, sevalprocAttr]
  refine LoopW.up Tok (fun j : Nat => [(7, (.v (.int .i64 ((j : Int) - 1))))]) (fun j => []) (fun j => [(1, (cT a b i j).map eI)]) (fun j => []) (fun j => j ≤ b.length) (fun j => j) (b.length) (by simp only [sx2, xR, sevalprocAttr] <;> (try simp) <;> (try omega)) ?_ ?_
  ·omega
  rintro j hj
  simp only [↓sx0, xE, sevalprocAttr]
  refine BrW.dec (fun hlt2 => ?_) (fun hlt2 => ?_)
  ·simp only [↓sx0, xE, sevalprocAttr]
   obtain ⟨q, rfl⟩ : ∃ q, j = q + 1 := ⟨j - 1, by omega⟩
   have e4 : (((q + 1 : Nat) : Int) - 1) = (q : Int) := by omega
   rw [e4]
   have hqb : q < b.length := by omega
   refine DrawW.plan Tok mixed (.q 0 <| .q 1 <| .q 2 <| .q 3 <| .q 4 <| .q 5 <| .q 6 <| .q 7 <| .q 8 <| .q 9 <| .q 10 <| .q 11 <| .q 12 <| .q 13 <| .q 14 <| .q 15 <| .q 16 <| .q 17 <| .q 18 <| .q 19 <| .q 20 <| .q 21 <| .q 22 <| .e 23 [] <| .done) (by kernel_rfl) (by kernel_rfl) ?_
   simp only [↓sx0, xE, sevalprocAttr]
   repeat ((with_reducible refine Vc.go ?_ fun _ => ?_); (focus (first | omega | (simp only [InK]; omega) | (simp [cT, cV, InK] <;> omega))); simp only [↓sx0, xE, sevalprocAttr])
   refine ⟨by omega, _, (by rw [Int.toNat_natCast]; exact hE0), ?_⟩
   simp only [↓sx0, xE, sevalprocAttr]
   repeat ((with_reducible refine Vc.go ?_ fun _ => ?_); (focus (first | omega | (simp only [InK]; omega) | (simp [cT, cV, InK] <;> omega))); simp only [↓sx0, xE, sevalprocAttr])
   refine ⟨by omega, _, (by rw [show ((i : Int) + 1).toNat = i + 1 by omega]; exact hE1), ?_⟩
   simp only [↓sx0, xE, sevalprocAttr]
   refine ⟨by omega, _, (by rw [Int.toNat_natCast]; exact rowT_get a b (i + 1) q (by omega)), ?_⟩
   simp only [↓sx0, xE, sevalprocAttr]
   repeat ((with_reducible refine Vc.go ?_ fun _ => ?_); (focus (first | omega | (simp only [InK]; omega) | (simp [cT, cV, InK] <;> omega))); simp only [↓sx0, xE, sevalprocAttr])
   refine ⟨by omega, _, (by rw [Int.toNat_natCast]; exact hE0), ?_⟩
   simp only [↓sx0, xE, sevalprocAttr]
   repeat ((with_reducible refine Vc.go ?_ fun _ => ?_); (focus (first | omega | (simp only [InK]; omega) | (simp [cT, cV, InK] <;> omega))); simp only [↓sx0, xE, sevalprocAttr])
   refine ⟨by omega, _, (by rw [show ((q : Int) + 1).toNat = q + 1 by omega]; exact cT_get a b i (q + 1) (q + 1) (by omega) (by omega)), ?_⟩
   simp only [↓sx0, xE, sevalprocAttr]
   repeat ((with_reducible refine Vc.go ?_ fun _ => ?_); (focus (first | omega | (simp only [InK]; omega) | (simp [cT, cV, InK] <;> omega))); simp only [↓sx0, xE, sevalprocAttr])
   rw [Int.toNat_natCast, cT_put]
   have hst := tl_step hia hqb
   have hb1 := tl_b a b (i + 1) (q + 1)
   refine DrawW.plan Tok mixed (.q 0 <| .q 1 <| .q 2 <| .q 3 <| .q 4 <| .q 5 <| .q 6 <| .q 7 <| .q 8 <| .done) (by kernel_rfl) (by kernel_rfl) ?_
   simp only [↓sx0, xE, sevalprocAttr]
   refine IxW.nat hia ?_
   simp only [↓sx0, xE, sevalprocAttr]
   refine IxW.nat hqb ?_
   simp only [↓sx0, xE, sevalprocAttr]
   refine BrW.dec (fun heq => ?_) (fun heq => ?_)
   ·rw [if_pos heq] at hst
    simp only [↓sx0, xE, sevalprocAttr]
    refine DrawW.plan Tok mixed (.q 0 <| .q 1 <| .q 2 <| .q 3 <| .q 4 <| .q 5 <| .q 6 <| .q 7 <| .q 8 <| .q 9 <| .q 10 <| .q 11 <| .q 12 <| .q 13 <| .q 14 <| .q 15 <| .q 16 <| .q 17 <| .q 18 <| .q 19 <| .q 20 <| .q 21 <| .q 22 <| .q 23 <| .e 24 [] <| .done) (by kernel_rfl) (by kernel_rfl) ?_
    simp only [↓sx0, xE, sevalprocAttr]
    repeat ((with_reducible refine Vc.go ?_ fun _ => ?_); (focus (first | omega | (simp only [InK]; omega) | (simp [cT, cV, InK] <;> omega))); simp only [↓sx0, xE, sevalprocAttr])
    refine ⟨by omega, _, (by rw [Int.toNat_natCast]; exact hE0), ?_⟩
    simp only [↓sx0, xE, sevalprocAttr]
    repeat ((with_reducible refine Vc.go ?_ fun _ => ?_); (focus (first | omega | (simp only [InK]; omega) | (simp [cT, cV, InK] <;> omega))); simp only [↓sx0, xE, sevalprocAttr])
    refine ⟨by omega, _, (by rw [Int.toNat_natCast]; exact hE0), ?_⟩
    simp only [↓sx0, xE, sevalprocAttr]
    repeat ((with_reducible refine Vc.go ?_ fun _ => ?_); (focus (first | omega | (simp only [InK]; omega) | (simp [cT, cV, InK] <;> omega))); simp only [↓sx0, xE, sevalprocAttr])
    refine ⟨by omega, _, (by rw [Int.toNat_natCast]; exact cV_get a b i q _ (by omega)), ?_⟩
    simp only [↓sx0, xE, sevalprocAttr]
    repeat ((with_reducible refine Vc.go ?_ fun _ => ?_); (focus (first | omega | (simp only [InK]; omega) | (simp [cT, cV, InK] <;> omega))); simp only [↓sx0, xE, sevalprocAttr])
    refine ⟨by omega, _, (by rw [show ((i : Int) + 1).toNat = i + 1 by omega]; exact hE1), ?_⟩
    simp only [↓sx0, xE, sevalprocAttr]
    repeat ((with_reducible refine Vc.go ?_ fun _ => ?_); (focus (first | omega | (simp only [InK]; omega) | (simp [cT, cV, InK] <;> omega))); simp only [↓sx0, xE, sevalprocAttr])
    refine ⟨by omega, _, (by rw [show ((q : Int) + 1).toNat = q + 1 by omega]; exact rowT_get a b (i + 1) (q + 1) (by omega)), ?_⟩
    simp only [↓sx0, xE, sevalprocAttr]
    repeat ((with_reducible refine Vc.go ?_ fun _ => ?_); (focus (first | omega | (simp only [InK]; omega) | (simp [cT, cV, InK] <;> omega))); simp only [↓sx0, xE, sevalprocAttr])
    rw [Int.toNat_natCast, cV_put, ← hst, cV_tl]
    repeat ((with_reducible refine Vc.go ?_ fun _ => ?_); (focus (first | omega | (simp only [InK]; omega) | (simp [InK] <;> omega))); simp only [↓sx0, xE, sevalprocAttr])
    refine ⟨q, StLe.auto (by simp only [sx2, xR, sevalprocAttr] <;> (try simp) <;> (try omega)), ?_, ?_⟩
    all_goals omega
   ·rw [if_neg heq] at hst
    rw [← hst, cV_tl]
    simp only [↓sx0, xE, sevalprocAttr]
    repeat ((with_reducible refine Vc.go ?_ fun _ => ?_); (focus (first | omega | (simp only [InK]; omega) | (simp [InK] <;> omega))); simp only [↓sx0, xE, sevalprocAttr])
    refine ⟨q, StLe.auto (by simp only [sx2, xR, sevalprocAttr] <;> (try simp) <;> (try omega)), ?_, ?_⟩
    all_goals omega
  ·simp only [↓sx0, xE, sevalprocAttr]
   have hj0 : j = 0 := by omega
   subst hj0
   rw [cT_zero]
   repeat ((with_reducible refine Vc.go ?_ fun _ => ?_); (focus (first | omega | (simp only [InK]; omega) | (simp [InK] <;> omega))); simp only [↓sx0, xE, sevalprocAttr])
   refine ⟨i, StLe.trans (StLe.close (k := 1) (s := 1) (ks := (rowT a b i).map eI) (r := 0) (e' := 60) (s' := 1) (els := E) (i := i) (c := 0) (el := [D.v (.slice (some ad) n0 c0)]) ⟨_, _, rfl, rfl, by decide, rfl, by decide, by decide, hE0, rfl⟩) (StLe.trans StLe.arm (StLe.auto (by simp only [sx2, xR, sevalprocAttr] <;> (try simp) <;> (try omega)))), ?_, ?_⟩
   all_goals omega
 ·simp only [↓sx0, xE, sevalprocAttr]
  have hx0 : x = 0 := by omega
  subst hx0
  have hkp : kpLL (tabT a b 0) := by rw [kpLL_all]; intro e he; obtain ⟨r, _, rfl⟩ := List.mem_map.1 he; simp [kpL, kpD, kpLL_map, eI]
  refine EndW.fn ?_ ?_ <;> simp only [sx4, xK, sevalprocAttr] <;> (try simp [hkp]) <;> (try omega)
end Go.Proofs.YtgcmppghjfidfaaGreatDoor
/-
 Chapter 8, walks: pairs that are kept.
-/
namespace Go.Proofs.YtgcmppghjfidfaaGreatDoor
open Go Go.Vx
set_option maxRecDepth 20000
theorem checkSorts_s (b1 b2 : Bool) (a b : List Int) : Ctr Tryz.prog 63 [.sl b1 1 (a.map eI), .sl b2 1 (b.map eI)] (fun rr => rr = ⟨(.v (.int .i64 (if a.length ≤ 300 ∧ b.length ≤ 300 then 0 else 8))), []⟩) := by
 refine Ctr.of (rs := [.tmp 4]) Tok true Tryz.func63 rfl rfl rfl rfl (by simp [ofDL]) (fun w0 kp => ?_)
 simp only [↓sx0, xE, sevalprocAttr]
 refine BrW.dec (fun h1 => ?_) (fun h1 => ?_)
 ·rw [if_neg (by omega)]
  simp only [↓sx0, xE, sevalprocAttr]
  repeat ((with_reducible refine BrW.yes (by omega) ?_); simp only [↓sx0, xE, sevalprocAttr])
  refine EndW.fn ?_ ?_ <;> simp only [sx4, xK, sevalprocAttr] <;> (try simp) <;> (try omega)
 ·simp only [↓sx0, xE, sevalprocAttr]
  repeat ((with_reducible refine BrW.no (by omega) ?_); simp only [↓sx0, xE, sevalprocAttr])
  refine BrW.dec (fun h2 => ?_) (fun h2 => ?_)
  ·rw [if_neg (by omega)]
   simp only [↓sx0, xE, sevalprocAttr]
   refine EndW.fn ?_ ?_ <;> simp only [sx4, xK, sevalprocAttr] <;> (try simp) <;> (try omega)
  ·rw [if_pos (by omega)]
   simp only [↓sx0, xE, sevalprocAttr]
   refine EndW.fn ?_ ?_ <;> simp only [sx4, xK, sevalprocAttr] <;> (try simp) <;> (try omega)
def eJ (p : Nat × Nat) : List D := [(.v (.int .i64 ((p.1 : Int)))), (.v (.int .i64 ((p.2 : Int))))]
/-- the first place in b from f on that is kept with place i of a. -/
def keP (a b : List Int) (i f k : Nat) : Bool := match a[i]?, b[k]? with
 | some x, some y => decide (x = y) && decide (tl a b (i + 1) (k + 1) + 1 = tl a b i f)
 | _, _ => false
def keF (a b : List Int) (i f : Nat) : Nat → Nat → Option Nat
 | 0, _ => none
 | n + 1, k => if keP a b i f k = true then some k else keF a b i f n (k + 1)
def keN (a b : List Int) (i f : Nat) : Option Nat := keF a b i f (b.length - f) f
/-- the pairs of the first i places, and where to go on. -/
def keS : (a b : List Int) → Nat → List (Nat × Nat) × Nat
 | _, _, 0 => ([], 0)
 | a, b, i + 1 => match keN a b i (keS a b i).2 with
  | none => keS a b i
  | some k => ((keS a b i).1 ++ [(i, k)], k + 1)
theorem keF_b (a b : List Int) (i f : Nat) : ∀ n k j, keF a b i f n k = some j → k ≤ j ∧ j < k + n
 | 0, _, _, h => by simp [keF] at h
 | n + 1, k, j, h => by
  unfold keF at h
  split at h
  ·cases h; omega
  ·have := keF_b a b i f n (k + 1) j h; omega
theorem keS_b (a b : List Int) : ∀ i, (keS a b i).2 ≤ b.length ∧ (keS a b i).1.length ≤ i
 | 0 => by simp [keS]
 | i + 1 => by
  have h := keS_b a b i
  simp only [keS]
  split
  ·omega
  ·rename_i k hk
   have := keF_b a b i _ _ _ _ hk
   simp only [List.length_append, List.length_cons, List.length_nil]
   omega
def keptL (a b : List Int) : List (Nat × Nat) := (keS a b a.length).1
theorem tab0_get {a b : List Int} {r : Nat} (h : r < a.length + 1) : (tabT a b 0)[r]? = some [.sl true 1 ((rowT a b r).map eI)] := by rw [tabT_get h, if_pos (by omega)]
def keptV (a b : List Int) : List (Nat × Nat) × Int := if a.length ≤ 300 ∧ b.length ≤ 300 then (keptL a b, 0) else ([], 8)
set_option maxHeartbeats 8000000 in
theorem kept_s (b1 b2 : Bool) (a b : List Int) : Ctr Tryz.prog 31 [.sl b1 1 (a.map eI), .sl b2 1 (b.map eI)] (fun rr => rr = ⟨.tup [.sl true 2 ((keptV a b).1.map eJ), (.v (.int .i64 ((keptV a b).2)))], []⟩) := by
 have encs := And.intro encs (show ∀ p, eJ p = [(.v (.int .i64 ((p.1 : Int)))), (.v (.int .i64 ((p.2 : Int))))] from fun _ => rfl)
 have hcs := checkSorts_s b1 b2 a b
 refine Ctr.of (rs := [.tmp 4, .tmp 5]) Tok true Tryz.func31 rfl rfl rfl rfl (by simp [ofDL]) (fun w0 kp => ?_)
 simp only [↓sx0, sxE, encs, sevalprocAttr]
 by_cases hs : a.length ≤ 300 ∧ b.length ≤ 300
 ·rw [if_pos hs] at hcs
  rw [show keptV a b = (keptL a b, 0) by rw [keptV, if_pos hs]]
  refine CallI.fn (hcs) (by simp only [sx3, encs, sxR, sevalprocAttr] <;> (try simp) <;> (try rfl)) ?_
  simp only [↓sx0, sxE, encs, sevalprocAttr]
  refine BrW.no (by simp) ?_
  simp only [↓sx0, sxE, encs, sevalprocAttr]
  refine CallI.fn (tails_s b1 b2 a b (by omega) (by omega)) (by simp only [sx3, encs, sxR, sevalprocAttr] <;> (try simp) <;> (try rfl)) ?_
  simp only [↓sx0, sxE, encs, sevalprocAttr]
  refine LoopW.comp [1, 7, 8, 9, 22, 23, 24] (by simp only [sx2, encs, sxR, sevalprocAttr] <;> (try simp) <;> (try omega)) ?_
  simp only [sx2, sxR, sevalprocAttr]
  refine LoopW.up Tok (fun i : Nat => [(8, .row 0), (24, (.v (.int .i64 i))), (9, (.v (.int .i64 ((keS a b i).2))))]) (fun i => []) (fun i => []) (fun i => [.own 44 2 ((keS a b i).1.map eJ)]) (fun i => i ≤ a.length) (fun i => a.length - i) (0) (by simp only [sx2, encs, sxR, sevalprocAttr] <;> (try simp [keS, encs]) <;> (try omega)) ?_ ?_
  ·omega
  rintro i hi
  obtain ⟨hb1, hb2⟩ := keS_b a b i
  simp only [↓sx0, sxE, encs, sevalprocAttr]
  refine BrW.dec (fun hlt => ?_) (fun hlt => ?_)
  ·simp only [↓sx0, sxE, encs, sevalprocAttr]
   have hia : i < a.length := by omega
   refine IxW.nat hia ?_
   simp only [↓sx0, sxE, encs, sevalprocAttr]
   generalize hf : (keS a b i).2 = f at hb1 ⊢
   refine LoopW.comp [1, 7, 8, 9, 10, 11, 12, 22, 23, 24] (by simp only [sx2, encs, sxR, sevalprocAttr] <;> (try simp) <;> (try omega)) ?_
   simp only [sx2, sxR, sevalprocAttr]
   refine LoopW.up Tok (fun k : Nat => [(8, .row 0), (12, (.v (.int .i64 k))), (9, (.v (.int .i64 f)))]) (fun k => []) (fun k => []) (fun k => []) (fun k => (f ≤ k ∧ k ≤ b.length) ∧ keF a b i f (b.length - k) k = keN a b i f) (fun k => b.length - k) (f) (by simp only [sx2, encs, sxR, sevalprocAttr] <;> (try simp) <;> (try omega)) ?_ ?_
   ·exact ⟨⟨by omega, by omega⟩, rfl⟩
   rintro k ⟨⟨hfk, hkb⟩, hF⟩
   simp only [↓sx0, sxE, encs, sevalprocAttr]
   refine BrW.dec (fun hlt2 => ?_) (fun hlt2 => ?_)
   ·simp only [↓sx0, sxE, encs, sevalprocAttr]
    have hkb2 : k < b.length := by omega
    have hFs : keF a b i f (b.length - k) k = if keP a b i f k = true then some k else keF a b i f (b.length - (k + 1)) (k + 1) := by rw [show b.length - k = (b.length - (k + 1)) + 1 by omega, keF]
    have hP : keP a b i f k = (decide (a[i] = b[k]) && decide (tl a b (i + 1) (k + 1) + 1 = tl a b i f)) := by simp [keP, hia, hkb2]
    have hno : keP a b i f k = false → keF a b i f (b.length - (k + 1)) (k + 1) = keN a b i f := fun h => by rw [← hF, hFs, if_neg (by rw [h]; simp)]
    have htb := tl_b a b (i + 1) (k + 1)
    refine DrawW.plan Tok mixed (.q 0 <| .q 1 <| .q 2 <| .q 3 <| .q 4 <| .q 5 <| .q 6 <| .q 7 <| .q 8 <| .q 9 <| .q 10 <| .q 11 <| .q 12 <| .q 13 <| .q 14 <| .q 15 <| .q 16 <| .q 17 <| .q 18 <| .q 19 <| .q 20 <| .q 21 <| .q 22 <| .q 23 <| .q 24 <| .q 25 <| .done) (by kernel_rfl) (by kernel_rfl) ?_
    simp only [↓sx0, sxE, encs, sevalprocAttr]
    refine IxW.nat hkb2 ?_
    simp only [↓sx0, sxE, encs, sevalprocAttr]
    refine BrW.dec (fun heq => ?_) (fun heq => ?_)
    ·simp only [↓sx0, sxE, encs, sevalprocAttr]
     repeat ((with_reducible refine Vc.go ?_ fun _ => ?_); (focus (first | omega | (simp only [InK]; omega) | (simp [InK] <;> omega))); simp only [↓sx0, sxE, encs, sevalprocAttr])
     refine ⟨by omega, _, (by rw [show ((i : Int) + 1).toNat = i + 1 by omega]; exact tab0_get (by omega)), ?_⟩
     simp only [↓sx0, sxE, encs, sevalprocAttr]
     repeat ((with_reducible refine Vc.go ?_ fun _ => ?_); (focus (first | omega | (simp only [InK]; omega) | (simp [InK] <;> omega))); simp only [↓sx0, sxE, encs, sevalprocAttr])
     refine ⟨by omega, _, (by rw [show ((k : Int) + 1).toNat = k + 1 by omega]; exact rowT_get a b (i + 1) (k + 1) (by omega)), ?_⟩
     simp only [↓sx0, sxE, encs, sevalprocAttr]
     repeat ((with_reducible refine Vc.go ?_ fun _ => ?_); (focus (first | omega | (simp only [InK]; omega) | (simp [InK] <;> omega))); simp only [↓sx0, sxE, encs, sevalprocAttr])
     refine ⟨by omega, _, (by rw [Int.toNat_natCast]; exact tab0_get (by omega)), ?_⟩
     simp only [↓sx0, sxE, encs, sevalprocAttr]
     refine ⟨by omega, _, (by rw [Int.toNat_natCast]; exact rowT_get a b i f (by omega)), ?_⟩
     simp only [↓sx0, sxE, encs, sevalprocAttr]
     refine BrW.dec (fun h2 => ?_) (fun h2 => ?_)
     ·have hkp : keP a b i f k = true := by rw [hP, heq, h2]; simp
      have hN : keN a b i f = some k := by rw [← hF, hFs, if_pos hkp]
      have hS : keS a b (i + 1) = ((keS a b i).1 ++ [(i, k)], k + 1) := by simp only [keS]; rw [hf, hN]
      simp only [↓sx0, sxE, encs, sevalprocAttr]
      repeat ((with_reducible refine Vc.go ?_ fun _ => ?_); (focus (first | omega | (simp only [InK]; omega) | (simp [InK] <;> omega))); simp only [↓sx0, sxE, encs, sevalprocAttr])
      refine ⟨i + 1, StLe.auto (by simp only [sx2, encs, sxR, sevalprocAttr] <;> (try simp [hS, encs]) <;> (try omega)), ?_, ?_⟩
      ·omega
      ·omega
     ·have hkp : keP a b i f k = false := by rw [hP, decide_eq_false h2]; simp
      simp only [↓sx0, sxE, encs, sevalprocAttr]
      repeat ((with_reducible refine Vc.go ?_ fun _ => ?_); (focus (first | omega | (simp only [InK]; omega) | (simp [InK] <;> omega))); simp only [↓sx0, sxE, encs, sevalprocAttr])
      refine ⟨k + 1, StLe.auto (by simp only [sx2, encs, sxR, sevalprocAttr] <;> (try simp) <;> (try omega)), ?_, ?_⟩
      ·exact ⟨⟨by omega, by omega⟩, hno hkp⟩
      ·omega
    ·have hkp : keP a b i f k = false := by rw [hP, decide_eq_false (fun h => heq h.symm)]; simp
     simp only [↓sx0, sxE, encs, sevalprocAttr]
     repeat ((with_reducible refine Vc.go ?_ fun _ => ?_); (focus (first | omega | (simp only [InK]; omega) | (simp [InK] <;> omega))); simp only [↓sx0, sxE, encs, sevalprocAttr])
     refine ⟨k + 1, StLe.auto (by simp only [sx2, encs, sxR, sevalprocAttr] <;> (try simp) <;> (try omega)), ?_, ?_⟩
     ·exact ⟨⟨by omega, by omega⟩, hno hkp⟩
     ·omega
   ·have hkb3 : k = b.length := by omega
    have hN : keN a b i f = none := by rw [← hF, hkb3, Nat.sub_self, keF]
    have hS : keS a b (i + 1) = keS a b i := by simp only [keS]; rw [hf, hN]
    simp only [↓sx0, sxE, encs, sevalprocAttr]
    repeat ((with_reducible refine Vc.go ?_ fun _ => ?_); (focus (first | omega | (simp only [InK]; omega) | (simp [InK] <;> omega))); simp only [↓sx0, sxE, encs, sevalprocAttr])
    refine ⟨i + 1, StLe.auto (by simp only [sx2, encs, sxR, sevalprocAttr] <;> (try simp [hS, hf, encs]) <;> (try omega)), ?_, ?_⟩
    ·omega
    ·omega
  ·simp only [↓sx0, sxE, encs, sevalprocAttr]
   have hie : i = a.length := by omega
   subst hie
   refine EndW.fn ?_ ?_ <;> simp only [sx4, encs, kpLL_map, sxR, sevalprocAttr] <;> (try simp [keptL]) <;> (try omega)
 ·rw [if_neg hs] at hcs
  rw [show keptV a b = ([], 8) by rw [keptV, if_neg hs]]
  refine CallI.fn (hcs) (by simp only [sx3, encs, sxR, sevalprocAttr] <;> (try simp) <;> (try rfl)) ?_
  simp only [↓sx0, sxE, encs, sevalprocAttr]
  refine EndW.fn ?_ ?_ <;> simp only [sx4, encs, kpLL_map, sxR, sevalprocAttr] <;> (try simp) <;> (try omega)
end Go.Proofs.YtgcmppghjfidfaaGreatDoor
/-
  Chapter 2, walks: where a pattern stands (iterator), and the levels of a pattern.
-/
namespace Go.Proofs.YtgcmppghjfidfaaGreatDoor
open Go Go.Vx
set_option maxRecDepth 20000
def fdC (p : Pat) (w : ByteArray) : List SV := [.pt true [.pt true [(.v (.string (p.letters))), .sl true 1 (p.levels.map eI), (.v (.bool (p.first))), (.v (.bool (p.last)))]], .pt true [(.v (.string (w)))]]
theorem fdC_eq : ∀ p w, fdC p w = [.pt true [.pt true [(.v (.string (p.letters))), .sl true 1 (p.levels.map eI), (.v (.bool (p.first))), (.v (.bool (p.last)))]], .pt true [(.v (.string (w)))]] := fun _ _ => rfl
theorem found_s (p : Pat) (w : ByteArray) : Ctr Tryz.prog 201 [.pt true [(.v (.string (p.letters))), .sl true 1 (p.levels.map eI), (.v (.bool (p.first))), (.v (.bool (p.last)))], (.v (.string (w)))] (fun rr => rr = ⟨.clo 227 (fdC p w), []⟩) := by
  have encs := And.intro encs fdC_eq
  refine Ctr.ofB (rs := [.tmp 4]) Tok Tryz.func201 rfl rfl rfl rfl (by simp [ofDL]) (fun w0 kp => ?_)
  simp only [↓sx0, sxE, encs, sevalprocAttr]
  simp only [endY, boxV, boxL, bxPs, bxPs.bx1, bxD, assB, ptB, bxV, bxL, toDL, toD, consO, vD, oneV, dedN, addN, memN, sxL, sx2, encs, sxR, sevalprocAttr]
  exact EndW.fn (by simp only [sx4, encs, kpLL_map, sxR, sevalprocAttr] <;> (try simp) <;> (try omega)) (by simp only [sx4, encs, kpLL_map, sxR, sevalprocAttr] <;> (try simp) <;> (try omega))
def hitB (p : Pat) (w : ByteArray) (k : Nat) : Bool := !((p.first && decide (0 < k)) || (p.last && decide (k + p.letters.size < w.size)) || !preB (w.extract k w.size) p.letters)
def hits (p : Pat) (w : ByteArray) (k : Nat) : List Int := ((List.range k).filter (hitB p w)).map fun i : Nat => (i : Int)
theorem hits_succ (p : Pat) (w : ByteArray) (k : Nat) : hits p w (k + 1) = if hitB p w k = true then hits p w k ++ [(k : Int)] else hits p w k := by
  unfold hits
  rw [List.range_succ, List.filter_append, List.map_append]
  by_cases h2 : hitB p w k = true
  · simp [h2]
  · simp [h2]
theorem hits_le (p : Pat) (w : ByteArray) {j k : Nat} (h : j ≤ k) : hits p w j <+: hits p w k := by
  induction k with
  | zero => rw [Nat.le_zero.1 h]; exact List.prefix_refl _
  | succ k ih =>
    by_cases hjk : j = k + 1
    · rw [hjk]; exact List.prefix_refl _
    · refine (ih (by omega)).trans ?_
      rw [hits_succ]
      split
      · exact List.prefix_append _ _
      · exact List.prefix_refl _
def yI (n : Int) : List SV := [(.v (.int .i64 n))]
def hitN (p : Pat) (w : ByteArray) : Nat := w.size + 1 - p.letters.size
set_option maxHeartbeats 16000000 in
theorem foundIt_s (p : Pat) (w : ByteArray) (hp : PatOk p) (hw : w.size ≤ 1000000) : ItCtr Tryz.prog 227 (fdC p w) ((hits p w (hitN p w)).map yI) := by
  have encs := And.intro encs fdC_eq
  have h16 := hp.1
  refine ItCtr.of Tok Tryz.func227 rfl rfl rfl rfl (by simp [ofDL, encs]) (fun w0 kp yd hok => ?_)
  simp only [↓sx0, sxE, encs, sevalprocAttr]
  refine LoopW.comp [0, 1, 2, 4] (by simp only [sx2, encs, sxR, sevalprocAttr] <;> (try simp) <;> (try omega)) ?_
  simp only [sx2, sxR, sevalprocAttr]
  refine LoopW.upG Tok (fun k : Nat => [(4, (.v (.int .i64 ((k : Int)))))]) (fun k => []) (fun k => []) (fun k => []) (fun k => (hits p w k).map yI) (fun k => k ≤ hitN p w) (fun k => hitN p w - k) (0) (by simp only [sx2, encs, sxR, sevalprocAttr] <;> (try simp [hits, encs]) <;> (try omega)) ?_ ?_
  · exact Nat.zero_le _
  rintro k hk
  unfold hitN at hk
  simp only [↓sx0, sxE, encs, sevalprocAttr]
  refine DrawW.plan Tok mixed (.q 0 <| .q 1 <| .q 2 <| .q 3 <| .q 4 <| .q 5 <| .q 6 <| .q 7 <| .q 8 <| .q 9 <| .done) (by kernel_rfl) (by kernel_rfl) ?_
  simp only [↓sx0, sxE, encs, sevalprocAttr]
  repeat ((with_reducible refine Vc.go ?_ fun _ => ?_); (focus (first | omega | (simp only [InK]; omega) | (simp [InK] <;> omega))); simp only [↓sx0, sxE, encs, sevalprocAttr])
  refine BrW.dec (fun hlt => ?_) (fun hlt => ?_)
  · simp only [↓sx0, sxE, encs, sevalprocAttr]
    have hsc := hits_succ p w k
    have hsk := hits_le p w (show k + 1 ≤ hitN p w by unfold hitN; omega)
    have hkn : (k : Int).toNat = k := Int.toNat_natCast k
    refine DrawW.plan Tok mixed (.q 0 <| .q 1 <| .q 2 <| .q 3 <| .q 4 <| .q 5 <| .q 6 <| .q 7 <| .q 8 <| .q 9 <| .q 10 <| .q 11 <| .q 12 <| .q 13 <| .q 14 <| .q 15 <| .q 16 <| .q 17 <| .q 18 <| .q 19 <| .q 20 <| .q 21 <| .q 22 <| .q 23 <| .q 24 <| .q 25 <| .q 26 <| .q 27 <| .q 28 <| .q 29 <| .q 30 <| .q 31 <| .q 32 <| .q 33 <| .z 34 <| .e 34 [] <| .q 35 <| .q 36 <| .done) (by kernel_rfl) (by kernel_rfl) ?_
    simp only [↓sx0, sxE, encs, sevalprocAttr]
    have hC := hasPre_s (w.extract k w.size) p.letters (by rw [ByteArray.size_extract]; omega) (by omega)
    repeat' (first | (with_reducible refine And.intro ?_ ?_) | (with_reducible refine BrW.dec (fun hb => ?_) (fun hb => ?_)) | (with_reducible refine BrW.of (fun hb => ?_) (fun hb => ?_)) | simp only [↓sx0, sxE, encs, sevalprocAttr] | (refine CallI.fn hC ?_ ?_; (focus ((simp only [sx3, encs, sxR, sevalprocAttr] <;> (try simp) <;> (try rfl)); done))) | ((with_reducible refine Vc.go ?_ fun _ => ?_); (focus (first | omega | (simp only [InK]; omega) | (simp [InK]; omega)))))
    all_goals first
      | (have he : hitB p w k = false := by
           rw [hitB]
           simp only [Bool.not_eq_false', Bool.or_eq_true, Bool.and_eq_true, decide_eq_true_eq, Bool.not_eq_true']
           first | (refine .inl (.inl ⟨?_, ?_⟩); assumption; omega) | (refine .inl (.inr ⟨?_, ?_⟩); assumption; omega) | (refine .inr ?_; assumption)
         rw [if_neg (by rw [he]; simp)] at hsc
         refine ⟨k + 1, StLe.auto (by simp only [sx2, encs, sxR, sevalprocAttr] <;> (try simp [hsc, encs]) <;> (try omega)), ?_, ?_⟩
         · unfold hitN; omega
         · unfold hitN; omega
         done)
      | (have he : hitB p w k = true := by
           rw [hitB]
           simp only [Bool.not_eq_true', Bool.or_eq_false_iff, Bool.and_eq_false_iff, decide_eq_false_iff_not, Bool.not_eq_false']
           refine ⟨⟨?_, ?_⟩, ?_⟩
           · first | (left; assumption) | (right; omega)
           · first | (left; assumption) | (right; omega)
           · assumption
         rw [if_pos he] at hsc
         rw [hsc] at hsk
         have hm : ((hits p w k).map yI ++ [yI (k : Int)]) <+: (hits p w (hitN p w)).map yI := by
           have := hsk.map yI
           simpa using this
         have encs := And.intro encs (show ∀ n, yI n = [.v (.int .i64 n)] from fun _ => rfl)
         refine YldI.of (ys := (hits p w k).map yI) hok rfl rfl (by simp only [sx2, sxA, encs, sxR, sevalprocAttr] <;> rfl) (by simp only [sx2, sxA, encs, sxR, sevalprocAttr] <;> rfl) rfl rfl rfl (hm) ?_ ?_
         · simp only [↓sx0, sxE, encs, sevalprocAttr]
           repeat ((with_reducible refine Vc.go ?_ fun _ => ?_); (focus (first | omega | (simp only [InK]; omega) | (simp [InK] <;> omega))); simp only [↓sx0, sxE, encs, sevalprocAttr])
           refine ⟨k + 1, StLe.auto (by simp only [sx2, encs, sxR, sevalprocAttr] <;> (try simp [hsc, encs]) <;> (try omega)), ?_, ?_⟩
           · unfold hitN; omega
           · unfold hitN; omega
         · simp only [↓sx0, sxE, encs, sevalprocAttr]
           intro h
           cases h
         done)
  · simp only [↓sx0, sxE, encs, sevalprocAttr]
    have hke : k = hitN p w := by unfold hitN; omega
    subst hke
    intro _
    rfl
end Go.Proofs.YtgcmppghjfidfaaGreatDoor
/-
 Chapter 2, walks: the levels of a pattern in a word (only that there are as many as places).
-/
namespace Go.Proofs.YtgcmppghjfidfaaGreatDoor
open Go Go.Vx
set_option maxRecDepth 20000
def mx (lv : List Int) (a k : Nat) (o : List Int) : List Int := o.set (a + k) (max (o.getD (a + k) 0) (lv.getD k 0))
def bmp (lv : List Int) (a : Nat) : Nat → List Int → List Int
 | 0, o => o
 | k + 1, o => mx lv a k (bmp lv a k o)
def inF (p : Pat) (w : ByteArray) : Nat → List Int
 | 0 => List.replicate (w.size + 1) 0
 | m + 1 => bmp p.levels ((hits p w (hitN p w)).getD m 0).toNat p.levels.length (inF p w m)
def Lv9 (o : List Int) : Prop := ∀ n ∈ o, 0 ≤ n ∧ n ≤ 9
theorem lv9_get {o : List Int} (h : Lv9 o) (k : Nat) : 0 ≤ o.getD k 0 ∧ o.getD k 0 ≤ 9 := by
 rw [List.getD_eq_getElem?_getD]
 cases hk : o[k]? with
 | none => simp
 | some n => exact h n (List.mem_of_getElem? hk)
theorem bmp_ok {lv : List Int} (hl : Lv9 lv) (a : Nat) : ∀ (k : Nat) {o : List Int}, Lv9 o → (bmp lv a k o).length = o.length ∧ Lv9 (bmp lv a k o)
 | 0, _, h => ⟨rfl, h⟩
 | k + 1, o, h => by
  obtain ⟨h1, h2⟩ := bmp_ok hl a k h
  refine ⟨by rw [bmp, mx, List.length_set, h1], fun n hn => ?_⟩
  rw [bmp, mx] at hn
  rcases List.mem_or_eq_of_mem_set hn with hn | rfl
  ·exact h2 n hn
  ·have := lv9_get h2 (a + k); have := lv9_get hl k; omega
theorem inF_ok {p : Pat} (hp : PatOk p) (w : ByteArray) : ∀ m, (inF p w m).length = w.size + 1 ∧ Lv9 (inF p w m)
 | 0 => ⟨by simp [inF], fun n hn => by rw [inF] at hn; rw [(List.mem_replicate.1 hn).2]; omega⟩
 | m + 1 => by
  obtain ⟨h1, h2⟩ := inF_ok hp w m
  obtain ⟨h3, h4⟩ := bmp_ok (lv := p.levels) hp.2.2 ((hits p w (hitN p w)).getD m 0).toNat p.levels.length h2
  exact ⟨by rw [inF, h3, h1], h4⟩
theorem hits_mem {p : Pat} {w : ByteArray} {a : Int} (h : a ∈ hits p w (hitN p w)) : ∃ k : Nat, a = (k : Int) ∧ k + p.letters.size ≤ w.size := by
 simp only [hits, List.mem_map, List.mem_filter, List.mem_range] at h
 obtain ⟨k, ⟨h1, _⟩, rfl⟩ := h
 exact ⟨k, rfl, by unfold hitN at h1; omega⟩
theorem modI {l : List Int} (i : Nat) (v : Int) : (l.map eI).modify i (fun x => modE x 0 [D.v (.int .i64 v)]) = (l.set i v).map eI := by
 apply List.ext_getElem?
 intro j
 rw [List.getElem?_modify, List.getElem?_map, List.getElem?_map, List.getElem?_set]
 by_cases hij : i = j
 ·subst hij
  by_cases hl : i < l.length
  ·simp [modE, eI, hl]
  ·simp [List.getElem?_eq_none (show l.length ≤ i by omega), hl]
 ·simp [hij]
def InP (w : ByteArray) (rr : Ret) : Prop := ∃ lv : List Int, rr = ⟨.sl true 1 (lv.map eI), []⟩ ∧ lv.length = w.size + 1 ∧ Lv9 lv
set_option maxHeartbeats 16000000 in
theorem in_s (p : Pat) (w : ByteArray) (hp : PatOk p) (hw : w.size ≤ 1000000) : Ctr Tryz.prog 172 [.pt true [(.v (.string (p.letters))), .sl true 1 (p.levels.map eI), (.v (.bool (p.first))), (.v (.bool (p.last)))], (.v (.string (w)))] (InP w) := by
 have encs := And.intro encs fdC_eq
 have h16 := hp.1
 have hlen := hp.2.1
 have hit := foundIt_s p w hp hw
 have hF0 : (inF p w 0).map eI = List.replicate (w.size + 1) [.v (.int .i64 0)] := by simp [inF, eI]
 refine Ctr.of (rs := [.tmp 4]) Tok true Tryz.func172 rfl rfl rfl rfl (by simp [ofDL]) (fun w0 kp => ?_)
 simp only [↓sx0, sxE, encs, sevalprocAttr]
 repeat ((with_reducible refine Vc.go ?_ fun _ => ?_); (focus (first | omega | (simp only [InK]; omega) | (simp [InK] <;> omega))); simp only [↓sx0, sxE, encs, sevalprocAttr])
 refine CallI.fn (found_s p w) (by simp only [sx3, encs, sxR, sevalprocAttr] <;> (try simp) <;> (try rfl)) ?_
 simp only [↓sx0, sxE, encs, sevalprocAttr]
 rw [show ((w.size : Int) + 1).toNat = w.size + 1 by omega, ← hF0]
 refine RangeW.it Tok (fun _ => rfl) (fun hro => by first | rfl | exact (by rw [hro] at *; contradiction)) (hit) [(2, .box 0 0), (5, .box 1 0), (15, .clo 227 (fdC p w))] (fun ys => [some ⟨207, [.pt true [(.v (.string (p.letters))), .sl true 1 (p.levels.map eI), (.v (.bool (p.first))), (.v (.bool (p.last)))]]⟩, some ⟨60, [.row 0]⟩]) (fun ys => [.own 3 1 ((inF p w ys.length).map eI)]) (fun _ => True) trivial (by simp only [sx2, encs, sxR, sevalprocAttr] <;> (try simp) <;> (try omega)) rfl rfl (by intro d hd; obtain ⟨p, -, rfl⟩ := List.mem_map.1 hd; rfl) ?_ (fun hJall => ?_)
 ·rintro pre d hpre - ρ σ μ ho' hy hs
  obtain ⟨q, hq⟩ := hpre
  have hn : pre.length < (hits p w (hitN p w)).length := by
   have := congrArg List.length hq
   simp at this; omega
  have hd : d = yI (hits p w (hitN p w))[pre.length] := by
   have : ((hits p w (hitN p w)).map yI)[pre.length]? = some d := by rw [← hq]; simp
   simpa [List.getElem?_eq_getElem hn, eq_comm] using this
  subst hd
  obtain ⟨yd', ro, mks, fr, lp, sz⟩ := ho'
  obtain ⟨a, ha, hal⟩ := hits_mem (List.getElem_mem hn)
  have hsu : inF p w (pre.length + 1) = bmp p.levels a p.levels.length (inF p w pre.length) := by
   rw [inF, List.getD_eq_getElem?_getD, List.getElem?_eq_getElem hn, Option.getD_some, ha, Int.toNat_natCast]
  obtain ⟨hl1, hl2⟩ := inF_ok hp w pre.length
  have hlen2 : (pre ++ [yI (hits p w (hitN p w))[pre.length]]).length = pre.length + 1 := by simp
  rw [hlen2, hsu, ha]
  have hyI : yI (a : Int) = [(.v (.int .i64 ((a : Int))))] := rfl
  rw [hyI]
  generalize inF p w pre.length = o at hl1 hl2 ⊢
  simp only [↓sx0, sxE, encs, sevalprocAttr]
  intro fr'
  refine LoopW.comp [5, 6, 20, 21, 22] (by simp only [sx2, encs, sxR, sevalprocAttr] <;> (try simp) <;> (try omega)) ?_
  simp only [sx2, sxR, sevalprocAttr]
  refine LoopW.up Tok (fun k : Nat => [(22, (.v (.int .i64 ((k : Int)))))]) (fun k => []) (fun k => [(0, (bmp p.levels a k o).map eI)]) (fun k => []) (fun k => k ≤ p.levels.length) (fun k => p.levels.length - k) (0) (by simp only [sx2, encs, sxR, sevalprocAttr] <;> (try simp [bmp, encs]) <;> (try omega)) ?_ ?_
  ·exact Nat.zero_le _
  rintro k hk
  obtain ⟨g1, g2⟩ := bmp_ok (lv := p.levels) hp.2.2 a k hl2
  simp only [↓sx0, sxE, encs, sevalprocAttr]
  by_cases hk2 : k < p.levels.length
  ·refine BrW.yes (by omega) ?_
   simp only [↓sx0, sxE, encs, sevalprocAttr]
   refine IxW.nat hk2 ?_
   simp only [↓sx0, sxE, encs, sevalprocAttr]
   refine DrawW.plan Tok mixed (.q 0 <| .q 1 <| .q 2 <| .q 3 <| .q 4 <| .q 5 <| .q 6 <| .q 7 <| .q 8 <| .q 9 <| .q 10 <| .q 11 <| .q 12 <| .e 13 [] <| .done) (by kernel_rfl) (by kernel_rfl) ?_
   simp only [↓sx0, sxE, encs, sevalprocAttr]
   repeat ((with_reducible refine Vc.go ?_ fun _ => ?_); (focus (first | omega | (simp only [InK]; omega) | (simp [InK] <;> omega))); simp only [↓sx0, sxE, encs, sevalprocAttr])
   rw [show ((a : Int) + (k : Int)) = ((a + k : Nat) : Int) by omega]
   have hak : a + k < (bmp p.levels a k o).length := by omega
   refine IxW.nat hak ?_
   simp only [↓sx0, sxE, encs, sevalprocAttr]
   repeat ((with_reducible refine Vc.go ?_ fun _ => ?_); (focus (first | omega | (simp only [InK]; omega) | (simp [InK] <;> omega))); simp only [↓sx0, sxE, encs, sevalprocAttr])
   have hb : bmp p.levels a (k + 1) o = (bmp p.levels a k o).set (a + k) (max (bmp p.levels a k o)[a + k] p.levels[k]) := by
    rw [bmp, mx, List.getD_eq_getElem?_getD, List.getD_eq_getElem?_getD, List.getElem?_eq_getElem hak, List.getElem?_eq_getElem hk2]; rfl
   rw [Int.toNat_natCast, modI, ← hb]
   refine ⟨k + 1, StLe.auto (by simp only [sx2, encs, sxR, sevalprocAttr] <;> (try simp) <;> (try omega)), ?_, ?_⟩
   ·omega
   ·omega
  ·have hke : k = p.levels.length := by omega
   subst hke
   refine BrW.no (by omega) ?_
   simp only [↓sx0, sxE, encs, sevalprocAttr]
   simp only [sx2, encs, sxR, sevalprocAttr] <;> (try simp) <;> (try omega)
 ·rw [List.length_map]
  obtain ⟨hl1, hl2⟩ := inF_ok hp w (hits p w (hitN p w)).length
  simp only [↓sx0, sxE, encs, sevalprocAttr]
  exact EndW.p (.sl true 1 ((inF p w (hits p w (hitN p w)).length).map eI)) ⟨_, rfl, hl1, hl2⟩ (by simp [leV]) (by simp only [kpV, kpLL_map]; simp [kpL, kpD, eI])
end Go.Proofs.YtgcmppghjfidfaaGreatDoor
/-
  Chapter 2, walks: barred places, and the sorts that a text begins with (iterator).
-/
namespace Go.Proofs.YtgcmppghjfidfaaGreatDoor
open Go Go.Vx
set_option maxRecDepth 20000
theorem indexF2_s (b : Bool) (f : Nat) (d1 d2 : Int) (p : Int → Bool) (l : List Int) (hl : l.length ≤ 1000000000) (hof : ∀ x ∈ l, Ctr Tryz.prog f [(.v (.int .i64 x)), .pt false [(.v (.int .i64 d1))], .pt false [(.v (.int .i64 d2))]] (fun rr => rr = ⟨(.v (.bool (p x))), []⟩)) : Ctr Tryz.prog 180 [.sl b 1 (l.map eI), .clo f [.pt false [(.v (.int .i64 d1))], .pt false [(.v (.int .i64 d2))]]] (fun rr => rr = ⟨(.v (.int .i64 (ixG p l))), []⟩) := by
  refine Ctr.of (rs := [.tmp 4]) Tok true Tryz.func180 rfl rfl rfl rfl (by simp [ofDL]) (fun w0 kp => ?_)
  simp only [↓sx0, xE, sevalprocAttr]
  refine LoopW.comp [0, 1, 7, 8] (by simp only [sx2, xR, sevalprocAttr] <;> (try simp) <;> (try omega)) ?_
  simp only [sx2, sxR, sevalprocAttr]
  refine LoopW.up Tok (fun k : Nat => [(8, (.v (.int .i64 k)))]) (fun k => []) (fun k => []) (fun k => []) (fun k => k ≤ l.length ∧ ∀ j (_ : j < k) (h2 : j < l.length), p l[j] = false) (fun k => l.length - k) (0) (by simp only [sx2, xR, sevalprocAttr] <;> (try simp) <;> (try omega)) ?_ ?_
  · exact ⟨by omega, fun j h => absurd h (Nat.not_lt_zero _)⟩
  rintro k ⟨hk, ht⟩
  simp only [↓sx0, xE, sevalprocAttr]
  refine BrW.dec (fun hlt => ?_) (fun hlt => ?_)
  · simp only [↓sx0, xE, sevalprocAttr]
    have hlt : k < l.length := by omega
    refine IxW.nat hlt ?_
    simp only [↓sx0, xE, sevalprocAttr]
    refine CallI.fn (hof l[k] (List.getElem_mem hlt)) (by simp only [sx3, xR, sevalprocAttr] <;> (try simp) <;> (try rfl)) ?_
    simp only [↓sx0, xE, sevalprocAttr]
    refine BrW.of (fun hb => ?_) (fun hb => ?_)
    · simp only [↓sx0, xE, sevalprocAttr]
      have := ixG_at hlt hb ht
      refine EndW.fn ?_ ?_ <;> simp only [sx4, xK, sevalprocAttr] <;> (try simp [this]) <;> (try omega)
    · simp only [↓sx0, xE, sevalprocAttr]
      (with_reducible refine Vc.go ?_ fun _ => ?_); focus (first | omega | (simp only [InK]; omega) | (simp [InK] <;> omega))
      simp only [↓sx0, xE, sevalprocAttr]
      refine ⟨k + 1, StLe.auto (by simp only [sx2, xR, sevalprocAttr] <;> (try simp) <;> (try omega)), ?_, ?_⟩
      · refine ⟨hlt, fun j h h2 => ?_⟩
        by_cases e : j = k
        · subst e; exact hb
        · exact ht j (by omega) h2
      · omega
  · simp only [↓sx0, xE, sevalprocAttr]
    have hke : k = l.length := by omega
    subst hke
    have := ixG_no (l := l) (p := p) fun j h => ht j h h
    refine EndW.fn ?_ ?_ <;> simp only [sx4, xK, sevalprocAttr] <;> (try simp [this]) <;> (try omega)
theorem containsF2_s (b : Bool) (f : Nat) (d1 d2 : Int) (p : Int → Bool) (l : List Int) (hl : l.length ≤ 1000000000) (hof : ∀ x ∈ l, Ctr Tryz.prog f [(.v (.int .i64 x)), .pt false [(.v (.int .i64 d1))], .pt false [(.v (.int .i64 d2))]] (fun rr => rr = ⟨(.v (.bool (p x))), []⟩)) : Ctr Tryz.prog 147 [.sl b 1 (l.map eI), .clo f [.pt false [(.v (.int .i64 d1))], .pt false [(.v (.int .i64 d2))]]] (fun rr => rr = ⟨(.v (.bool (l.any p))), []⟩) := by
  refine Ctr.of (rs := [.tmp 4]) Tok true Tryz.func147 rfl rfl rfl rfl (by simp [ofDL]) (fun w0 kp => ?_)
  simp only [↓sx0, xE, sevalprocAttr]
  refine CallI.fn (indexF2_s b f d1 d2 p l hl hof) (by simp only [sx3, xR, sevalprocAttr] <;> (try simp) <;> (try rfl)) ?_
  simp only [↓sx0, xE, sevalprocAttr]
  rw [ixG_any]
  refine EndW.fn ?_ ?_ <;> simp only [sx4, xK, sevalprocAttr] <;> (try simp) <;> (try omega)
def barS (fr n x : Int) : Bool := decide (fr < x) && decide (x < fr + n)
theorem barred1_s (fr n x : Int) (h : 0 ≤ fr ∧ fr ≤ 1000000000 ∧ 0 ≤ n ∧ n ≤ 1000000000) : Ctr Tryz.prog 148 [(.v (.int .i64 x)), .pt false [(.v (.int .i64 fr))], .pt false [(.v (.int .i64 n))]] (fun rr => rr = ⟨(.v (.bool (barS fr n x))), []⟩) := by
  refine Ctr.of (rs := [.tmp 4]) Tok true Tryz.func148 rfl rfl rfl rfl (by simp [ofDL]) (fun w0 kp => ?_)
  simp only [↓sx0, xE, sevalprocAttr]
  refine BrW.dec (fun h1 => ?_) (fun h1 => ?_)
  · simp only [↓sx0, xE, sevalprocAttr]
    repeat ((with_reducible refine Vc.go ?_ fun _ => ?_); (focus (first | omega | (simp only [InK]; omega) | (simp [InK] <;> omega))); simp only [↓sx0, xE, sevalprocAttr])
    have : barS fr n x = decide (x < fr + n) := by rw [barS, decide_eq_true h1, Bool.true_and]
    refine EndW.fn ?_ ?_ <;> simp only [sx4, xK, sevalprocAttr] <;> (try simp [this]) <;> (try omega)
  · simp only [↓sx0, xE, sevalprocAttr]
    have : barS fr n x = false := by rw [barS, decide_eq_false h1, Bool.false_and]
    refine EndW.fn ?_ ?_ <;> simp only [sx4, xK, sevalprocAttr] <;> (try simp [this]) <;> (try omega)
theorem barred_s (b : Bool) (bars : List Int) (fr n : Int) (h : 0 ≤ fr ∧ fr ≤ 1000000000 ∧ 0 ≤ n ∧ n ≤ 1000000000) (hb : bars.length ≤ 1000000000) : Ctr Tryz.prog 97 [.sl b 1 (bars.map eI), (.v (.int .i64 fr)), (.v (.int .i64 n))] (fun rr => rr = ⟨(.v (.bool (bars.any (barS fr n)))), []⟩) := by
  refine Ctr.of (rs := [.tmp 6]) Tok true Tryz.func97 rfl rfl rfl rfl (by simp [ofDL]) (fun w0 kp => ?_)
  simp only [↓sx0, xE, sevalprocAttr]
  refine CallI.fn (containsF2_s b 148 fr n (barS fr n) bars hb (fun x _ => barred1_s fr n x h)) (by simp only [sx3, xR, sevalprocAttr] <;> (try simp) <;> (try rfl)) ?_
  simp only [↓sx0, xE, sevalprocAttr]
  refine EndW.fn ?_ ?_ <;> simp only [sx4, xK, sevalprocAttr] <;> (try simp) <;> (try omega)
/-- the sorts that a text begins with. -/
def ftV (n : ByteArray) (bd : Int) (l : List Srt) : SV := .agg [(.v (.string (n))), (.v (.int .i64 bd)), .sl true 4 (l.map eT)]
def bgC (n : ByteArray) (bd : Int) (l : List Srt) (s : ByteArray) : List SV := [.pt true [(.v (.string (n))), (.v (.int .i64 bd)), .sl true 4 (l.map eT)], .pt true [(.v (.string (s)))]]
theorem bgC_eq : ∀ n bd l s, bgC n bd l s = [.pt true [(.v (.string (n))), (.v (.int .i64 bd)), .sl true 4 (l.map eT)], .pt true [(.v (.string (s)))]] := fun _ _ _ _ => rfl
theorem begins_s (n : ByteArray) (bd : Int) (l : List Srt) (s : ByteArray) : Ctr Tryz.prog 96 [.agg [(.v (.string (n))), (.v (.int .i64 bd)), .sl true 4 (l.map eT)], (.v (.string (s)))] (fun rr => rr = ⟨.clo 145 (bgC n bd l s), []⟩) := by
  have encs := And.intro encs (And.intro eT_def bgC_eq)
  refine Ctr.ofB (rs := [.tmp 4]) Tok Tryz.func96 rfl rfl rfl rfl (by simp [ofDL]) (fun w0 kp => ?_)
  simp only [↓sx0, sxE, encs, sevalprocAttr]
  simp only [endY, boxV, boxL, bxPs, bxPs.bx1, bxD, assB, ptB, bxV, bxL, toDL, toD, consO, vD, oneV, dedN, addN, memN, sxL, sx2, encs, sxR, sevalprocAttr]
  exact EndW.fn (by simp only [sx4, encs, kpLL_map, sxR, sevalprocAttr] <;> (try simp) <;> (try omega)) (by simp only [sx4, encs, kpLL_map, sxR, sevalprocAttr] <;> (try simp) <;> (try omega))
def srt0 : Srt := ⟨⟨#[]⟩, ⟨#[]⟩, 0, 0⟩
def bgB (l : List Srt) (s : ByteArray) (i : Nat) : Bool := decide (¬ (l.getD i srt0).kind = 3) && preB s (l.getD i srt0).text
def bgN (l : List Srt) (s : ByteArray) (k : Nat) : List Nat := (List.range k).filter (bgB l s)
def bgY (l : List Srt) (i : Nat) : List SV := [(.v (.int .i64 ((i : Int)))), (.v (.int .i64 (((l.getD i srt0).text.size : Int))))]
theorem bgN_succ (l : List Srt) (s : ByteArray) (k : Nat) : bgN l s (k + 1) = if bgB l s k = true then bgN l s k ++ [k] else bgN l s k := by
  unfold bgN
  rw [List.range_succ, List.filter_append]
  by_cases h2 : bgB l s k = true
  · simp [h2]
  · simp [h2]
theorem bgN_le (l : List Srt) (s : ByteArray) {j k : Nat} (h : j ≤ k) : bgN l s j <+: bgN l s k := by
  induction k with
  | zero => rw [Nat.le_zero.1 h]; exact List.prefix_refl _
  | succ k ih =>
    by_cases hjk : j = k + 1
    · rw [hjk]; exact List.prefix_refl _
    · refine (ih (by omega)).trans ?_
      rw [bgN_succ]
      split
      · exact List.prefix_append _ _
      · exact List.prefix_refl _
theorem bgN_mem {l : List Srt} {s : ByteArray} {k i : Nat} (h : i ∈ bgN l s k) : i < k ∧ (l.getD i srt0).text.size ≤ s.size := by
  simp only [bgN, List.mem_filter, List.mem_range, bgB, Bool.and_eq_true] at h
  exact ⟨h.1, preB_le h.2.2⟩
set_option maxHeartbeats 16000000 in
theorem beginsIt_s (n : ByteArray) (bd : Int) (l : List Srt) (s : ByteArray) (hs : s.size ≤ 1000000) (hl : l.length ≤ 1000000) (hz : ∀ x ∈ l, SrtOk x) : ItCtr Tryz.prog 145 (bgC n bd l s) ((bgN l s l.length).map (bgY l)) := by
  have encs := And.intro encs (And.intro eT_def bgC_eq)
  refine ItCtr.of Tok Tryz.func145 rfl rfl rfl rfl (by simp [ofDL, encs]) (fun w0 kp yd hok => ?_)
  simp only [↓sx0, sxE, encs, sevalprocAttr]
  refine LoopW.comp [0, 2, 8, 9, 10] (by simp only [sx2, encs, sxR, sevalprocAttr] <;> (try simp) <;> (try omega)) ?_
  simp only [sx2, sxR, sevalprocAttr]
  refine LoopW.upG Tok (fun k : Nat => [(10, (.v (.int .i64 ((k : Int)))))]) (fun k => []) (fun k => []) (fun k => []) (fun k => (bgN l s k).map (bgY l)) (fun k => k ≤ l.length) (fun k => l.length - k) (0) (by simp only [sx2, encs, sxR, sevalprocAttr] <;> (try simp [bgN, encs]) <;> (try omega)) ?_ ?_
  · exact Nat.zero_le _
  rintro k hk
  simp only [↓sx0, sxE, encs, sevalprocAttr]
  refine BrW.dec (fun hlt => ?_) (fun hlt => ?_)
  · simp only [↓sx0, sxE, encs, sevalprocAttr]
    have hkl : k < l.length := by omega
    obtain ⟨z1, z2⟩ := hz _ (List.getElem_mem hkl)
    have hg : l.getD k srt0 = l[k] := by rw [List.getD_eq_getElem?_getD, List.getElem?_eq_getElem hkl]; rfl
    have hsc := bgN_succ l s k
    have hsk := bgN_le l s (show k + 1 ≤ l.length by omega)
    have hC := hasPre_s s l[k].text (by omega) z2
    have hB : bgB l s k = (decide (¬ l[k].kind = 3) && preB s l[k].text) := by rw [bgB, hg]
    have hY : bgY l k = [.v (.int .i64 k), .v (.int .i64 l[k].text.size)] := by rw [bgY, hg]
    refine IxW.nat hkl ?_
    repeat' (first | (with_reducible refine And.intro ?_ ?_) | (with_reducible refine BrW.dec (fun hb => ?_) (fun hb => ?_)) | (with_reducible refine BrW.of (fun hb => ?_) (fun hb => ?_)) | simp only [↓sx0, sxE, encs, sevalprocAttr] | (refine CallI.fn hC ?_ ?_; (focus ((simp only [sx3, encs, sxR, sevalprocAttr] <;> (try simp) <;> (try rfl)); done))) | ((with_reducible refine Vc.go ?_ fun _ => ?_); (focus (first | omega | (simp only [InK]; omega) | (simp [InK]; omega)))))
    all_goals first
      | (have he : bgB l s k = false := by
           rw [hB]
           simp only [Bool.and_eq_false_iff, decide_eq_false_iff_not]
           first | (left; assumption) | (right; assumption)
         rw [if_neg (by rw [he]; simp)] at hsc
         refine ⟨k + 1, StLe.auto (by simp only [sx2, encs, sxR, sevalprocAttr] <;> (try simp [hsc, encs]) <;> (try omega)), ?_, ?_⟩
         · omega
         · omega
         done)
      | (have he : bgB l s k = true := by
           rw [hB]
           simp only [Bool.and_eq_true, decide_eq_true_eq]
           refine ⟨?_, ?_⟩ <;> assumption
         rw [if_pos he] at hsc
         rw [hsc] at hsk
         have hm : ((bgN l s k).map (bgY l) ++ [bgY l k]) <+: (bgN l s l.length).map (bgY l) := by
           have := hsk.map (bgY l)
           simpa using this
         have encs := And.intro encs hY
         trace_state
         refine YldI.of (ys := (bgN l s k).map (bgY l)) hok rfl rfl (by simp only [sx2, sxA, encs, sxR, sevalprocAttr] <;> rfl) (by simp only [sx2, sxA, encs, sxR, sevalprocAttr] <;> rfl) rfl rfl rfl (hm) ?_ ?_
         · simp only [↓sx0, sxE, encs, sevalprocAttr]
           repeat ((with_reducible refine Vc.go ?_ fun _ => ?_); (focus (first | omega | (simp only [InK]; omega) | (simp [InK] <;> omega))); simp only [↓sx0, sxE, encs, sevalprocAttr])
           refine ⟨k + 1, StLe.auto (by simp only [sx2, encs, sxR, sevalprocAttr] <;> (try simp [hsc, encs]) <;> (try omega)), ?_, ?_⟩
           · omega
           · omega
         · simp only [↓sx0, sxE, encs, sevalprocAttr]
           intro h
           cases h
         done)
  · simp only [↓sx0, sxE, encs, sevalprocAttr]
    have hke : k = l.length := by omega
    subst hke
    intro _
    rfl
end Go.Proofs.YtgcmppghjfidfaaGreatDoor
/-
 Chapter 2, walks: set words.
-/
namespace Go.Proofs.YtgcmppghjfidfaaGreatDoor
open Go Go.Vx
set_option maxRecDepth 20000
def stp (l : List Srt) (bars : List Int) (fr : Nat) (b : Int × Int) (i : Nat) : Int × Int :=
 if b.2 < ((l.getD i srt0).text.size : Int) ∧ bars.any (barS fr (l.getD i srt0).text.size) = false then ((i : Int), ((l.getD i srt0).text.size : Int)) else b
def bst (l : List Srt) (s : ByteArray) (bars : List Int) (fr : Nat) : Nat → Int × Int
 | 0 => (-1, 0)
 | m + 1 => stp l bars fr (bst l s bars fr m) ((bgN l (s.extract fr s.size) l.length).getD m 0)
def bstA (l : List Srt) (s : ByteArray) (bars : List Int) (fr : Nat) : Int × Int := bst l s bars fr (bgN l (s.extract fr s.size) l.length).length
theorem bst_ok (l : List Srt) (s : ByteArray) (bars : List Int) (fr : Nat) (hfr : fr ≤ s.size) : ∀ m, m ≤ (bgN l (s.extract fr s.size) l.length).length →
  ((bst l s bars fr m).1 = -1 ∧ (bst l s bars fr m).2 = 0 ∨ 0 ≤ (bst l s bars fr m).1 ∧ (bst l s bars fr m).1 < l.length ∧ 1 ≤ (bst l s bars fr m).2 ∧ (bst l s bars fr m).2 + fr ≤ s.size)
 | 0, _ => .inl ⟨rfl, rfl⟩
 | m + 1, h => by
  have ih := bst_ok l s bars fr hfr m (by omega)
  rw [bst, stp]
  split
  ·rename_i hc
   have hg : (bgN l (s.extract fr s.size) l.length).getD m 0 = (bgN l (s.extract fr s.size) l.length)[m] := by rw [List.getD_eq_getElem?_getD, List.getElem?_eq_getElem (by omega)]; rfl
   have hm := bgN_mem (List.getElem_mem (show m < (bgN l (s.extract fr s.size) l.length).length by omega))
   rw [ByteArray.size_extract, ← hg] at hm
   right
   simp only
   omega
  ·exact ih
theorem bstA_ok (l : List Srt) (s : ByteArray) (bars : List Int) (fr : Nat) (hfr : fr ≤ s.size) (h : ¬ (bstA l s bars fr).1 < 0) :
  0 ≤ (bstA l s bars fr).1 ∧ (bstA l s bars fr).1 < l.length ∧ 1 ≤ (bstA l s bars fr).2 ∧ (bstA l s bars fr).2 + fr ≤ s.size := by
 have := bst_ok l s bars fr hfr _ (Nat.le_refl _)
 unfold bstA at h ⊢
 omega
inductive SetR (l : List Srt) (s : ByteArray) (bars : List Int) : Nat → Option (List Int) → Prop
 | done {fr : Nat} : s.size ≤ fr → SetR l s bars fr (some [])
 | none {fr : Nat} : fr < s.size → (bstA l s bars fr).1 < 0 → SetR l s bars fr none
 | step {fr : Nat} {r : Option (List Int)} : fr < s.size → ¬ (bstA l s bars fr).1 < 0 → SetR l s bars (fr + (bstA l s bars fr).2.toNat) r → SetR l s bars fr (r.map ((bstA l s bars fr).1 :: ·))
theorem SetR.det {l : List Srt} {s : ByteArray} {bars : List Int} {fr : Nat} {a b : Option (List Int)} (h : SetR l s bars fr a) (k : SetR l s bars fr b) : a = b := by
 induction h generalizing b with
 | done h1 => cases k <;> first | rfl | omega
 | none h1 h2 => cases k <;> first | rfl | omega
 | step h1 h2 h3 ih =>
  cases k with
  | done => omega
  | none => omega
  | step k1 k2 k3 => rw [ih k3]
theorem SetR.mem {l : List Srt} {s : ByteArray} {bars : List Int} {fr : Nat} {a : Option (List Int)} (h : SetR l s bars fr a) : ∀ r, a = some r → ∀ e ∈ r, 0 ≤ e ∧ e < l.length := by
 induction h with
 | done h1 => intro r hr e he; cases hr; cases he
 | none h1 h2 => intro r hr; cases hr
 | @step fr r0 h1 h2 h3 ih =>
  intro r hr e he
  cases r0 with
  | none => cases hr
  | some q =>
   cases hr
   rcases List.mem_cons.1 he with rfl | he
   ·have := bstA_ok l s bars fr (by omega) h2
    omega
   ·exact ih q rfl e he
theorem SetR.len {l : List Srt} {s : ByteArray} {bars : List Int} {fr : Nat} {a : Option (List Int)} (h : SetR l s bars fr a) : ∀ r, a = some r → r.length ≤ s.size - fr := by
 induction h with
 | done h1 => intro r hr; cases hr; simp
 | none h1 h2 => intro r hr; cases hr
 | @step fr r0 h1 h2 h3 ih =>
  intro r hr
  cases r0 with
  | none => cases hr
  | some q =>
   cases hr
   have i1 := ih q rfl
   have i2 := bstA_ok l s bars fr (by omega) h2
   simp only [List.length_cons]
   omega
def SetP (l : List Srt) (s : ByteArray) (bars : List Int) (rr : Ret) : Prop := ∃ (r : Option (List Int)), rr = ⟨.tup [.sl true 1 ((r.getD []).map eI), (.v (.bool (r.isSome)))], []⟩ ∧ SetR l s bars 0 r
set_option maxHeartbeats 16000000 in
theorem set_s (n : ByteArray) (bd : Int) (l : List Srt) (s : ByteArray) (b : Bool) (bars : List Int) (hs : s.size ≤ 1000000) (hl : l.length ≤ 1000000) (hz : ∀ x ∈ l, SrtOk x) (hb : bars.length ≤ 1000000) : Ctr Tryz.prog 62 [.agg [(.v (.string (n))), (.v (.int .i64 bd)), .sl true 4 (l.map eT)], (.v (.string (s))), .sl b 1 (bars.map eI)] (SetP l s bars) := by
 have encs := And.intro encs (And.intro eT_def bgC_eq)
 refine Ctr.of (rs := [.tmp 6, .tmp 7]) Tok true Tryz.func62 rfl rfl rfl rfl (by simp [ofDL]) (fun w0 kp => ?_)
 simp only [↓sx0, sxE, encs, sevalprocAttr]
 refine LoopW.comp [1, 3, 5, 8, 9, 12, 13, 23, 24, 25, 26, 27, 28, 29, 30, 31, 32, 33, 34, 35, 36] (by simp only [sx2, encs, sxR, sevalprocAttr] <;> (try simp) <;> (try omega)) ?_
 simp only [sx2, sxR, sevalprocAttr]
 refine LoopW.up Tok (fun x : Nat × List Int => [(8, .row 0), (9, .box 2 0)]) (fun x => [(2, [(.v (.int .i64 ((x.1 : Int))))])]) (fun x => []) (fun x => [.own 3 1 (x.2.map eI)]) (fun x => x.1 ≤ s.size ∧ x.2.length ≤ x.1 ∧ ∀ r, SetR l s bars x.1 r → SetR l s bars 0 (r.map (x.2 ++ ·))) (fun x => s.size - x.1) ((0, [])) (by simp only [sx2, encs, sxR, sevalprocAttr] <;> (try simp) <;> (try omega)) ?_ ?_
 ·exact ⟨Nat.zero_le _, Nat.le_refl _, fun r h => by simpa using h⟩
 rintro ⟨fr, out⟩ ⟨hfr, hout, hR⟩
 simp only at hfr hout hR
 simp only [↓sx0, sxE, encs, sevalprocAttr]
 refine BrW.dec (fun hlt => ?_) (fun hlt => ?_)
 ·simp only [↓sx0, sxE, encs, sevalprocAttr]
  have hfl : fr < s.size := by omega
  refine DrawW.plan Tok mixed (.q 0 <| .q 1 <| .q 2 <| .q 3 <| .e 4 [] <| .done) (by kernel_rfl) (by kernel_rfl) ?_
  simp only [↓sx0, sxE, encs, sevalprocAttr]
  repeat ((with_reducible refine Vc.go ?_ fun _ => ?_); (focus (first | omega | (simp only [InK]; omega) | (simp [InK] <;> omega))); simp only [↓sx0, sxE, encs, sevalprocAttr])
  have hxs : (s.extract fr s.size).size ≤ 1000000 := by rw [ByteArray.size_extract]; omega
  rw [Int.toNat_natCast]
  refine CallI.fn (begins_s n bd l (s.extract fr s.size)) (by simp only [sx3, encs, sxR, sevalprocAttr] <;> (try simp) <;> (try rfl)) ?_
  simp only [↓sx0, sxE, encs, sevalprocAttr]
  have hit := beginsIt_s n bd l (s.extract fr s.size) hxs hl hz
  have encs := And.intro encs (show bst l s bars fr 0 = (-1, 0) from rfl)
  refine RangeW.it Tok (fun _ => rfl) (fun hro => by first | rfl | exact (by rw [hro] at *; contradiction)) (hit) [(1, (.v (.string (s)))), (3, .box 0 0), (5, .box 1 0), (8, .row 0), (9, .box 2 0), (10, .box 3 0), (11, .box 4 0), (22, .clo 145 (bgC n bd l (s.extract fr s.size)))] (fun ys => [some ⟨125, [(.v (.string (n))), (.v (.int .i64 bd)), .sl true 4 (l.map eT)]⟩, some ⟨60, [.sl b 1 (bars.map eI)]⟩, some ⟨3, [(.v (.int .i64 ((fr : Int))))]⟩, some ⟨3, [(.v (.int .i64 ((bst l s bars fr ys.length).1)))]⟩, some ⟨3, [(.v (.int .i64 ((bst l s bars fr ys.length).2)))]⟩]) (fun ys => [.own 3 1 (out.map eI)]) (fun _ => True) trivial (by simp only [sx2, encs, sxR, sevalprocAttr] <;> (try simp) <;> (try omega)) rfl rfl (by intro d hd; obtain ⟨p, -, rfl⟩ := List.mem_map.1 hd; rfl) ?_ (fun hJall => ?_)
  ·rintro pre d hpre - ρ σ μ ho' hy hs'
   obtain ⟨q, hq⟩ := hpre
   have hn : pre.length < (bgN l (s.extract fr s.size) l.length).length := by
    have := congrArg List.length hq
    simp at this; omega
   have hd : d = bgY l (bgN l (s.extract fr s.size) l.length)[pre.length] := by
    have : ((bgN l (s.extract fr s.size) l.length).map (bgY l))[pre.length]? = some d := by rw [← hq]; simp
    simpa [List.getElem?_eq_getElem hn, eq_comm] using this
   subst hd
   obtain ⟨yd', ro, mks, fr2, lp, sz⟩ := ho'
   have hmm := bgN_mem (List.getElem_mem hn)
   rw [ByteArray.size_extract] at hmm
   have hsu : bst l s bars fr (pre.length + 1) = stp l bars fr (bst l s bars fr pre.length) (bgN l (s.extract fr s.size) l.length)[pre.length] := by
    rw [bst, List.getD_eq_getElem?_getD, List.getElem?_eq_getElem hn]; rfl
   have hlen2 : (pre ++ [bgY l (bgN l (s.extract fr s.size) l.length)[pre.length]]).length = pre.length + 1 := by simp
   rw [hlen2, hsu]
   have hby : bgY l (bgN l (s.extract fr s.size) l.length)[pre.length] = [(.v (.int .i64 (((bgN l (s.extract fr s.size) l.length)[pre.length] : Int)))), (.v (.int .i64 (((l.getD (bgN l (s.extract fr s.size) l.length)[pre.length] srt0).text.size : Int))))] := rfl
   rw [hby]
   generalize (bgN l (s.extract fr s.size) l.length)[pre.length] = i at hmm ⊢
   have hst : ∀ bm, stp l bars fr bm i = if bm.2 < ((l.getD i srt0).text.size : Int) ∧ bars.any (barS fr (l.getD i srt0).text.size) = false then ((i : Int), ((l.getD i srt0).text.size : Int)) else bm := fun _ => rfl
   generalize (l.getD i srt0).text.size = z at hmm hst ⊢
   rw [hst]
   generalize bst l s bars fr pre.length = bm
   have hba := barred_s b bars fr z (by omega) (by omega)
   simp only [↓sx0, sxE, encs, sevalprocAttr]
   intro fr'
   by_cases h1 : bm.2 < (z : Int)
   ·refine BrW.yes h1 ?_
    simp only [↓sx0, sxE, encs, sevalprocAttr]
    refine CallI.fn (hba) (by simp only [sx3, encs, sxR, sevalprocAttr] <;> (try simp) <;> (try rfl)) ?_
    simp only [↓sx0, sxE, encs, sevalprocAttr]
    refine BrW.of (fun h2 => ?_) (fun h2 => ?_)
    ·rw [if_neg (by rw [h2]; simp)]
     simp only [↓sx0, sxE, encs, sevalprocAttr]
     simp only [sx2, encs, sxR, sevalprocAttr] <;> (try simp) <;> (try omega)
    ·rw [if_pos ⟨h1, h2⟩]
     simp only [↓sx0, sxE, encs, sevalprocAttr]
     simp only [sx2, encs, sxR, sevalprocAttr] <;> (try simp) <;> (try omega)
   ·refine BrW.no h1 ?_
    rw [if_neg (fun h => h1 h.1)]
    simp only [↓sx0, sxE, encs, sevalprocAttr]
    simp only [sx2, encs, sxR, sevalprocAttr] <;> (try simp) <;> (try omega)
  ·rw [List.length_map, show bst l s bars fr (bgN l (s.extract fr s.size) l.length).length = bstA l s bars fr from rfl]
   simp only [↓sx0, sxE, encs, sevalprocAttr]
   refine BrW.dec (fun hneg => ?_) (fun hneg => ?_)
   ·simp only [↓sx0, sxE, encs, sevalprocAttr]
    have h1 := hR none (SetR.none hfl hneg)
    exact EndW.p (.tup [.sl true 1 [], (.v (.bool (false)))]) ⟨none, rfl, h1⟩ (by simp [leV, leL]) (by simp [kpV, kpVL, kpLL])
   ·obtain ⟨q1, q2, q3, q4⟩ := bstA_ok l s bars fr hfr hneg
    simp only [↓sx0, sxE, encs, sevalprocAttr]
    refine DrawW.plan Tok mixed (.q 0 <| .q 1 <| .q 4 <| .q 5 <| .q 6 <| .e 2 [4, 5] <| .e 3 [4, 5] <| .q 7 <| .e 8 [] <| .done) (by kernel_rfl) (by kernel_rfl) ?_
    simp only [↓sx0, sxE, encs, sevalprocAttr]
    repeat ((with_reducible refine Vc.go ?_ fun _ => ?_); (focus (first | omega | (simp only [InK]; omega) | (simp [InK] <;> omega))); simp only [↓sx0, sxE, encs, sevalprocAttr])
    have hmap : (out ++ [(bstA l s bars fr).1]).map eI = out.map eI ++ [[.v (.int .i64 (bstA l s bars fr).1)]] := by simp [eI]
    have hnat : ((fr + (bstA l s bars fr).2.toNat : Nat) : Int) = (fr : Int) + (bstA l s bars fr).2 := by omega
    refine ⟨(fr + (bstA l s bars fr).2.toNat, out ++ [(bstA l s bars fr).1]), StLe.auto (by simp only [sx2, encs, sxR, sevalprocAttr] <;> (try simp [hmap, hnat, encs]) <;> (try omega)), ?_, ?_⟩
    ·refine ⟨by simp only; omega, by simp; omega, fun r hr => ?_⟩
     have := hR _ (SetR.step hfl hneg hr)
     rw [Option.map_map] at this
     simpa [Function.comp_def] using this
    ·simp only; omega
 ·simp only [↓sx0, sxE, encs, sevalprocAttr]
  have h1 := hR (some []) (SetR.done (by omega))
  simp only [Option.map_some, List.append_nil] at h1
  exact EndW.p (.tup [.sl true 1 (out.map eI), (.v (.bool (true)))]) ⟨some out, rfl, h1⟩ (by simp [leV, leL]) (by simp only [kpV, kpVL, kpLL_map]; simp [kpL, kpD, eI])
end Go.Proofs.YtgcmppghjfidfaaGreatDoor
/-
 Chapter 2, walks: where set words may be divided (only that there is an answer).
-/
namespace Go.Proofs.YtgcmppghjfidfaaGreatDoor
open Go Go.Vx
set_option maxRecDepth 20000
theorem indexIX_s (b : Bool) (l : List Int) (x : Int) (hl : l.length ≤ 1000000000) : Ctr Tryz.prog 170 [.sl b 1 (l.map eI), (.v (.int .i64 x))] AnyI := by
 refine Ctr.of (rs := [.tmp 4]) Tok true Tryz.func170 rfl rfl rfl rfl (by simp [ofDL]) (fun w0 kp => ?_)
 simp only [↓sx0, xE, sevalprocAttr]
 refine LoopW.comp [0, 1, 7, 8] (by simp only [sx2, xR, sevalprocAttr] <;> (try simp) <;> (try omega)) ?_
 simp only [sx2, sxR, sevalprocAttr]
 refine LoopW.up Tok (fun k : Nat => [(8, (.v (.int .i64 k)))]) (fun k => []) (fun k => []) (fun k => []) (fun k => k ≤ l.length) (fun k => l.length - k) (0) (by simp only [sx2, xR, sevalprocAttr] <;> (try simp) <;> (try omega)) ?_ ?_
 ·omega
 rintro k hk
 simp only [↓sx0, xE, sevalprocAttr]
 by_cases hlt : k < l.length
 ·refine BrW.yes (by omega) ?_
  simp only [↓sx0, xE, sevalprocAttr]
  refine IxW.nat hlt ?_
  simp only [↓sx0, xE, sevalprocAttr]
  refine BrW.dec (fun he => ?_) (fun he => ?_)
  ·simp only [↓sx0, xE, sevalprocAttr]
   exact EndI ⟨_, rfl⟩
  ·repeat' (first | (with_reducible refine BrW.yes (by omega) ?_) | (with_reducible refine BrW.no (by omega) ?_) | (with_reducible refine BrW.dec (fun _ => ?_) (fun _ => ?_)) | (with_reducible refine BrW.of (fun _ => ?_) (fun _ => ?_)) | ((with_reducible refine Vc.go ?_ fun _ => ?_); (focus (first | omega | (simp only [InK]; omega) | (simp [InK] <;> omega)))) | simp only [↓sx0, xE, sevalprocAttr])
   refine ⟨k + 1, StLe.auto (by simp only [sx2, xR, sevalprocAttr] <;> (try simp) <;> (try omega)), ?_, ?_⟩
   ·omega
   ·omega
 ·refine BrW.no (by omega) ?_
  simp only [↓sx0, xE, sevalprocAttr]
  exact EndI ⟨_, rfl⟩
theorem containsIX_s (b : Bool) (l : List Int) (x : Int) (hl : l.length ≤ 1000000000) : Ctr Tryz.prog 136 [.sl b 1 (l.map eI), (.v (.int .i64 x))] (fun rr => ∃ e : Bool, rr = ⟨(.v (.bool (e))), []⟩) := by
 refine Ctr.of (rs := [.tmp 4]) Tok true Tryz.func136 rfl rfl rfl rfl (by simp [ofDL]) (fun w0 kp => ?_)
 simp only [↓sx0, xE, sevalprocAttr]
 refine CallI.ctr (indexIX_s b l x hl) (by simp only [sx3, xR, sevalprocAttr] <;> (try simp) <;> (try rfl)) ?_
 rintro _ ⟨e, rfl⟩
 simp only [↓sx0, xE, sevalprocAttr]
 exact EndB ⟨_, rfl⟩
def AnyL (rr : Ret) : Prop := ∃ br : List Int, rr = ⟨.sl true 1 (br.map eI), []⟩
set_option maxHeartbeats 4000000 in
theorem breaks_s (n : ByteArray) (bd : Int) (l : List Srt) (b1 b2 : Bool) (q ps : List Int) (hz : ∀ x ∈ l, SrtOk x) (hq : ∀ e ∈ q, 0 ≤ e ∧ e < l.length) (hql : q.length ≤ 1000000) (hp : ps.length ≤ 1000001) : Ctr Tryz.prog 92 [.agg [(.v (.string (n))), (.v (.int .i64 bd)), .sl true 4 (l.map eT)], .sl b1 1 (q.map eI), .sl b2 1 (ps.map eI)] AnyL := by
 have encs := And.intro encs eT_def
 refine Ctr.of (rs := [.tmp 6]) Tok true Tryz.func92 rfl rfl rfl rfl (by simp [ofDL]) (fun w0 kp => ?_)
 simp only [↓sx0, sxE, encs, sevalprocAttr]
 refine LoopW.comp [2, 3, 7, 8, 11, 12, 13] (by simp only [sx2, encs, sxR, sevalprocAttr] <;> (try simp) <;> (try omega)) ?_
 simp only [sx2, sxR, sevalprocAttr]
 refine LoopW.up Tok (fun x : Nat × List Int × Nat => [(7, .row 0), (8, (.v (.int .i64 ((x.2.2 : Int))))), (13, (.v (.int .i64 ((x.1 : Int)))))]) (fun x => []) (fun x => []) (fun x => [.own 3 1 (x.2.1.map eI)]) (fun x => x.1 ≤ q.length ∧ x.2.1.length ≤ x.1 ∧ x.2.2 ≤ x.1 * 1000000000) (fun x => q.length - x.1) ((0, [], 0)) (by simp only [sx2, encs, sxR, sevalprocAttr] <;> (try simp) <;> (try omega)) ?_ ?_
 ·exact ⟨Nat.zero_le _, Nat.le_refl _, by simp⟩
 rintro ⟨k, out, fr⟩ ⟨hk, ho, hf⟩
 simp only at hk ho hf
 simp only [↓sx0, sxE, encs, sevalprocAttr]
 by_cases hlt : k < q.length
 ·obtain ⟨g1, g2⟩ := hq _ (List.getElem_mem hlt)
  obtain ⟨i, hi⟩ : ∃ i : Nat, q[k] = (i : Int) := ⟨q[k].toNat, by omega⟩
  have hil : i < l.length := by omega
  obtain ⟨z1, z2⟩ := hz _ (List.getElem_mem hil)
  refine BrW.yes (by omega) ?_
  simp only [↓sx0, sxE, encs, sevalprocAttr]
  refine IxW.nat hlt ?_
  rw [hi]
  simp only [↓sx0, sxE, encs, sevalprocAttr]
  refine CallI.ctr (containsIX_s b2 ps (fr : Int) (by omega)) (by simp only [sx3, encs, sxR, sevalprocAttr] <;> (try simp) <;> (try rfl)) ?_
  rintro _ ⟨e, rfl⟩
  simp only [↓sx0, sxE, encs, sevalprocAttr]
  refine BrW.of (fun he => ?_) (fun he => ?_)
  ·simp only [↓sx0, sxE, encs, sevalprocAttr]
   repeat ((with_reducible refine Vc.go ?_ fun _ => ?_); (focus (first | omega | (simp only [InK]; omega) | (simp [InK] <;> omega))); simp only [↓sx0, sxE, encs, sevalprocAttr])
   refine IxW.nat hil ?_
   simp only [↓sx0, sxE, encs, sevalprocAttr]
   repeat ((with_reducible refine Vc.go ?_ fun _ => ?_); (focus (first | omega | (simp only [InK]; omega) | (simp [InK] <;> omega))); simp only [↓sx0, sxE, encs, sevalprocAttr])
   have hmap : (out ++ [(k : Int)]).map eI = out.map eI ++ [[.v (.int .i64 (k : Int))]] := by simp [eI]
   refine ⟨(k + 1, out ++ [(k : Int)], fr + l[i].text.size), StLe.auto (by simp only [sx2, encs, sxR, sevalprocAttr] <;> (try simp [hmap, encs]) <;> (try omega)), ?_, ?_⟩
   ·refine ⟨by simp only; omega, by simp; omega, by simp only; omega⟩
   ·simp only; omega
  ·simp only [↓sx0, sxE, encs, sevalprocAttr]
   refine IxW.nat hil ?_
   simp only [↓sx0, sxE, encs, sevalprocAttr]
   repeat ((with_reducible refine Vc.go ?_ fun _ => ?_); (focus (first | omega | (simp only [InK]; omega) | (simp [InK] <;> omega))); simp only [↓sx0, sxE, encs, sevalprocAttr])
   refine ⟨(k + 1, out, fr + l[i].text.size), StLe.auto (by simp only [sx2, encs, sxR, sevalprocAttr] <;> (try simp) <;> (try omega)), ?_, ?_⟩
   ·refine ⟨by simp only; omega, by simp only; omega, by simp only; omega⟩
   ·simp only; omega
 ·refine BrW.no (by omega) ?_
  simp only [↓sx0, sxE, encs, sevalprocAttr]
  exact EndW.p (.sl true 1 (out.map eI)) ⟨out, rfl⟩ (by simp [leV]) (by simp only [kpV, kpLL_map]; simp [kpL, kpD, eI])
end Go.Proofs.YtgcmppghjfidfaaGreatDoor
/-
  Chapter 2, raw: a word in small letters (only that there is an answer, not longer).
-/
namespace Go.Proofs.YtgcmppghjfidfaaGreatDoor
open Go Go.RowKit
def BkOk (w : World) (B n C : Nat) : Prop := ∃ cur, w.heap[B]? = some (.cells cur 5 (C, C + 1)) ∧ ∀ j, j < n → ∃ b : Nat, b < 256 ∧ cur[j]? = some (.int .u8 (b : Int))
theorem BkOk.cell {w : World} {B n C : Nat} (h : BkOk w B n C) (j : Nat) (hj : j < n) : ∃ b : Nat, b < 256 ∧ w.cell? ⟨B, j, none⟩ = some (.int .u8 (b : Int)) := by
  obtain ⟨cur, h1, h2⟩ := h
  obtain ⟨b, h3, h4⟩ := h2 j hj
  exact ⟨b, h3, by simp [World.cell?, h1, h4]⟩
theorem BkOk.free {w : World} {B n C : Nat} (h : BkOk w B n C) (hC : n ≤ C) (j : Nat) (hj : j < n) : w.frozen? ⟨B, j, none⟩ = false := by
  obtain ⟨cur, h1, h2⟩ := h
  simp [World.frozen?, h1]
  omega
theorem BkOk.set {w : World} {B n C : Nat} (h : BkOk w B n C) (j : Nat) (x : Nat) (hx : x < 256) : BkOk (w.setCell ⟨B, j, none⟩ (.int .u8 (x : Int))) B n C := by
  obtain ⟨cur, h1, h2⟩ := h
  have hlt := lt_of_block h1
  have h' : w.heap[B] = .cells cur 5 (C, C + 1) := by simpa [Array.getElem?_eq_getElem hlt] using h1
  refine ⟨cur.setIfInBounds j (.int .u8 (x : Int)), ?_, fun i hi => ?_⟩
  · show (w.heap.modify B _)[B]? = _
    rw [Array.getElem?_eq_getElem (by simpa using hlt), Array.getElem_modify_self, h']
    rfl
  · obtain ⟨b, h3, h4⟩ := h2 i hi
    by_cases hij : j = i
    · subst hij
      have : j < cur.size := (Array.getElem?_eq_some_iff.1 h4).1
      exact ⟨x, hx, by simp [this]⟩
    · exact ⟨b, h3, by rw [Array.getElem?_setIfInBounds_ne hij]; exact h4⟩
theorem BkOk.bytes {w : World} {B n C : Nat} (h : BkOk w B n C) : ∃ l : List UInt8, l.length = n ∧ ∀ j (hj : j < l.length), w.cell? ((⟨B, 0, none⟩ : Addr).add j) = some (.int .u8 (l[j].toNat : Int)) := by
  have key : ∀ m, m ≤ n → ∃ l : List UInt8, l.length = m ∧ ∀ j (hj : j < l.length), w.cell? ⟨B, j, none⟩ = some (.int .u8 (l[j].toNat : Int)) := by
    intro m
    induction m with
    | zero => exact fun _ => ⟨[], rfl, fun j hj => by simp at hj⟩
    | succ m ih =>
      intro hm
      obtain ⟨l, h1, h2⟩ := ih (by omega)
      obtain ⟨b, h3, h4⟩ := h.cell m (by omega)
      refine ⟨l ++ [UInt8.ofNat b], by simp [h1], fun j hj => ?_⟩
      by_cases hjm : j < l.length
      · rw [List.getElem_append_left hjm]; exact h2 j hjm
      · have : j = m := by simp at hj; omega
        subst this
        rw [List.getElem_append_right (by omega)]
        simp [h4, h1, Nat.mod_eq_of_lt h3]
  obtain ⟨l, h1, h2⟩ := key n (Nat.le_refl _)
  refine ⟨l, h1, fun j hj => ?_⟩
  have := h2 j hj
  have e : ((⟨B, 0, none⟩ : Addr).add j) = ⟨B, j, none⟩ := by unfold Addr.add; split <;> simp_all
  rw [e]; exact this
set_option maxHeartbeats 1600000 in
set_option maxRecDepth 100000 in
theorem small_c (s : ByteArray) (w : World) (hs : s.size ≤ 1000000) : Calls Tryz.prog 137 #[.string s] w fun e w' => ∃ u : ByteArray, e = .returned (.string u) ∧ u.size = s.size ∧ Below w.heap.size w w' := by
  have hconv := run_bytes_of_string (P := Tryz.prog) w 9 88 5 s Tryz.underlying9 Tryz.underlying88 Tryz.underlying5
  have hge := grownCap_ge w s.size 0 5
  generalize grownCap w s.size 0 5 = cap at hconv hge
  have hCs : (bytesRow s cap).size = cap := by simp [bytesRow]; have : s.data.size = s.size := rfl; omega
  have hB0 : BkOk (w.drew.alloc (.cells (bytesRow s cap) 5 ((bytesRow s cap).size, (bytesRow s cap).size + 1))) w.heap.size s.size cap := by
    refine ⟨bytesRow s cap, ?_, fun j hj => ⟨(s.data[j]'hj).toNat, UInt8.toNat_lt _, ?_⟩⟩
    · rw [hCs]; exact heap_alloc_new w.drew _
    · unfold bytesRow
      rw [Array.getElem?_append_left (by simpa using hj)]
      have : j < s.data.size := hj
      simp only [Array.getElem?_map, Array.getElem?_eq_getElem this, Option.map_some]
  have hBe : Below w.heap.size w (w.drew.alloc (.cells (bytesRow s cap) 5 ((bytesRow s cap).size, (bytesRow s cap).size + 1))) := ((Below.refl _ _).drew).alloc (Nat.le_refl _) _
  generalize w.drew.alloc (.cells (bytesRow s cap) 5 ((bytesRow s cap).size, (bytesRow s cap).size + 1)) = w1 at hconv hB0 hBe
  clear hCs
  go_enter Tryz.func137, Tryz.ntmps137
  go_wp2
  go_loopw [10] (fun v10 wr => ∃ k : Nat, v10 = .int .i64 (k : Int) ∧ k ≤ s.size ∧ BkOk wr w.heap.size s.size cap ∧ Below w.heap.size w wr) (fun v10 _ => s.size - (intOf v10).toNat)
  case atStart => exact ⟨0, rfl, Nat.zero_le _, hB0, hBe⟩
  case round =>
    obtain ⟨k, rfl, hk, hbk, hbl⟩ := hrel
    by_cases hk2 : k < s.size
    · obtain ⟨b, hb, hc⟩ := hbk.cell k hk2
      have hf := hbk.free hge k hk2
      have hst := fun x hx => hbk.set k x hx
      go_wp2
      all_goals first
        | (refine ⟨⟨k + 1, by simp, hk2, hbk, hbl⟩, by simp [intOf]; omega⟩; done)
        | (refine ⟨⟨k + 1, by simp, hk2, ?_, hbl.setCell (Nat.le_refl _) _⟩, by simp [intOf]; omega⟩
           rw [show ((b : Int) - 65 + 97) = ((b + 32 : Nat) : Int) by omega]
           exact hst _ (by omega))
    · obtain ⟨l, hl, hcl⟩ := hbk.bytes
      have hback := run_convert_bytes_back (P := Tryz.prog) wr 88 9 5 ⟨w.heap.size, 0, none⟩ cap l Tryz.underlying88 Tryz.underlying5 Tryz.underlying9 hcl
      rw [hl] at hback
      go_wp2
      go_ret
      exact ⟨_, rfl, by show l.toArray.size = _; rw [List.size_toArray, hl], hbl⟩
open Go.Vx in
theorem small_s (s : ByteArray) (hs : s.size ≤ 1000000) : Ctr Tryz.prog 137 [(.v (.string (s)))] (fun rr => ∃ u : ByteArray, rr = ⟨(.v (.string (u))), []⟩ ∧ u.size = s.size) := by
  refine ⟨⟨_, Tryz.func137, rfl, rfl⟩, fun w kp hk vs hr => ?_⟩
  match vs, hr with
  | [a], ⟨h1, _⟩ =>
    simp only [rel] at h1
    rw [h1]
    refine Calls.mono (small_c s w hs) ?_
    rintro e w' ⟨u, rfl, hu, hb⟩
    exact ⟨_, ⟨(.v (.string (u))), []⟩, rfl, ⟨u, rfl, hu⟩, RetOk.plain hk hb fun g => rfl⟩
end Go.Proofs.YtgcmppghjfidfaaGreatDoor
